-- WRITTEN BY A PROGRAM OF THIS SESSION (wip/patch_print.py: the kit's printer with rules of this session's own); Lean checks it.
import Derived.Test.YtkoaeiiaagipeaaPMetaStaysx0
import Derived.Test.YtkoaeiiaagipeaaPMetaStaysx1
import Derived.Test.YtkoaeiiaagipeaaPMetaStaysx2
import Derived.Test.YtkoaeiiaagipeaaPMetaStaysx3
import Derived.Test.YtkoaeiiaagipeaaPMetaStaysx4
namespace Go.Proofs.Ytkoaeiiaagipeaa.PMetaStays
open Go.RowKit Go.Proofs.YtkoaeiiaagipeaaW.PrintWords Go.Proofs.YtkoaeiiaagipeaaW.PrintLast Go.Proofs.YtkoaeiiaagipeaaW.PrintMore
open Go.Proofs.Ytkoaeiiaagipeaa.G
attribute [local go_sem] max2_int min2_int max_two min_two max_three min_three max_four min_four   -- for this text's walks alone
set_option linter.unusedVariables false
set_option linter.unusedSimpArgs false

/-! ### fascinelaw14_MetaStays: function 5 -/
mutual
def fascinelaw14_MetaStays.l0 : Nat → List (S39) → Int → Int → List (S42) → Option (Bool)
 | 0, _, _, _, _ => none
 | k + 1, x3, x12, x152000, x152001 => if x12 < (x3.length : Int) then (fascinelaw14_MetaStays.j1 k x3 x12 (decide (x12 < 50)) x152000 x152001) else (fascinelaw14_MetaStays.j1 k x3 x12 false x152000 x152001)
def fascinelaw14_MetaStays.j1 : Nat → List (S39) → Int → Bool → Int → List (S42) → Option (Bool)
 | 0, _, _, _, _, _ => none
 | k + 1, x3, x12, x48, x152000, x152001 => if x48 = true then (if 0 ≤ x12 then (if x12 < (x3.length : Int) then ((meta_Apply.f k x152000 x152001 ((rd_T39 x3 x12).f0) ((rd_T39 x3 x12).f1) ((rd_T39 x3 x12).f2) ((rd_T39 x3 x12).f3)).bind fun bt153 => ((meta_Form.f k bt153.1 bt153.2.1).bind fun t159 => (if t159 = true then (fascinelaw14_MetaStays.j2 k x3 x12 bt153.2.2 ((bt153.2.1.length : Int) != (x152001.length : Int)) x152000 x152001 bt153.1 bt153.2.1) else (fascinelaw14_MetaStays.j2 k x3 x12 bt153.2.2 true x152000 x152001 bt153.1 bt153.2.1)))) else (none)) else (none)) else (some true)
def fascinelaw14_MetaStays.j2 : Nat → List (S39) → Int → Bool → Bool → Int → List (S42) → Int → List (S42) → Option (Bool)
 | 0, _, _, _, _, _, _, _, _ => none
 | k + 1, x3, x12, x14, x71, x152000, x152001, x159000, x159001 => if x71 = true then (some false) else (fascinelaw14_MetaStays.l1 k x3 x12 x14 0 0 x152000 x152001 x159000 x159001)
def fascinelaw14_MetaStays.l1 : Nat → List (S39) → Int → Bool → Int → Int → Int → List (S42) → Int → List (S42) → Option (Bool)
 | 0, _, _, _, _, _, _, _, _, _ => none
 | k + 1, x3, x12, x14, x15, x16, x152000, x152001, x159000, x159001 => if x16 < (x152001.length : Int) then (if 0 ≤ x16 then (if x16 < (x159001.length : Int) then (if ((rd_T42 x159001 x16).f0) < ((rd_T42 x152001 x16).f0) then (fascinelaw14_MetaStays.j4 k x3 x12 x14 x15 x16 true x152000 x152001 x159000 x159001) else (fascinelaw14_MetaStays.j4 k x3 x12 x14 x15 x16 (decide (((rd_T42 x159001 x16).f1) < ((rd_T42 x152001 x16).f1))) x152000 x152001 x159000 x159001)) else (none)) else (none)) else (if 0 ≤ x12 then (if x12 < (x3.length : Int) then ((meta_Apply.f k x159000 x159001 ((rd_T39 x3 x12).f0) ((rd_T39 x3 x12).f1) ((rd_T39 x3 x12).f2) ((rd_T39 x3 x12).f3)).bind fun bt167 => (if (x14 != (x15 == 1)) = true then (fascinelaw14_MetaStays.j5 k x3 x12 true x159000 x159001) else (if x14 = true then (fascinelaw14_MetaStays.j5 k x3 x12 bt167.2.2 x159000 x159001) else (if x15 > 0 then (fascinelaw14_MetaStays.j5 k x3 x12 true x159000 x159001) else (fascinelaw14_MetaStays.j5 k x3 x12 false x159000 x159001))))) else (none)) else (none))
def fascinelaw14_MetaStays.j4 : Nat → List (S39) → Int → Bool → Int → Int → Bool → Int → List (S42) → Int → List (S42) → Option (Bool)
 | 0, _, _, _, _, _, _, _, _, _, _ => none
 | k + 1, x3, x12, x14, x15, x16, x106, x152000, x152001, x159000, x159001 => if x106 = true then (some false) else (if 0 ≤ x16 then (if x16 < (x159001.length : Int) then (if x16 < (x152001.length : Int) then (if ((rd_T42 x159001 x16).f0) = ((rd_T42 x152001 x16).f0) then (fascinelaw14_MetaStays.l1 k x3 x12 x14 x15 (wrap64 (x16 + 1)) x152000 x152001 x159000 x159001) else (fascinelaw14_MetaStays.l1 k x3 x12 x14 (wrap64 (x15 + 1)) (wrap64 (x16 + 1)) x152000 x152001 x159000 x159001)) else (none)) else (none)) else (none))
def fascinelaw14_MetaStays.j5 : Nat → List (S39) → Int → Bool → Int → List (S42) → Option (Bool)
 | 0, _, _, _, _, _ => none
 | k + 1, x3, x12, x148, x159000, x159001 => if x148 = true then (some false) else (fascinelaw14_MetaStays.l0 k x3 (wrap64 (x12 + 1)) x159000 x159001)
end
def fascinelaw14_MetaStays.f (k : Nat) (a0 : Int) (a1 : Int) (a2 : Int) (l3 : List (S39)) : Option (Bool) := (fascinelaw14_awake.f k).bind fun t145 => (if t145 = true then (if (wrap64 (1 + (Int.tmod (wrap64 (a0)) 5))) = 0 then (none) else ((meta_New.f k (wrap64 (1 + (Int.tmod (wrap64 (a0)) 5))) (wrap64 (1 + (Int.tmod (wrap64 (a1)) 8))) (wrap64 (1 + (Int.tmod (wrap64 (a2)) (wrap64 (1 + (Int.tmod (wrap64 (a0)) 5))))))).bind fun bt146 => (if bt146.2.2 = 0 then (fascinelaw14_MetaStays.l0 k l3 0 bt146.1 bt146.2.1) else (some false)))) else (some false))
theorem fascinelaw14_MetaStays.mono_l : ∀ k, (∀ y0 y1 y2 y3, LeO (fascinelaw14_MetaStays.l0 k y0 y1 y2 y3) (fascinelaw14_MetaStays.l0 (k + 1) y0 y1 y2 y3)) ∧ (∀ y0 y1 y2 y3 y4, LeO (fascinelaw14_MetaStays.j1 k y0 y1 y2 y3 y4) (fascinelaw14_MetaStays.j1 (k + 1) y0 y1 y2 y3 y4)) ∧ (∀ y0 y1 y2 y3 y4 y5 y6 y7, LeO (fascinelaw14_MetaStays.j2 k y0 y1 y2 y3 y4 y5 y6 y7) (fascinelaw14_MetaStays.j2 (k + 1) y0 y1 y2 y3 y4 y5 y6 y7)) ∧ (∀ y0 y1 y2 y3 y4 y5 y6 y7 y8, LeO (fascinelaw14_MetaStays.l1 k y0 y1 y2 y3 y4 y5 y6 y7 y8) (fascinelaw14_MetaStays.l1 (k + 1) y0 y1 y2 y3 y4 y5 y6 y7 y8)) ∧ (∀ y0 y1 y2 y3 y4 y5 y6 y7 y8 y9, LeO (fascinelaw14_MetaStays.j4 k y0 y1 y2 y3 y4 y5 y6 y7 y8 y9) (fascinelaw14_MetaStays.j4 (k + 1) y0 y1 y2 y3 y4 y5 y6 y7 y8 y9)) ∧ (∀ y0 y1 y2 y3 y4, LeO (fascinelaw14_MetaStays.j5 k y0 y1 y2 y3 y4) (fascinelaw14_MetaStays.j5 (k + 1) y0 y1 y2 y3 y4))
 | 0 => ⟨fun _ _ _ _ r h => by simp [fascinelaw14_MetaStays.l0] at h, fun _ _ _ _ _ r h => by simp [fascinelaw14_MetaStays.j1] at h, fun _ _ _ _ _ _ _ _ r h => by simp [fascinelaw14_MetaStays.j2] at h, fun _ _ _ _ _ _ _ _ _ r h => by simp [fascinelaw14_MetaStays.l1] at h, fun _ _ _ _ _ _ _ _ _ _ r h => by simp [fascinelaw14_MetaStays.j4] at h, fun _ _ _ _ _ r h => by simp [fascinelaw14_MetaStays.j5] at h⟩
 | k + 1 => by
  obtain ⟨ih0, ih1, ih2, ih3, ih4, ih5⟩ := fascinelaw14_MetaStays.mono_l k
  refine ⟨?_, ?_, ?_, ?_, ?_, ?_⟩
  ·intro y0 y1 y2 y3
   unfold fascinelaw14_MetaStays.l0
   repeat' first
   | (with_reducible exact ih0 _ _ _ _)
   | (with_reducible exact ih1 _ _ _ _ _)
   | (with_reducible exact ih2 _ _ _ _ _ _ _ _)
   | (with_reducible exact ih3 _ _ _ _ _ _ _ _ _)
   | (with_reducible exact ih4 _ _ _ _ _ _ _ _ _ _)
   | (with_reducible exact ih5 _ _ _ _ _)
   | (with_reducible exact fascinelaw14_awake.mono _)
   | (with_reducible exact meta_Apply.mono _ _ _ _ _ _ _)
   | (with_reducible exact meta_Form.mono _ _ _)
   | (with_reducible exact meta_New.mono _ _ _ _)
   | (with_reducible exact LeO.refl _)
   | (with_reducible exact LeO.none _)
   | (with_reducible refine LeO.ite ?_ ?_)
   | (with_reducible refine LeO.bind ?_ (fun _ => ?_))
   | exact ih0 _ _ _ _
   | exact ih1 _ _ _ _ _
   | exact ih2 _ _ _ _ _ _ _ _
   | exact ih3 _ _ _ _ _ _ _ _ _
   | exact ih4 _ _ _ _ _ _ _ _ _ _
   | exact ih5 _ _ _ _ _
   | exact fascinelaw14_awake.mono _
   | exact meta_Apply.mono _ _ _ _ _ _ _
   | exact meta_Form.mono _ _ _
   | exact meta_New.mono _ _ _ _
   | exact LeO.none _
   | refine LeO.ite ?_ ?_
   | refine LeO.bind ?_ (fun _ => ?_)
  ·intro y0 y1 y2 y3 y4
   unfold fascinelaw14_MetaStays.j1
   repeat' first
   | (with_reducible exact ih0 _ _ _ _)
   | (with_reducible exact ih1 _ _ _ _ _)
   | (with_reducible exact ih2 _ _ _ _ _ _ _ _)
   | (with_reducible exact ih3 _ _ _ _ _ _ _ _ _)
   | (with_reducible exact ih4 _ _ _ _ _ _ _ _ _ _)
   | (with_reducible exact ih5 _ _ _ _ _)
   | (with_reducible exact fascinelaw14_awake.mono _)
   | (with_reducible exact meta_Apply.mono _ _ _ _ _ _ _)
   | (with_reducible exact meta_Form.mono _ _ _)
   | (with_reducible exact meta_New.mono _ _ _ _)
   | (with_reducible exact LeO.refl _)
   | (with_reducible exact LeO.none _)
   | (with_reducible refine LeO.ite ?_ ?_)
   | (with_reducible refine LeO.bind ?_ (fun _ => ?_))
   | exact ih0 _ _ _ _
   | exact ih1 _ _ _ _ _
   | exact ih2 _ _ _ _ _ _ _ _
   | exact ih3 _ _ _ _ _ _ _ _ _
   | exact ih4 _ _ _ _ _ _ _ _ _ _
   | exact ih5 _ _ _ _ _
   | exact fascinelaw14_awake.mono _
   | exact meta_Apply.mono _ _ _ _ _ _ _
   | exact meta_Form.mono _ _ _
   | exact meta_New.mono _ _ _ _
   | exact LeO.none _
   | refine LeO.ite ?_ ?_
   | refine LeO.bind ?_ (fun _ => ?_)
  ·intro y0 y1 y2 y3 y4 y5 y6 y7
   unfold fascinelaw14_MetaStays.j2
   repeat' first
   | (with_reducible exact ih0 _ _ _ _)
   | (with_reducible exact ih1 _ _ _ _ _)
   | (with_reducible exact ih2 _ _ _ _ _ _ _ _)
   | (with_reducible exact ih3 _ _ _ _ _ _ _ _ _)
   | (with_reducible exact ih4 _ _ _ _ _ _ _ _ _ _)
   | (with_reducible exact ih5 _ _ _ _ _)
   | (with_reducible exact fascinelaw14_awake.mono _)
   | (with_reducible exact meta_Apply.mono _ _ _ _ _ _ _)
   | (with_reducible exact meta_Form.mono _ _ _)
   | (with_reducible exact meta_New.mono _ _ _ _)
   | (with_reducible exact LeO.refl _)
   | (with_reducible exact LeO.none _)
   | (with_reducible refine LeO.ite ?_ ?_)
   | (with_reducible refine LeO.bind ?_ (fun _ => ?_))
   | exact ih0 _ _ _ _
   | exact ih1 _ _ _ _ _
   | exact ih2 _ _ _ _ _ _ _ _
   | exact ih3 _ _ _ _ _ _ _ _ _
   | exact ih4 _ _ _ _ _ _ _ _ _ _
   | exact ih5 _ _ _ _ _
   | exact fascinelaw14_awake.mono _
   | exact meta_Apply.mono _ _ _ _ _ _ _
   | exact meta_Form.mono _ _ _
   | exact meta_New.mono _ _ _ _
   | exact LeO.none _
   | refine LeO.ite ?_ ?_
   | refine LeO.bind ?_ (fun _ => ?_)
  ·intro y0 y1 y2 y3 y4 y5 y6 y7 y8
   unfold fascinelaw14_MetaStays.l1
   repeat' first
   | (with_reducible exact ih0 _ _ _ _)
   | (with_reducible exact ih1 _ _ _ _ _)
   | (with_reducible exact ih2 _ _ _ _ _ _ _ _)
   | (with_reducible exact ih3 _ _ _ _ _ _ _ _ _)
   | (with_reducible exact ih4 _ _ _ _ _ _ _ _ _ _)
   | (with_reducible exact ih5 _ _ _ _ _)
   | (with_reducible exact fascinelaw14_awake.mono _)
   | (with_reducible exact meta_Apply.mono _ _ _ _ _ _ _)
   | (with_reducible exact meta_Form.mono _ _ _)
   | (with_reducible exact meta_New.mono _ _ _ _)
   | (with_reducible exact LeO.refl _)
   | (with_reducible exact LeO.none _)
   | (with_reducible refine LeO.ite ?_ ?_)
   | (with_reducible refine LeO.bind ?_ (fun _ => ?_))
   | exact ih0 _ _ _ _
   | exact ih1 _ _ _ _ _
   | exact ih2 _ _ _ _ _ _ _ _
   | exact ih3 _ _ _ _ _ _ _ _ _
   | exact ih4 _ _ _ _ _ _ _ _ _ _
   | exact ih5 _ _ _ _ _
   | exact fascinelaw14_awake.mono _
   | exact meta_Apply.mono _ _ _ _ _ _ _
   | exact meta_Form.mono _ _ _
   | exact meta_New.mono _ _ _ _
   | exact LeO.none _
   | refine LeO.ite ?_ ?_
   | refine LeO.bind ?_ (fun _ => ?_)
  ·intro y0 y1 y2 y3 y4 y5 y6 y7 y8 y9
   unfold fascinelaw14_MetaStays.j4
   repeat' first
   | (with_reducible exact ih0 _ _ _ _)
   | (with_reducible exact ih1 _ _ _ _ _)
   | (with_reducible exact ih2 _ _ _ _ _ _ _ _)
   | (with_reducible exact ih3 _ _ _ _ _ _ _ _ _)
   | (with_reducible exact ih4 _ _ _ _ _ _ _ _ _ _)
   | (with_reducible exact ih5 _ _ _ _ _)
   | (with_reducible exact fascinelaw14_awake.mono _)
   | (with_reducible exact meta_Apply.mono _ _ _ _ _ _ _)
   | (with_reducible exact meta_Form.mono _ _ _)
   | (with_reducible exact meta_New.mono _ _ _ _)
   | (with_reducible exact LeO.refl _)
   | (with_reducible exact LeO.none _)
   | (with_reducible refine LeO.ite ?_ ?_)
   | (with_reducible refine LeO.bind ?_ (fun _ => ?_))
   | exact ih0 _ _ _ _
   | exact ih1 _ _ _ _ _
   | exact ih2 _ _ _ _ _ _ _ _
   | exact ih3 _ _ _ _ _ _ _ _ _
   | exact ih4 _ _ _ _ _ _ _ _ _ _
   | exact ih5 _ _ _ _ _
   | exact fascinelaw14_awake.mono _
   | exact meta_Apply.mono _ _ _ _ _ _ _
   | exact meta_Form.mono _ _ _
   | exact meta_New.mono _ _ _ _
   | exact LeO.none _
   | refine LeO.ite ?_ ?_
   | refine LeO.bind ?_ (fun _ => ?_)
  ·intro y0 y1 y2 y3 y4
   unfold fascinelaw14_MetaStays.j5
   repeat' first
   | (with_reducible exact ih0 _ _ _ _)
   | (with_reducible exact ih1 _ _ _ _ _)
   | (with_reducible exact ih2 _ _ _ _ _ _ _ _)
   | (with_reducible exact ih3 _ _ _ _ _ _ _ _ _)
   | (with_reducible exact ih4 _ _ _ _ _ _ _ _ _ _)
   | (with_reducible exact ih5 _ _ _ _ _)
   | (with_reducible exact fascinelaw14_awake.mono _)
   | (with_reducible exact meta_Apply.mono _ _ _ _ _ _ _)
   | (with_reducible exact meta_Form.mono _ _ _)
   | (with_reducible exact meta_New.mono _ _ _ _)
   | (with_reducible exact LeO.refl _)
   | (with_reducible exact LeO.none _)
   | (with_reducible refine LeO.ite ?_ ?_)
   | (with_reducible refine LeO.bind ?_ (fun _ => ?_))
   | exact ih0 _ _ _ _
   | exact ih1 _ _ _ _ _
   | exact ih2 _ _ _ _ _ _ _ _
   | exact ih3 _ _ _ _ _ _ _ _ _
   | exact ih4 _ _ _ _ _ _ _ _ _ _
   | exact ih5 _ _ _ _ _
   | exact fascinelaw14_awake.mono _
   | exact meta_Apply.mono _ _ _ _ _ _ _
   | exact meta_Form.mono _ _ _
   | exact meta_New.mono _ _ _ _
   | exact LeO.none _
   | refine LeO.ite ?_ ?_
   | refine LeO.bind ?_ (fun _ => ?_)
theorem fascinelaw14_MetaStays.mono : ∀ a0 a1 a2 a3 k, LeO (fascinelaw14_MetaStays.f k a0 a1 a2 a3) (fascinelaw14_MetaStays.f (k + 1) a0 a1 a2 a3) := by
 intro a0 a1 a2 a3 k
 obtain ⟨ih0, ih1, ih2, ih3, ih4, ih5⟩ := fascinelaw14_MetaStays.mono_l k
 unfold fascinelaw14_MetaStays.f
 repeat' first
   | (with_reducible exact ih0 _ _ _ _)
   | (with_reducible exact ih1 _ _ _ _ _)
   | (with_reducible exact ih2 _ _ _ _ _ _ _ _)
   | (with_reducible exact ih3 _ _ _ _ _ _ _ _ _)
   | (with_reducible exact ih4 _ _ _ _ _ _ _ _ _ _)
   | (with_reducible exact ih5 _ _ _ _ _)
   | (with_reducible exact fascinelaw14_awake.mono _)
   | (with_reducible exact meta_Apply.mono _ _ _ _ _ _ _)
   | (with_reducible exact meta_Form.mono _ _ _)
   | (with_reducible exact meta_New.mono _ _ _ _)
   | (with_reducible exact LeO.refl _)
   | (with_reducible exact LeO.none _)
   | (with_reducible refine LeO.ite ?_ ?_)
   | (with_reducible refine LeO.bind ?_ (fun _ => ?_))
   | exact ih0 _ _ _ _
   | exact ih1 _ _ _ _ _
   | exact ih2 _ _ _ _ _ _ _ _
   | exact ih3 _ _ _ _ _ _ _ _ _
   | exact ih4 _ _ _ _ _ _ _ _ _ _
   | exact ih5 _ _ _ _ _
   | exact fascinelaw14_awake.mono _
   | exact meta_Apply.mono _ _ _ _ _ _ _
   | exact meta_Form.mono _ _ _
   | exact meta_New.mono _ _ _ _
   | exact LeO.none _
   | refine LeO.ite ?_ ?_
   | refine LeO.bind ?_ (fun _ => ?_)
def fascinelaw14_MetaStays.T10 : Bool × List (List Nat × List Nat) := (true, [([], []), ([], []), ([], []), ([1, 2], [1, 2]), ([3], [3]), ([0, 4], [0, 4]), ([5], [5]), ([6], [6]), ([6], [6]), ([], []), ([9, 7, 5, 0, 1, 2, 3, 4, 5, 6, 7, 9], [7, 9]), ([8, 10, 0, 1, 2, 3, 4, 5, 6, 7, 8, 9, 10], [8])])
def fascinelaw14_MetaStays.B10 : List Nat := [0, 0, 0, 6, 14, 31, 63, 127, 127, 0, 767, 2047]
theorem fascinelaw14_MetaStays.tab10 : rtab .any (opsOf Try.f5 10) = fascinelaw14_MetaStays.T10 := by kernel_rfl
theorem fascinelaw14_MetaStays.bits10 : waitsOk fascinelaw14_MetaStays.T10.2 fascinelaw14_MetaStays.B10 = true := by kernel_rfl
def fascinelaw14_MetaStays.T17 : Bool × List (List Nat × List Nat) := (true, [([], []), ([0], [0]), ([], []), ([1, 2], [1, 2]), ([3], [3]), ([4], [4]), ([], []), ([6], [6]), ([], []), ([7, 8], [7, 8]), ([9], [9]), ([10], [10]), ([5, 11], [5, 11]), ([12], [12]), ([13], [13]), ([14, 13], [13, 14]), ([13], [13]), ([15, 16, 13], [13, 15, 16]), ([17, 13], [13, 17]), ([18, 13], [13, 18]), ([13], [13]), ([20, 13], [13, 20]), ([13], [13]), ([21, 22, 13], [13, 21, 22]), ([23, 13], [13, 23]), ([24, 13], [13, 24]), ([19, 25, 13], [13, 19, 25]), ([13, 26], [13, 26])])
def fascinelaw14_MetaStays.B17 : List Nat := [0, 1, 0, 7, 15, 31, 0, 64, 0, 448, 960, 1984, 4095, 8191, 16383, 32767, 16383, 131071, 262143, 524287, 16383, 1064959, 16383, 7356415, 15745023, 32522239, 67108863, 134217727]
theorem fascinelaw14_MetaStays.tab17 : rtab .any (opsOf Try.f5 17) = fascinelaw14_MetaStays.T17 := by kernel_rfl
theorem fascinelaw14_MetaStays.bits17 : waitsOk fascinelaw14_MetaStays.T17.2 fascinelaw14_MetaStays.B17 = true := by kernel_rfl
def fascinelaw14_MetaStays.T19 : Bool × List (List Nat × List Nat) := (true, [([], []), ([0], [0]), ([], []), ([1, 2], [1, 2]), ([3], [3]), ([4], [4]), ([], []), ([6], [6]), ([], []), ([7, 8], [7, 8]), ([9], [9]), ([10], [10]), ([5, 11], [5, 11])])
def fascinelaw14_MetaStays.B19 : List Nat := [0, 1, 0, 7, 15, 31, 0, 64, 0, 448, 960, 1984, 4095]
theorem fascinelaw14_MetaStays.tab19 : rtab .any (opsOf Try.f5 19) = fascinelaw14_MetaStays.T19 := by kernel_rfl
theorem fascinelaw14_MetaStays.bits19 : waitsOk fascinelaw14_MetaStays.T19.2 fascinelaw14_MetaStays.B19 = true := by kernel_rfl
def fascinelaw14_MetaStays.T21 : Bool × List (List Nat × List Nat) := (true, [([], []), ([], []), ([], []), ([1, 2], [1, 2]), ([3], [3]), ([0, 4], [0, 4]), ([5], [5]), ([6], [6]), ([6], [6]), ([], []), ([9, 7, 5, 0, 1, 2, 3, 4, 5, 6, 7, 9], [7, 9]), ([8, 10, 0, 1, 2, 3, 4, 5, 6, 7, 8, 9, 10], [8])])
def fascinelaw14_MetaStays.B21 : List Nat := [0, 0, 0, 6, 14, 31, 63, 127, 127, 0, 767, 2047]
theorem fascinelaw14_MetaStays.tab21 : rtab .any (opsOf Try.f5 21) = fascinelaw14_MetaStays.T21 := by kernel_rfl
theorem fascinelaw14_MetaStays.bits21 : waitsOk fascinelaw14_MetaStays.T21.2 fascinelaw14_MetaStays.B21 = true := by kernel_rfl
set_option maxHeartbeats 8000000 in
set_option maxRecDepth 100000 in
theorem fascinelaw14_MetaStays.calls (k : Nat) (a0 : Int) (a1 : Int) (a2 : Int) (A3 : Option Addr) (c3 : Nat) (l3 : List (S39)) (r : Bool) (w : World) (hr3 : Kd.C k39 w A3 l3.length l3) (hc3 : l3.length ≤ c3) (h : fascinelaw14_MetaStays.f k a0 a1 a2 l3 = some r) (hr_ : r = true) :
  Calls Try.prog 5 #[.int .u8 a0, .int .u8 a1, .int .u8 a2, .slice A3 l3.length c3] w fun e w' => e = .returned (.bool r) ∧ Below w.heap.size w w' := by
 have HR_ := Aside0.mk hr_
 clear hr_
 have hu24 := Try.underlying24
 have hu39 := Try.underlying39
 have HR3 := Aside0.mk hr3
 have HC3 := Aside0.mk hc3
 clear hr3 hc3
 have HB := Aside0.mk (Below.refl w.heap.size w)
 have H : ((fascinelaw14_awake.f k).bind fun t145 => (if t145 = true then (if (wrap64 (1 + (Int.tmod (wrap64 (a0)) 5))) = 0 then (none) else ((meta_New.f k (wrap64 (1 + (Int.tmod (wrap64 (a0)) 5))) (wrap64 (1 + (Int.tmod (wrap64 (a1)) 8))) (wrap64 (1 + (Int.tmod (wrap64 (a2)) (wrap64 (1 + (Int.tmod (wrap64 (a0)) 5))))))).bind fun bt146 => (if bt146.2.2 = 0 then (fascinelaw14_MetaStays.l0 k l3 0 bt146.1 bt146.2.1) else (some false)))) else (some false))) = some r := h
 clear h
 replace H := Option.bind_eq_some_iff.mp H
 obtain ⟨t145, A50, H⟩ := H
 replace H : (if t145 = true then (if (wrap64 (1 + (Int.tmod (wrap64 (a0)) 5))) = 0 then (none) else ((meta_New.f k (wrap64 (1 + (Int.tmod (wrap64 (a0)) 5))) (wrap64 (1 + (Int.tmod (wrap64 (a1)) 8))) (wrap64 (1 + (Int.tmod (wrap64 (a2)) (wrap64 (1 + (Int.tmod (wrap64 (a0)) 5))))))).bind fun bt146 => (if bt146.2.2 = 0 then (fascinelaw14_MetaStays.l0 k l3 0 bt146.1 bt146.2.1) else (some false)))) else (some false)) = some r := H
 have A5 := Aside0.mk A50
 clear A50
 by_cases c6 : t145 = true
 ·subst c6
  have H1 : (if (wrap64 (1 + (Int.tmod (wrap64 (a0)) 5))) = 0 then (none) else ((meta_New.f k (wrap64 (1 + (Int.tmod (wrap64 (a0)) 5))) (wrap64 (1 + (Int.tmod (wrap64 (a1)) 8))) (wrap64 (1 + (Int.tmod (wrap64 (a2)) (wrap64 (1 + (Int.tmod (wrap64 (a0)) 5))))))).bind fun bt146 => (if bt146.2.2 = 0 then (fascinelaw14_MetaStays.l0 k l3 0 bt146.1 bt146.2.1) else (some false)))) = some r := by rw [if_pos rfl] at H; exact H
  clear H
  have H := H1
  clear H1
  by_cases c7 : (wrap64 (1 + (Int.tmod (wrap64 (a0)) 5))) = 0
  ·rw [if_pos c7] at H
   exact absurd H (by simp)
  ·rw [if_neg c7] at H
   have c7b0 : ((wrap64 (1 + (Int.tmod (wrap64 (a0)) 5))) == 0) = false := beq_eq_false_iff_ne.mpr c7
   have c7b1 : ((wrap64 (1 + (Int.tmod (wrap64 (a0)) 5))) != 0) = true := bne_iff_ne.mpr c7
   replace H := Option.bind_eq_some_iff.mp H
   obtain ⟨⟨t146, t147, t150⟩, A80, H⟩ := H
   replace H : (if t150 = 0 then (fascinelaw14_MetaStays.l0 k l3 0 t146 t147) else (some false)) = some r := H
   have A8 := Aside0.mk A80
   clear A80
   by_cases c9 : t150 = 0
   ·rw [if_pos c9] at H
    have c9b0 : (t150 == 0) = true := beq_iff_eq.mpr c9
    have c9b1 : (t150 != 0) = false := bne_eq_false_iff_eq.mpr c9
    clear c9
    have H' := Aside0.mk H
    clear H
    go_enter Try.func5, Try.ntmps5
    go_wp2_with (first | ((with_reducible refine gate_callee (f := 15) rfl ?_); refine goesL_ (some 19) rfl rfl Try.func15 (by kernel_rfl) rfl #[] rfl (by (try simp only [List.map_toArray, List.map_cons, List.map_nil]); first | done | rfl | (simp only [List.length_drop, List.length_take]; rfl)) ?_; (with_reducible refine (fascinelaw14_awake.calls k  true _ A5.out).mono ?_); rintro e w10 ⟨rfl, hb⟩; refine ⟨_, rfl, ?_⟩; have n0_ := Aside0.mk (below_step (by repeat (first | (with_reducible first | exact HB.out | apply below_alloc | apply pw_below_drewN | apply below_drew1) | exact HB.out)) hb); clear HB; have HB := n0_; clear n0_; (try clear hb); (try clear hb2); (try clear hk); (try clear hi)) | ((with_reducible refine gate_callee (f := 16) rfl ?_); refine goesL_ (some 36) rfl rfl Try.func16 (by kernel_rfl) rfl #[.int .i64 (wrap64 (1 + (Int.tmod (wrap64 (a0)) 5))), .int .i64 (wrap64 (1 + (Int.tmod (wrap64 (a1)) 8))), .int .i64 (wrap64 (1 + (Int.tmod (wrap64 (a2)) (wrap64 (1 + (Int.tmod (wrap64 (a0)) 5))))))] rfl (by (try simp only [List.map_toArray, List.map_cons, List.map_nil]); first | done | rfl | (simp only [List.length_drop, List.length_take]; rfl)) ?_; (with_reducible refine (meta_New.calls k (wrap64 (1 + (Int.tmod (wrap64 (a0)) 5))) (wrap64 (1 + (Int.tmod (wrap64 (a1)) 8))) (wrap64 (1 + (Int.tmod (wrap64 (a2)) (wrap64 (1 + (Int.tmod (wrap64 (a0)) 5)))))) t146 t147 t150 _ A8.out).mono ?_); rintro e w11 ⟨v148, rfl, ho0, hb⟩; refine ⟨_, rfl, ?_⟩; have n0_ := Aside0.mk (Kd.S_lower ho0 (below_size (by repeat (first | (with_reducible first | exact HB.out | apply below_alloc | apply pw_below_drewN | apply below_drew1) | exact HB.out)))); have n1_ := Aside0.mk (below_step (by repeat (first | (with_reducible first | exact HB.out | apply below_alloc | apply pw_below_drewN | apply below_drew1) | exact HB.out)) hb); clear HB; have HO149 := n0_; have HB := n1_; clear n0_ n1_; (try clear hb); (try clear hb2); (try clear hk); (try clear hi); (try clear ho0)) | ((with_reducible refine gate_dst (N := 10) rfl ?_); (try (refine gate_guard (by rfl) ?_; dsimp only)); refine box_event ?hg (N := 10) ?hd (cs := #[.int .i64 0, .slice none 0 0]) (t := 24) ?hr ?_; (case hd => rfl); (case hg => rfl); (case hr => first | (go_simp; done) | (go_simp; rfl)); intro gb151 hg w12 hbox hb; have n0_ := Aside0.mk (Kd.S_below (by (with_reducible repeat (first | apply Kd.S_alloc | apply Kd.S_drewN | apply Kd.S_drew)); exact HO149.out) hb); have n1_ := Aside0.mk (below_step (by repeat (first | (with_reducible first | exact HB.out | apply below_alloc | apply pw_below_drewN | apply below_drew1) | exact HB.out)) hb); have n2_ := Aside0.mk (hbox); have n3_ := Aside0.mk ((by rw [hg]; exact (below_size (by repeat (first | (with_reducible first | exact HB.out | apply below_alloc | apply pw_below_drewN | apply below_drew1) | exact HB.out))) : w.heap.size ≤ gb151)); have n4_ := Aside0.mk ((by rw [hg]; exact (below_size (by repeat (first | (with_reducible first | exact HB.out | apply below_alloc | apply pw_below_drewN | apply below_drew1) | exact HB.out))) : w.heap.size ≤ gb151)); clear HO149; clear HB; have HO149 := n0_; have HB := n1_; have BK151 := n2_; have GW151 := n3_; have GE151 := n4_; clear n0_ n1_ n2_ n3_ n4_; clear hb hbox hg; have hcz13_0 : w12.cell? ⟨gb151, 0, none⟩ = some (.int .i64 0) := (blk_cell BK151.out 0).trans rfl; have hcz13_1 : w12.cell? ⟨gb151, 1, none⟩ = some (.slice none 0 0) := (blk_cell BK151.out 1).trans rfl; have hfz13_0 := blk_frozen BK151.out 0; have hfz13_1 := blk_frozen BK151.out 1; obtain ⟨Ao14, co14, eo14⟩ := Kd.S_slice HO149.out; subst eo14))
    go_loopg [12] k (fun kq v12 w' => ∃ (x12_1 : Int) (x152000_1 : Int) (x152001_1 : List (S42)) (u152001 : Value), v12 = .int .i64 x12_1 ∧ Aside0 (fascinelaw14_MetaStays.l0 kq l3 x12_1 x152000_1 x152001_1 = some r) ∧ Aside0 (kq ≤ k) ∧ Aside0 (Kd.S k42 42 w' w.heap.size (fun _ => True) u152001 x152001_1) ∧ Aside0 (w'.heap[gb151]? = some (.cells #[.int .i64 x152000_1, u152001] 24 (0, 0))) ∧ Aside0 (Below w.heap.size w w'))
    case atStart => exact ⟨(0), (t146), (t147), (.slice Ao14 t147.length co14), (by first | rfl | (simp; done) | (simp [*]; done)), H', ⟨Nat.le_refl _⟩, ⟨by (with_reducible repeat (first | apply Kd.S_alloc | apply Kd.S_drewN | apply Kd.S_drew)); exact Kd.S_mono (Kd.S_far (p := ⟨gb151, 1, none⟩) (Kd.S_far (p := ⟨gb151, 0, none⟩) (Kd.S_types HO149.out BK151.out (by decide)) (fun _ hk => hk.2) (.int .i64 t146)) (fun _ hk => hk.2) (.slice Ao14 t147.length co14)) (fun _ hk => trivial)⟩, ⟨by (with_reducible repeat (first | refine blk_drewN ?_ _ | refine blk_drew ?_ | refine blk_alloc ?_ _)); refine blk_put (cs := #[.int .i64 t146, .slice none 0 0]) ?_ 1 _ rfl; (with_reducible repeat (first | refine blk_drewN ?_ _ | refine blk_drew ?_ | refine blk_alloc ?_ _)); refine blk_put (cs := #[.int .i64 0, .slice none 0 0]) ?_ 0 _ rfl; (with_reducible repeat (first | refine blk_drewN ?_ _ | refine blk_drew ?_ | refine blk_alloc ?_ _)); exact BK151.out⟩, ⟨by repeat (first | (with_reducible first | exact HB.out | apply below_alloc | apply pw_below_drewN | apply below_drew1 | refine below_set ?_ GE151.out) | exact HB.out)⟩⟩
    case round =>
     clear H'
     try clear c1
     try clear p2
     try clear c3
     try clear c5
     try clear c6
     try clear p6
     try clear c7
     try clear c7b0
     try clear c7b1
     try clear c9
     try clear c9b0
     try clear c9b1
     try clear hcz13_0
     try clear hcz13_1
     try clear hfz13_0
     try clear hfz13_1
     obtain ⟨x12_1, x152000_1, x152001_1, u152001, rfl, HA, HK1, HO_152001, BK151, HB⟩ := hrel
     cases gk with
     | zero => exact absurd HA.out (by simp [fascinelaw14_MetaStays.l0])
     | succ k1 =>
      have H := HA.out
      clear HA
      simp only [fascinelaw14_MetaStays.l0] at H
      have HC15 := Aside0.mk H
      clear H
      go_upto_region 8 with (fail)
      go_cut [48] (fun v48 wc => ∃ (kq : Nat) (x48_14 : Bool), v48 = .bool x48_14 ∧ Aside0 (fascinelaw14_MetaStays.j1 kq l3 x12_1 x48_14 x152000_1 x152001_1 = some r) ∧ Aside0 (kq ≤ k1) ∧ Aside0 (Kd.S k42 42 wc w.heap.size (fun _ => True) u152001 x152001_1) ∧ Aside0 (wc.heap[gb151]? = some (.cells #[.int .i64 x152000_1, u152001] 24 (0, 0))) ∧ Aside0 (Below w.heap.size w wc))
      case first =>
       have H := HC15.out
       clear HC15
       by_cases c16 : x12_1 < (l3.length : Int)
       ·rw [if_pos c16] at H
        have c16b0 : decide (x12_1 < (l3.length : Int)) = true := decide_eq_true c16
        clear c16
        (first | rw [c16b0] | (simp only [i64_w, i32_w]; rw [c16b0]) | skip)
        have H' := Aside0.mk H
        clear H
        go_wp2
        go_meet
        case rel => exact ⟨_, (decide (x12_1 < 50)), (by first | rfl | (simp; done) | (simp [*]; done)), H', ⟨by have := HK1.out; first | omega | exact Nat.le_refl _⟩, ⟨by (with_reducible repeat (first | apply Kd.S_alloc | apply Kd.S_drewN | apply Kd.S_drew)); exact HO_152001.out⟩, ⟨by (with_reducible repeat (first | refine blk_drewN ?_ _ | refine blk_drew ?_ | refine blk_alloc ?_ _)); exact BK151.out⟩, ⟨by repeat (first | (with_reducible first | exact HB.out | apply below_alloc | apply pw_below_drewN | apply below_drew1 | refine below_set ?_ GE151.out) | exact HB.out)⟩⟩
       ·rw [if_neg c16] at H
        have c16b0 : decide (x12_1 < (l3.length : Int)) = false := decide_eq_false c16
        clear c16
        (first | rw [c16b0] | (simp only [i64_w, i32_w]; rw [c16b0]) | skip)
        have H' := Aside0.mk H
        clear H
        go_wp2
        go_meet
        case rel => exact ⟨_, (false), (by first | rfl | (simp; done) | (simp [*]; done)), H', ⟨by have := HK1.out; first | omega | exact Nat.le_refl _⟩, ⟨by (with_reducible repeat (first | apply Kd.S_alloc | apply Kd.S_drewN | apply Kd.S_drew)); exact HO_152001.out⟩, ⟨by (with_reducible repeat (first | refine blk_drewN ?_ _ | refine blk_drew ?_ | refine blk_alloc ?_ _)); exact BK151.out⟩, ⟨by repeat (first | (with_reducible first | exact HB.out | apply below_alloc | apply pw_below_drewN | apply below_drew1 | refine below_set ?_ GE151.out) | exact HB.out)⟩⟩
      case rest =>
       clear HC15
       try clear c1
       try clear p2
       try clear c3
       try clear c5
       try clear c6
       try clear p6
       try clear c7
       try clear c7b0
       try clear c7b1
       try clear c9
       try clear c9b0
       try clear c9b1
       try clear c15
       try clear c16
       try clear c16b0
       try clear hcz13_0
       try clear hcz13_1
       try clear hfz13_0
       try clear hfz13_1
       try clear p2
       try clear p6
       obtain ⟨kq, x48_14, rfl, HA, HJ14, HO_152001, BK151, HB⟩ := hcut
       cases kq with
       | zero => exact absurd HA.out (by simp [fascinelaw14_MetaStays.j1])
       | succ kj14 =>
        have H := HA.out
        clear HA
        simp only [fascinelaw14_MetaStays.j1] at H
        by_cases c17 : x48_14 = true
        ·subst c17
         have H1 : (if 0 ≤ x12_1 then (if x12_1 < (l3.length : Int) then ((meta_Apply.f kj14 x152000_1 x152001_1 ((rd_T39 l3 x12_1).f0) ((rd_T39 l3 x12_1).f1) ((rd_T39 l3 x12_1).f2) ((rd_T39 l3 x12_1).f3)).bind fun bt153 => ((meta_Form.f kj14 bt153.1 bt153.2.1).bind fun t159 => (if t159 = true then (fascinelaw14_MetaStays.j2 kj14 l3 x12_1 bt153.2.2 ((bt153.2.1.length : Int) != (x152001_1.length : Int)) x152000_1 x152001_1 bt153.1 bt153.2.1) else (fascinelaw14_MetaStays.j2 kj14 l3 x12_1 bt153.2.2 true x152000_1 x152001_1 bt153.1 bt153.2.1)))) else (none)) else (none)) = some r := by rw [if_pos rfl] at H; exact H
         clear H
         have H := H1
         clear H1
         by_cases c18 : 0 ≤ x12_1
         ·rw [if_pos c18] at H
          have c18b0 : decide (0 ≤ x12_1) = true := decide_eq_true c18
          clear c18
          by_cases c19 : x12_1 < (l3.length : Int)
          ·rw [if_pos c19] at H
           have c19b0 : decide (x12_1 < (l3.length : Int)) = true := decide_eq_true c19
           clear c19
           replace H := Option.bind_eq_some_iff.mp H
           obtain ⟨⟨t153, t154, t157⟩, A200, H⟩ := H
           replace H : ((meta_Form.f kj14 t153 t154).bind fun t159 => (if t159 = true then (fascinelaw14_MetaStays.j2 kj14 l3 x12_1 t157 ((t154.length : Int) != (x152001_1.length : Int)) x152000_1 x152001_1 t153 t154) else (fascinelaw14_MetaStays.j2 kj14 l3 x12_1 t157 true x152000_1 x152001_1 t153 t154))) = some r := H
           have A20 := Aside0.mk A200
           clear A200
           have HC21 := Aside0.mk H
           clear H
           obtain ⟨Ao22, co22, eo22⟩ := Kd.S_slice HO_152001.out
           subst eo22
           try go_wp2
           (try (rw [drewN_self wc]; generalize hq_ : World.drewN wc _ = wc; have n0_ : Aside0 (Kd.S k42 42 wc w.heap.size (fun _ => True) (.slice Ao22 x152001_1.length co22) x152001_1) := ⟨by rw [← hq_]; exact (by (with_reducible repeat (first | apply Kd.S_alloc | apply Kd.S_drewN | apply Kd.S_drew)); exact HO_152001.out)⟩; have n1_ : Aside0 (wc.heap[gb151]? = some (.cells #[.int .i64 x152000_1, .slice Ao22 x152001_1.length co22] 24 (0, 0))) := ⟨by rw [← hq_]; exact (by (with_reducible repeat (first | refine blk_drewN ?_ _ | refine blk_drew ?_ | refine blk_alloc ?_ _)); exact BK151.out)⟩; have n2_ : Aside0 (Below w.heap.size w wc) := ⟨by rw [← hq_]; exact (by repeat (first | (with_reducible first | exact HB.out | apply below_alloc | apply pw_below_drewN | apply below_drew1 | refine below_set ?_ GE151.out) | exact HB.out))⟩; clear HO_152001 BK151 HB hq_; have HO_152001 := n0_; have BK151 := n1_; have HB := n2_; clear n0_ n1_ n2_))
           have n0_ := Aside0.mk (Kd.S_drew HO_152001.out)
           have n1_ := Aside0.mk (blk_drew BK151.out)
           have n2_ := Aside0.mk (below_drew1 HB.out)
           clear HO_152001
           clear BK151
           clear HB
           have HO_152001 := n0_
           have BK151 := n1_
           have HB := n2_
           clear n0_ n1_ n2_
           have p152 : 0 ≤ (x12_1 : Int) := of_decide_eq_true (by first | (with_reducible assumption) | assumption)
           have q152 : x12_1 < (l3.length : Int) := of_decide_eq_true (by first | (with_reducible assumption) | assumption)
           obtain ⟨ad152, e152, hx152_0, hx152_1, hx152_2, hx152_3⟩ := at_T39 HR3.out x12_1 p152 q152
           have hw152_3 := hx152_3
           have hw152_2 := hx152_2
           have hw152_1 := hx152_1
           have hw152_0 := hx152_0
           cases e152
           replace hx152_0 := (HB.out.cell (World.block_lt_of_cell? w _ hx152_0)).trans hx152_0
           replace hx152_1 := (HB.out.cell (World.block_lt_of_cell? w _ hx152_1)).trans hx152_1
           replace hx152_2 := (HB.out.cell (World.block_lt_of_cell? w _ hx152_2)).trans hx152_2
           replace hx152_3 := (HB.out.cell (World.block_lt_of_cell? w _ hx152_3)).trans hx152_3
           replace p152 := eq_true p152
           replace q152 := eq_true q152
           refine start_ (n := 12) (S := fun w' => w'.cell? ⟨gb151, 0, none⟩ = some (.int .i64 x152000_1) ∧ w'.cell? ⟨gb151, 1, none⟩ = some (.slice Ao22 x152001_1.length co22) ∧ w'.cell? (ad152.add ((x12_1).toNat * 4)) = some (.int .u8 ((rd_T39 l3 x12_1).f0)) ∧ w'.cell? ⟨(ad152.add ((x12_1).toNat * 4)).block, (ad152.add ((x12_1).toNat * 4)).off + 1, none⟩ = some (.int .i64 ((rd_T39 l3 x12_1).f1)) ∧ w'.cell? ⟨(ad152.add ((x12_1).toNat * 4)).block, (ad152.add ((x12_1).toNat * 4)).off + 2, none⟩ = some (.int .i64 ((rd_T39 l3 x12_1).f2)) ∧ w'.cell? ⟨(ad152.add ((x12_1).toNat * 4)).block, (ad152.add ((x12_1).toNat * 4)).off + 3, none⟩ = some (.int .u64 ((rd_T39 l3 x12_1).f3))) (ds := []) #[false, false, false, false, false, false, false, false, false, false, false, false] (by kernel_rfl) rfl rfl ⟨(blk_cell BK151.out 0).trans rfl, (blk_cell BK151.out 1).trans rfl, ((HB.out.cell (World.block_lt_of_cell? w _ hw152_0)).trans hw152_0), ((HB.out.cell (World.block_lt_of_cell? w _ hw152_1)).trans hw152_1), ((HB.out.cell (World.block_lt_of_cell? w _ hw152_2)).trans hw152_2), ((HB.out.cell (World.block_lt_of_cell? w _ hw152_3)).trans hw152_3)⟩ (fun hHeld => ?_); refine with_tabW fascinelaw14_MetaStays.tab10 fascinelaw14_MetaStays.bits10 (fun HT_ HW_ => ?_)
           generalize wc.drew = w23 at HO_152001 BK151 HB hx152_0 hx152_1 hx152_2 hx152_3 hHeld ⊢
           refine pure_ (i := 1) (N := some 53) (v := ?_) (a' := ?_) #[false, true, false, false, false, false, false, false, false, false, false, false] rfl rfl (any_of HT_.out (by kernel_rfl)) (fun _ _ _ h => h) (Or.inl ⟨by rfl, ?_⟩) ?_ ?_
           rotate_left
           ·intro w'
            go_simp
            with_reducible rfl
           rotate_left
           ·simp only [Act.put, List.setIfInBounds_toArray, List.set_cons_zero, List.set_cons_succ, i64_w, i32_w]
            rfl
           refine pure_ (i := 2) (N := some 54) (v := ?_) (a' := ?_) #[false, true, true, false, false, false, false, false, false, false, false, false] rfl rfl (any_of HT_.out (by kernel_rfl)) (fun _ _ _ h => h) (Or.inl ⟨by rfl, ?_⟩) ?_ ?_
           rotate_left
           ·intro w'
            go_simp
            with_reducible rfl
           rotate_left
           ·simp only [Act.put, List.setIfInBounds_toArray, List.set_cons_zero, List.set_cons_succ, i64_w, i32_w]
            rfl
           refine pure_ (i := 3) (N := some 55) (v := ?_) (a' := ?_) #[false, true, true, true, false, false, false, false, false, false, false, false] rfl rfl (any_of HT_.out (by kernel_rfl)) (fun _ _ _ h => h) (Or.inl ⟨by rfl, ?_⟩) ?_ ?_
           rotate_left
           ·intro w'
            go_simp
            with_reducible rfl
           rotate_left
           ·simp only [Act.put, List.setIfInBounds_toArray, List.set_cons_zero, List.set_cons_succ, i64_w, i32_w]
            rfl
           refine take_ (i := 0) (N := some 52) (v := ?_) (a' := ?_) #[true, true, true, true, false, false, false, false, false, false, false, false] rfl rfl (take_ofW HT_.out HW_.out (by kernel_rfl)) (fun _ _ _ h => h) (Or.inl ⟨by rfl, ?_⟩) hHeld ?_ ?_
           rotate_left
           ·rintro w' ⟨s0, s1, s2, s3, s4, s5⟩
            go_simp
            with_reducible rfl
           rotate_left
           ·simp only [Act.put, List.setIfInBounds_toArray, List.set_cons_zero, List.set_cons_succ, i64_w, i32_w]
            rfl
           refine take_ (i := 4) (N := some 56) (v := ?_) (a' := ?_) #[true, true, true, true, true, false, false, false, false, false, false, false] rfl rfl (take_ofW HT_.out HW_.out (by kernel_rfl)) (fun _ _ _ h => h) (Or.inl ⟨by rfl, ?_⟩) hHeld ?_ ?_
           rotate_left
           ·rintro w' ⟨s0, s1, s2, s3, s4, s5⟩
            go_simp
            with_reducible rfl
           rotate_left
           ·simp only [Act.put, List.setIfInBounds_toArray, List.set_cons_zero, List.set_cons_succ, i64_w, i32_w]
            rfl
           refine join_ (σ := Value × Nat) 2 #[true, true, true, true, true, true, true, true, true, true, false, false] (fun s_ => [(57, .tuple #[.agg #[.int .i64 t153, s_.1], .bool t157]), (13, .pointer (some ⟨s_.2, 0, none⟩)), (51, .tuple #[.agg #[.int .i64 t153, s_.1], .bool t157]), (58, .agg #[.int .i64 t153, s_.1]), (59, .bool t157)]) (fun s_ w' => (w'.cell? ⟨gb151, 0, none⟩ = some (.int .i64 x152000_1) ∧ w'.cell? ⟨gb151, 1, none⟩ = some (.slice Ao22 x152001_1.length co22) ∧ w'.cell? (ad152.add ((x12_1).toNat * 4)) = some (.int .u8 ((rd_T39 l3 x12_1).f0)) ∧ w'.cell? ⟨(ad152.add ((x12_1).toNat * 4)).block, (ad152.add ((x12_1).toNat * 4)).off + 1, none⟩ = some (.int .i64 ((rd_T39 l3 x12_1).f1)) ∧ w'.cell? ⟨(ad152.add ((x12_1).toNat * 4)).block, (ad152.add ((x12_1).toNat * 4)).off + 2, none⟩ = some (.int .i64 ((rd_T39 l3 x12_1).f2)) ∧ w'.cell? ⟨(ad152.add ((x12_1).toNat * 4)).block, (ad152.add ((x12_1).toNat * 4)).off + 3, none⟩ = some (.int .u64 ((rd_T39 l3 x12_1).f3))) ∧ (Kd.S k42 42 w' w.heap.size (fun k_ => some k_ ≠ (.slice Ao22 x152001_1.length co22 : Value).ownBlock) s_.1 t154) ∧ (Kd.S k42 42 w' w.heap.size (fun k_ => some k_ ≠ (s_.1 : Value).ownBlock) (.slice Ao22 x152001_1.length co22) x152001_1) ∧ (w'.heap[gb151]? = some (.cells #[.int .i64 x152000_1, .slice Ao22 x152001_1.length co22] 24 (0, 0))) ∧ (w'.heap[s_.2]? = some (.cells #[.int .i64 0, .slice none 0 0] 24 (0, 0))) ∧ (w.heap.size ≤ s_.2) ∧ (w.heap.size ≤ s_.2) ∧ (gb151 ≠ s_.2) ∧ (s_.2 ≠ gb151) ∧ (Below w.heap.size w w')) ?_ ?_
           rotate_left
           ·intro hCont
            refine two_ (i := 5) (j := 9) (Ni := some 57) (Nj := some 13) #[true, true, true, true, true, true, false, false, false, false, false, false] #[true, true, true, true, true, false, false, false, false, true, false, false] rfl rfl rfl rfl (two_of HT_.out (by kernel_rfl)) (by decide) (by decide) (fun K hK => ?_) (fun K hK => ?_)
            ·skip
             refine goes_ Try.func22 (by kernel_rfl) rfl #[.agg #[.int .i64 x152000_1, .slice Ao22 x152001_1.length co22], .agg #[.int .u8 ((rd_T39 l3 x12_1).f0), .int .i64 ((rd_T39 l3 x12_1).f1), .int .i64 ((rd_T39 l3 x12_1).f2), .int .u64 ((rd_T39 l3 x12_1).f3)]] (by rfl) rfl rfl (by (try simp only [List.map_toArray, List.map_cons, List.map_nil]); first | done | rfl | (simp only [List.length_drop, List.length_take]; rfl)) ?_
             with_reducible refine (meta_Apply.calls kj14 x152000_1 _ _ x152001_1 ((rd_T39 l3 x12_1).f0) ((rd_T39 l3 x12_1).f1) ((rd_T39 l3 x12_1).f2) ((rd_T39 l3 x12_1).f3) t153 t154 t157 _ ?side1 ?side2 A20.out).mono ?_
             (case side1 => repeat (first | exact (Kd.S_reads' HO_152001.out).2.2 | (with_reducible refine Kd.C_alloc ?_ _) | (with_reducible refine Kd.C_drewN ?_ _) | (with_reducible refine Kd.C_drew ?_)))
             (case side2 => exact (Kd.S_reads' HO_152001.out).2.1)
             rintro e w24 ⟨v155, rfl, ho0, hb⟩
             refine ⟨_, rfl, ?_⟩
             have n0_ := Aside0.mk (Kd.S_elder' (by (with_reducible repeat (first | apply Kd.S_alloc | apply Kd.S_drewN | apply Kd.S_drew)); exact HO_152001.out) (Kd.S_base ho0) hb)
             have n1_ := Aside0.mk (Kd.S_lower (Kd.S_new' ho0 (Kd.S_lt (by (with_reducible repeat (first | apply Kd.S_alloc | apply Kd.S_drewN | apply Kd.S_drew)); exact HO_152001.out))) (below_size (by repeat (first | (with_reducible first | exact HB.out | apply below_alloc | apply pw_below_drewN | apply below_drew1 | refine below_set ?_ GE151.out) | exact HB.out))))
             have n2_ := Aside0.mk (blk_below (g := gb151) (o := .cells #[.int .i64 x152000_1, .slice Ao22 x152001_1.length co22] 24 (0, 0)) (by (with_reducible repeat (first | refine blk_drewN ?_ _ | refine blk_drew ?_ | refine blk_alloc ?_ _)); exact BK151.out) hb)
             have n3_ := Aside0.mk (below_step (by repeat (first | (with_reducible first | exact HB.out | apply below_alloc | apply pw_below_drewN | apply below_drew1 | refine below_set ?_ GE151.out) | exact HB.out)) hb)
             clear HO_152001
             clear BK151
             clear HB
             have HO_152001 := n0_
             have HO156 := n1_
             have BK151 := n2_
             have HB := n3_
             clear n0_ n1_ n2_ n3_
             (try clear hb)
             (try clear hb2)
             (try clear hk)
             (try clear hi)
             (try clear ho0)
             refine hK.out _ _ ⟨(blk_cell BK151.out 0).trans rfl, (blk_cell BK151.out 1).trans rfl, ((HB.out.cell (World.block_lt_of_cell? w _ hw152_0)).trans hw152_0), ((HB.out.cell (World.block_lt_of_cell? w _ hw152_1)).trans hw152_1), ((HB.out.cell (World.block_lt_of_cell? w _ hw152_2)).trans hw152_2), ((HB.out.cell (World.block_lt_of_cell? w _ hw152_3)).trans hw152_3)⟩ (fun hHeld => ?_)
             clear hK K
             refine norm_ (a' := ?_) ?_ ?_
             rotate_left
             ·show Act.put _ (some 57) _ = _
              simp only [Act.put, List.setIfInBounds_toArray, List.set_cons_zero, List.set_cons_succ, i64_w, i32_w]
              rfl
             refine pure_ (i := 6) (N := some 51) (v := ?_) (a' := ?_) #[true, true, true, true, true, true, true, false, false, false, false, false] rfl rfl (any_of HT_.out (by kernel_rfl)) (fun _ _ _ h => h) (Or.inl ⟨by rfl, ?_⟩) ?_ ?_
             rotate_left
             ·intro w'
              go_simp
              with_reducible rfl
             rotate_left
             ·simp only [Act.put, List.setIfInBounds_toArray, List.set_cons_zero, List.set_cons_succ, i64_w, i32_w]
              rfl
             refine pure_ (i := 7) (N := some 58) (v := ?_) (a' := ?_) #[true, true, true, true, true, true, true, true, false, false, false, false] rfl rfl (any_of HT_.out (by kernel_rfl)) (fun _ _ _ h => h) (Or.inl ⟨by rfl, ?_⟩) ?_ ?_
             rotate_left
             ·intro w'
              go_simp
              with_reducible rfl
             rotate_left
             ·simp only [Act.put, List.setIfInBounds_toArray, List.set_cons_zero, List.set_cons_succ, i64_w, i32_w]
              rfl
             refine pure_ (i := 8) (N := some 59) (v := ?_) (a' := ?_) #[true, true, true, true, true, true, true, true, true, false, false, false] rfl rfl (any_of HT_.out (by kernel_rfl)) (fun _ _ _ h => h) (Or.inl ⟨by rfl, ?_⟩) ?_ ?_
             rotate_left
             ·intro w'
              go_simp
              with_reducible rfl
             rotate_left
             ·simp only [Act.put, List.setIfInBounds_toArray, List.set_cons_zero, List.set_cons_succ, i64_w, i32_w]
              rfl
             refine one_ (i := 9) (N := some 13) #[true, true, true, true, true, true, true, true, true, true, false, false] rfl rfl (one_of HT_.out (by kernel_rfl)) (by decide) (fun K hK => ?_)
             refine box_step ?hg (N := 13) ?hd (cs := #[.int .i64 0, .slice none 0 0]) (t := 24) ?hr ?_; (case hd => rfl); (case hg => rfl); (case hr => first | (go_simp; done) | (go_simp; rfl))
             intro gb158 hg w25 hbox hb
             have n0_ := Aside0.mk (Kd.S_below (by (with_reducible repeat (first | apply Kd.S_alloc | apply Kd.S_drewN | apply Kd.S_drew)); exact HO_152001.out) hb)
             have n1_ := Aside0.mk (Kd.S_below (by (with_reducible repeat (first | apply Kd.S_alloc | apply Kd.S_drewN | apply Kd.S_drew)); exact HO156.out) hb)
             have n2_ := Aside0.mk (blk_below (g := gb151) (o := .cells #[.int .i64 x152000_1, .slice Ao22 x152001_1.length co22] 24 (0, 0)) (by (with_reducible repeat (first | refine blk_drewN ?_ _ | refine blk_drew ?_ | refine blk_alloc ?_ _)); exact BK151.out) hb)
             have n3_ := Aside0.mk (below_step (by repeat (first | (with_reducible first | exact HB.out | apply below_alloc | apply pw_below_drewN | apply below_drew1 | refine below_set ?_ GE151.out) | exact HB.out)) hb)
             have n4_ := Aside0.mk (hbox)
             have n5_ := Aside0.mk ((by rw [hg]; exact (below_size (by repeat (first | (with_reducible first | exact HB.out | apply below_alloc | apply pw_below_drewN | apply below_drew1 | refine below_set ?_ GE151.out) | exact HB.out))) : w.heap.size ≤ gb158))
             have n6_ := Aside0.mk ((by rw [hg]; exact (below_size (by repeat (first | (with_reducible first | exact HB.out | apply below_alloc | apply pw_below_drewN | apply below_drew1 | refine below_set ?_ GE151.out) | exact HB.out))) : w.heap.size ≤ gb158))
             have n7_ := Aside0.mk ((by rw [hg]; exact Nat.ne_of_lt (blk_lt (g := gb151) (o := .cells #[.int .i64 x152000_1, .slice Ao22 x152001_1.length co22] 24 (0, 0)) (by (with_reducible repeat (first | refine blk_drewN ?_ _ | refine blk_drew ?_ | refine blk_alloc ?_ _)); exact BK151.out)) : gb151 ≠ gb158))
             have n8_ := Aside0.mk ((by rw [hg]; exact Nat.ne_of_gt (blk_lt (g := gb151) (o := .cells #[.int .i64 x152000_1, .slice Ao22 x152001_1.length co22] 24 (0, 0)) (by (with_reducible repeat (first | refine blk_drewN ?_ _ | refine blk_drew ?_ | refine blk_alloc ?_ _)); exact BK151.out)) : gb158 ≠ gb151))
             clear HO_152001
             clear HO156
             clear BK151
             clear HB
             have HO_152001 := n0_
             have HO156 := n1_
             have BK151 := n2_
             have HB := n3_
             have BK158 := n4_
             have GW158 := n5_
             have GE158 := n6_
             have NB151_158 := n7_
             have NB158_151 := n8_
             clear n0_ n1_ n2_ n3_ n4_ n5_ n6_ n7_ n8_
             clear hb hbox hg
             refine hK.out _ _ ⟨(blk_cell BK151.out 0).trans rfl, (blk_cell BK151.out 1).trans rfl, ((HB.out.cell (World.block_lt_of_cell? w _ hw152_0)).trans hw152_0), ((HB.out.cell (World.block_lt_of_cell? w _ hw152_1)).trans hw152_1), ((HB.out.cell (World.block_lt_of_cell? w _ hw152_2)).trans hw152_2), ((HB.out.cell (World.block_lt_of_cell? w _ hw152_3)).trans hw152_3)⟩ (fun hHeld => ?_)
             clear hK K
             refine norm_ (a' := ?_) ?_ ?_
             rotate_left
             ·show Act.put _ (some 13) _ = _
              simp only [Act.put, List.setIfInBounds_toArray, List.set_cons_zero, List.set_cons_succ, i64_w, i32_w]
              rfl
             exact norm_ (by simp only [putAll, Act.put, List.setIfInBounds_toArray, List.set_cons_zero, List.set_cons_succ]) (hCont (v155, gb158) _ ⟨hHeld, (by (with_reducible repeat (first | apply Kd.S_alloc | apply Kd.S_drewN | apply Kd.S_drew)); exact Kd.S_mono HO156.out (fun _ hk => hk.2)), (by (with_reducible repeat (first | apply Kd.S_alloc | apply Kd.S_drewN | apply Kd.S_drew)); exact Kd.S_mono HO_152001.out (fun _ hk => hk.2)), (by (with_reducible repeat (first | refine blk_drewN ?_ _ | refine blk_drew ?_ | refine blk_alloc ?_ _)); exact BK151.out), (by (with_reducible repeat (first | refine blk_drewN ?_ _ | refine blk_drew ?_ | refine blk_alloc ?_ _)); exact BK158.out), GW158.out, GE158.out, NB151_158.out, NB158_151.out, (by repeat (first | (with_reducible first | exact HB.out | apply below_alloc | apply pw_below_drewN | apply below_drew1 | refine below_set ?_ GE151.out | refine below_set ?_ GE158.out) | exact HB.out))⟩)
            ·skip
             refine box_step ?hg (N := 13) ?hd (cs := #[.int .i64 0, .slice none 0 0]) (t := 24) ?hr ?_; (case hd => rfl); (case hg => rfl); (case hr => first | (go_simp; done) | (go_simp; rfl))
             intro gb158 hg w24 hbox hb
             have n0_ := Aside0.mk (Kd.S_below (by (with_reducible repeat (first | apply Kd.S_alloc | apply Kd.S_drewN | apply Kd.S_drew)); exact HO_152001.out) hb)
             have n1_ := Aside0.mk (blk_below (g := gb151) (o := .cells #[.int .i64 x152000_1, .slice Ao22 x152001_1.length co22] 24 (0, 0)) (by (with_reducible repeat (first | refine blk_drewN ?_ _ | refine blk_drew ?_ | refine blk_alloc ?_ _)); exact BK151.out) hb)
             have n2_ := Aside0.mk (below_step (by repeat (first | (with_reducible first | exact HB.out | apply below_alloc | apply pw_below_drewN | apply below_drew1 | refine below_set ?_ GE151.out) | exact HB.out)) hb)
             have n3_ := Aside0.mk (hbox)
             have n4_ := Aside0.mk ((by rw [hg]; exact (below_size (by repeat (first | (with_reducible first | exact HB.out | apply below_alloc | apply pw_below_drewN | apply below_drew1 | refine below_set ?_ GE151.out) | exact HB.out))) : w.heap.size ≤ gb158))
             have n5_ := Aside0.mk ((by rw [hg]; exact (below_size (by repeat (first | (with_reducible first | exact HB.out | apply below_alloc | apply pw_below_drewN | apply below_drew1 | refine below_set ?_ GE151.out) | exact HB.out))) : w.heap.size ≤ gb158))
             have n6_ := Aside0.mk ((by rw [hg]; exact Nat.ne_of_lt (blk_lt (g := gb151) (o := .cells #[.int .i64 x152000_1, .slice Ao22 x152001_1.length co22] 24 (0, 0)) (by (with_reducible repeat (first | refine blk_drewN ?_ _ | refine blk_drew ?_ | refine blk_alloc ?_ _)); exact BK151.out)) : gb151 ≠ gb158))
             have n7_ := Aside0.mk ((by rw [hg]; exact Nat.ne_of_gt (blk_lt (g := gb151) (o := .cells #[.int .i64 x152000_1, .slice Ao22 x152001_1.length co22] 24 (0, 0)) (by (with_reducible repeat (first | refine blk_drewN ?_ _ | refine blk_drew ?_ | refine blk_alloc ?_ _)); exact BK151.out)) : gb158 ≠ gb151))
             clear HO_152001
             clear BK151
             clear HB
             have HO_152001 := n0_
             have BK151 := n1_
             have HB := n2_
             have BK158 := n3_
             have GW158 := n4_
             have GE158 := n5_
             have NB151_158 := n6_
             have NB158_151 := n7_
             clear n0_ n1_ n2_ n3_ n4_ n5_ n6_ n7_
             clear hb hbox hg
             refine hK.out _ _ ⟨(blk_cell BK151.out 0).trans rfl, (blk_cell BK151.out 1).trans rfl, ((HB.out.cell (World.block_lt_of_cell? w _ hw152_0)).trans hw152_0), ((HB.out.cell (World.block_lt_of_cell? w _ hw152_1)).trans hw152_1), ((HB.out.cell (World.block_lt_of_cell? w _ hw152_2)).trans hw152_2), ((HB.out.cell (World.block_lt_of_cell? w _ hw152_3)).trans hw152_3)⟩ (fun hHeld => ?_)
             clear hK K
             refine norm_ (a' := ?_) ?_ ?_
             rotate_left
             ·show Act.put _ (some 13) _ = _
              simp only [Act.put, List.setIfInBounds_toArray, List.set_cons_zero, List.set_cons_succ, i64_w, i32_w]
              rfl
             refine one_ (i := 5) (N := some 57) #[true, true, true, true, true, true, false, false, false, true, false, false] rfl rfl (one_of HT_.out (by kernel_rfl)) (by decide) (fun K hK => ?_)
             refine goes_ Try.func22 (by kernel_rfl) rfl #[.agg #[.int .i64 x152000_1, .slice Ao22 x152001_1.length co22], .agg #[.int .u8 ((rd_T39 l3 x12_1).f0), .int .i64 ((rd_T39 l3 x12_1).f1), .int .i64 ((rd_T39 l3 x12_1).f2), .int .u64 ((rd_T39 l3 x12_1).f3)]] (by rfl) rfl rfl (by (try simp only [List.map_toArray, List.map_cons, List.map_nil]); first | done | rfl | (simp only [List.length_drop, List.length_take]; rfl)) ?_
             with_reducible refine (meta_Apply.calls kj14 x152000_1 _ _ x152001_1 ((rd_T39 l3 x12_1).f0) ((rd_T39 l3 x12_1).f1) ((rd_T39 l3 x12_1).f2) ((rd_T39 l3 x12_1).f3) t153 t154 t157 _ ?side1 ?side2 A20.out).mono ?_
             (case side1 => repeat (first | exact (Kd.S_reads' HO_152001.out).2.2 | (with_reducible refine Kd.C_alloc ?_ _) | (with_reducible refine Kd.C_drewN ?_ _) | (with_reducible refine Kd.C_drew ?_)))
             (case side2 => exact (Kd.S_reads' HO_152001.out).2.1)
             rintro e w25 ⟨v155, rfl, ho0, hb⟩
             refine ⟨_, rfl, ?_⟩
             have n0_ := Aside0.mk (Kd.S_elder' (by (with_reducible repeat (first | apply Kd.S_alloc | apply Kd.S_drewN | apply Kd.S_drew)); exact HO_152001.out) (Kd.S_base ho0) hb)
             have n1_ := Aside0.mk (Kd.S_lower (Kd.S_new' ho0 (Kd.S_lt (by (with_reducible repeat (first | apply Kd.S_alloc | apply Kd.S_drewN | apply Kd.S_drew)); exact HO_152001.out))) (below_size (by repeat (first | (with_reducible first | exact HB.out | apply below_alloc | apply pw_below_drewN | apply below_drew1 | refine below_set ?_ GE151.out | refine below_set ?_ GE158.out) | exact HB.out))))
             have n2_ := Aside0.mk (blk_below (g := gb151) (o := .cells #[.int .i64 x152000_1, .slice Ao22 x152001_1.length co22] 24 (0, 0)) (by (with_reducible repeat (first | refine blk_drewN ?_ _ | refine blk_drew ?_ | refine blk_alloc ?_ _)); exact BK151.out) hb)
             have n3_ := Aside0.mk (blk_below (g := gb158) (o := .cells #[.int .i64 0, .slice none 0 0] 24 (0, 0)) (by (with_reducible repeat (first | refine blk_drewN ?_ _ | refine blk_drew ?_ | refine blk_alloc ?_ _)); exact BK158.out) hb)
             have n4_ := Aside0.mk (below_step (by repeat (first | (with_reducible first | exact HB.out | apply below_alloc | apply pw_below_drewN | apply below_drew1 | refine below_set ?_ GE151.out | refine below_set ?_ GE158.out) | exact HB.out)) hb)
             clear HO_152001
             clear BK151
             clear BK158
             clear HB
             have HO_152001 := n0_
             have HO156 := n1_
             have BK151 := n2_
             have BK158 := n3_
             have HB := n4_
             clear n0_ n1_ n2_ n3_ n4_
             (try clear hb)
             (try clear hb2)
             (try clear hk)
             (try clear hi)
             (try clear ho0)
             refine hK.out _ _ ⟨(blk_cell BK151.out 0).trans rfl, (blk_cell BK151.out 1).trans rfl, ((HB.out.cell (World.block_lt_of_cell? w _ hw152_0)).trans hw152_0), ((HB.out.cell (World.block_lt_of_cell? w _ hw152_1)).trans hw152_1), ((HB.out.cell (World.block_lt_of_cell? w _ hw152_2)).trans hw152_2), ((HB.out.cell (World.block_lt_of_cell? w _ hw152_3)).trans hw152_3)⟩ (fun hHeld => ?_)
             clear hK K
             refine norm_ (a' := ?_) ?_ ?_
             rotate_left
             ·show Act.put _ (some 57) _ = _
              simp only [Act.put, List.setIfInBounds_toArray, List.set_cons_zero, List.set_cons_succ, i64_w, i32_w]
              rfl
             refine pure_ (i := 6) (N := some 51) (v := ?_) (a' := ?_) #[true, true, true, true, true, true, true, false, false, true, false, false] rfl rfl (any_of HT_.out (by kernel_rfl)) (fun _ _ _ h => h) (Or.inl ⟨by rfl, ?_⟩) ?_ ?_
             rotate_left
             ·intro w'
              go_simp
              with_reducible rfl
             rotate_left
             ·simp only [Act.put, List.setIfInBounds_toArray, List.set_cons_zero, List.set_cons_succ, i64_w, i32_w]
              rfl
             refine pure_ (i := 7) (N := some 58) (v := ?_) (a' := ?_) #[true, true, true, true, true, true, true, true, false, true, false, false] rfl rfl (any_of HT_.out (by kernel_rfl)) (fun _ _ _ h => h) (Or.inl ⟨by rfl, ?_⟩) ?_ ?_
             rotate_left
             ·intro w'
              go_simp
              with_reducible rfl
             rotate_left
             ·simp only [Act.put, List.setIfInBounds_toArray, List.set_cons_zero, List.set_cons_succ, i64_w, i32_w]
              rfl
             refine pure_ (i := 8) (N := some 59) (v := ?_) (a' := ?_) #[true, true, true, true, true, true, true, true, true, true, false, false] rfl rfl (any_of HT_.out (by kernel_rfl)) (fun _ _ _ h => h) (Or.inl ⟨by rfl, ?_⟩) ?_ ?_
             rotate_left
             ·intro w'
              go_simp
              with_reducible rfl
             rotate_left
             ·simp only [Act.put, List.setIfInBounds_toArray, List.set_cons_zero, List.set_cons_succ, i64_w, i32_w]
              rfl
             exact norm_ (by simp only [putAll, Act.put, List.setIfInBounds_toArray, List.set_cons_zero, List.set_cons_succ]) (hCont (v155, gb158) _ ⟨hHeld, (by (with_reducible repeat (first | apply Kd.S_alloc | apply Kd.S_drewN | apply Kd.S_drew)); exact Kd.S_mono HO156.out (fun _ hk => hk.2)), (by (with_reducible repeat (first | apply Kd.S_alloc | apply Kd.S_drewN | apply Kd.S_drew)); exact Kd.S_mono HO_152001.out (fun _ hk => hk.2)), (by (with_reducible repeat (first | refine blk_drewN ?_ _ | refine blk_drew ?_ | refine blk_alloc ?_ _)); exact BK151.out), (by (with_reducible repeat (first | refine blk_drewN ?_ _ | refine blk_drew ?_ | refine blk_alloc ?_ _)); exact BK158.out), GW158.out, GE158.out, NB151_158.out, NB158_151.out, (by repeat (first | (with_reducible first | exact HB.out | apply below_alloc | apply pw_below_drewN | apply below_drew1 | refine below_set ?_ GE151.out | refine below_set ?_ GE158.out) | exact HB.out))⟩)
           rintro ⟨v155, gb158⟩ w26 ⟨hS_, h0_, h1_, h2_, h3_, h4_, h5_, h6_, h7_, h8_⟩
           have n0_ : Aside0 (Kd.S k42 42 w26 w.heap.size (fun k_ => some k_ ≠ (.slice Ao22 x152001_1.length co22 : Value).ownBlock) v155 t154) := ⟨h0_⟩
           have n1_ : Aside0 (Kd.S k42 42 w26 w.heap.size (fun k_ => some k_ ≠ (v155 : Value).ownBlock) (.slice Ao22 x152001_1.length co22) x152001_1) := ⟨h1_⟩
           have n2_ : Aside0 (w26.heap[gb151]? = some (.cells #[.int .i64 x152000_1, .slice Ao22 x152001_1.length co22] 24 (0, 0))) := ⟨h2_⟩
           have n3_ : Aside0 (w26.heap[gb158]? = some (.cells #[.int .i64 0, .slice none 0 0] 24 (0, 0))) := ⟨h3_⟩
           have n4_ : Aside0 (w.heap.size ≤ gb158) := ⟨h4_⟩
           have n5_ : Aside0 (w.heap.size ≤ gb158) := ⟨h5_⟩
           have n6_ : Aside0 (gb151 ≠ gb158) := ⟨h6_⟩
           have n7_ : Aside0 (gb158 ≠ gb151) := ⟨h7_⟩
           have n8_ : Aside0 (Below w.heap.size w w26) := ⟨h8_⟩
           clear HO_152001
           clear BK151
           clear HB
           clear h0_ h1_ h2_ h3_ h4_ h5_ h6_ h7_ h8_
           have HO156 := n0_
           have HO_152001 := n1_
           have BK151 := n2_
           have BK158 := n3_
           have GW158 := n4_
           have GE158 := n5_
           have NB151_158 := n6_
           have NB158_151 := n7_
           have HB := n8_
           clear n0_ n1_ n2_ n3_ n4_ n5_ n6_ n7_ n8_
           have hHeld : w26.cell? ⟨gb151, 0, none⟩ = some (.int .i64 x152000_1) ∧ w26.cell? ⟨gb151, 1, none⟩ = some (.slice Ao22 x152001_1.length co22) ∧ w26.cell? (ad152.add ((x12_1).toNat * 4)) = some (.int .u8 ((rd_T39 l3 x12_1).f0)) ∧ w26.cell? ⟨(ad152.add ((x12_1).toNat * 4)).block, (ad152.add ((x12_1).toNat * 4)).off + 1, none⟩ = some (.int .i64 ((rd_T39 l3 x12_1).f1)) ∧ w26.cell? ⟨(ad152.add ((x12_1).toNat * 4)).block, (ad152.add ((x12_1).toNat * 4)).off + 2, none⟩ = some (.int .i64 ((rd_T39 l3 x12_1).f2)) ∧ w26.cell? ⟨(ad152.add ((x12_1).toNat * 4)).block, (ad152.add ((x12_1).toNat * 4)).off + 3, none⟩ = some (.int .u64 ((rd_T39 l3 x12_1).f3)) := hS_
           obtain ⟨Ao28, co28, eo28⟩ := Kd.S_slice HO156.out
           (first | subst eo28 | (injection eo28 with f1_ f2_ f3_; have f4_ := f1_.symm; have f5_ := f3_.symm; clear f1_ f2_ f3_; subst f4_; subst f5_))
           refine norm_ (a' := ?_) ?_ ?_
           rotate_left
           ·simp only [putAll, Act.put, List.setIfInBounds_toArray, List.set_cons_zero, List.set_cons_succ]
            rfl
           refine one_ (i := 10) (N := none) #[true, true, true, true, true, true, true, true, true, true, true, false] rfl rfl (one_of HT_.out (by kernel_rfl)) (by decide) (fun K hK => ?_)
           have hs27 : w26.cell? ⟨gb158, 0, none⟩ = some (.int .i64 0) := (blk_cell BK158.out 0).trans rfl
           have hfs27 := blk_frozen BK158.out 0
           have hns27_0 := NB151_158.out
           have hms27_0 := NB158_151.out
           have hs29 : w26.cell? ⟨gb158, 1, none⟩ = some (.slice none 0 0) := (blk_cell BK158.out 1).trans rfl
           have hfs29 := blk_frozen BK158.out 1
           have hns29_0 := NB151_158.out
           have hms29_0 := NB158_151.out
           refine skip_ (w1 := ?_) (by rfl) rfl ?_ ?_
           rotate_left
           ·go_simp
            rfl
           refine hK.out _ _ ⟨((cell_far (p := ⟨gb158, _, none⟩) NB151_158.out _).trans (((cell_far (p := ⟨gb158, _, none⟩) NB151_158.out _).trans (hHeld.1)))), ((cell_far (p := ⟨gb158, _, none⟩) NB151_158.out _).trans (((cell_far (p := ⟨gb158, _, none⟩) NB151_158.out _).trans (hHeld.2.1)))), ((cell_far (p := ⟨gb158, _, none⟩) (by first | exact Nat.ne_of_lt (Nat.lt_of_lt_of_le (by have := World.block_lt_of_cell? _ _ hw152_0; first | rwa [add_block] at this | exact this) GW158.out) | (rw [add_block]; exact Nat.ne_of_lt (Nat.lt_of_lt_of_le (by have := World.block_lt_of_cell? _ _ hw152_0; first | rwa [add_block] at this | exact this) GW158.out)) | (show (Addr.add _ _).block ≠ _; rw [add_block]; exact Nat.ne_of_lt (Nat.lt_of_lt_of_le (by have := World.block_lt_of_cell? _ _ hw152_0; first | rwa [add_block] at this | exact this) GW158.out)) | (dsimp only; exact Nat.ne_of_lt (Nat.lt_of_lt_of_le (by have := World.block_lt_of_cell? _ _ hw152_0; first | rwa [add_block] at this | exact this) GW158.out))) _).trans (((cell_far (p := ⟨gb158, _, none⟩) (by first | exact Nat.ne_of_lt (Nat.lt_of_lt_of_le (by have := World.block_lt_of_cell? _ _ hw152_0; first | rwa [add_block] at this | exact this) GW158.out) | (rw [add_block]; exact Nat.ne_of_lt (Nat.lt_of_lt_of_le (by have := World.block_lt_of_cell? _ _ hw152_0; first | rwa [add_block] at this | exact this) GW158.out)) | (show (Addr.add _ _).block ≠ _; rw [add_block]; exact Nat.ne_of_lt (Nat.lt_of_lt_of_le (by have := World.block_lt_of_cell? _ _ hw152_0; first | rwa [add_block] at this | exact this) GW158.out)) | (dsimp only; exact Nat.ne_of_lt (Nat.lt_of_lt_of_le (by have := World.block_lt_of_cell? _ _ hw152_0; first | rwa [add_block] at this | exact this) GW158.out))) _).trans (hHeld.2.2.1)))), ((cell_far (p := ⟨gb158, _, none⟩) (by first | exact Nat.ne_of_lt (Nat.lt_of_lt_of_le (by have := World.block_lt_of_cell? _ _ hw152_1; first | rwa [add_block] at this | exact this) GW158.out) | (rw [add_block]; exact Nat.ne_of_lt (Nat.lt_of_lt_of_le (by have := World.block_lt_of_cell? _ _ hw152_1; first | rwa [add_block] at this | exact this) GW158.out)) | (show (Addr.add _ _).block ≠ _; rw [add_block]; exact Nat.ne_of_lt (Nat.lt_of_lt_of_le (by have := World.block_lt_of_cell? _ _ hw152_1; first | rwa [add_block] at this | exact this) GW158.out)) | (dsimp only; exact Nat.ne_of_lt (Nat.lt_of_lt_of_le (by have := World.block_lt_of_cell? _ _ hw152_1; first | rwa [add_block] at this | exact this) GW158.out))) _).trans (((cell_far (p := ⟨gb158, _, none⟩) (by first | exact Nat.ne_of_lt (Nat.lt_of_lt_of_le (by have := World.block_lt_of_cell? _ _ hw152_1; first | rwa [add_block] at this | exact this) GW158.out) | (rw [add_block]; exact Nat.ne_of_lt (Nat.lt_of_lt_of_le (by have := World.block_lt_of_cell? _ _ hw152_1; first | rwa [add_block] at this | exact this) GW158.out)) | (show (Addr.add _ _).block ≠ _; rw [add_block]; exact Nat.ne_of_lt (Nat.lt_of_lt_of_le (by have := World.block_lt_of_cell? _ _ hw152_1; first | rwa [add_block] at this | exact this) GW158.out)) | (dsimp only; exact Nat.ne_of_lt (Nat.lt_of_lt_of_le (by have := World.block_lt_of_cell? _ _ hw152_1; first | rwa [add_block] at this | exact this) GW158.out))) _).trans (hHeld.2.2.2.1)))), ((cell_far (p := ⟨gb158, _, none⟩) (by first | exact Nat.ne_of_lt (Nat.lt_of_lt_of_le (by have := World.block_lt_of_cell? _ _ hw152_2; first | rwa [add_block] at this | exact this) GW158.out) | (rw [add_block]; exact Nat.ne_of_lt (Nat.lt_of_lt_of_le (by have := World.block_lt_of_cell? _ _ hw152_2; first | rwa [add_block] at this | exact this) GW158.out)) | (show (Addr.add _ _).block ≠ _; rw [add_block]; exact Nat.ne_of_lt (Nat.lt_of_lt_of_le (by have := World.block_lt_of_cell? _ _ hw152_2; first | rwa [add_block] at this | exact this) GW158.out)) | (dsimp only; exact Nat.ne_of_lt (Nat.lt_of_lt_of_le (by have := World.block_lt_of_cell? _ _ hw152_2; first | rwa [add_block] at this | exact this) GW158.out))) _).trans (((cell_far (p := ⟨gb158, _, none⟩) (by first | exact Nat.ne_of_lt (Nat.lt_of_lt_of_le (by have := World.block_lt_of_cell? _ _ hw152_2; first | rwa [add_block] at this | exact this) GW158.out) | (rw [add_block]; exact Nat.ne_of_lt (Nat.lt_of_lt_of_le (by have := World.block_lt_of_cell? _ _ hw152_2; first | rwa [add_block] at this | exact this) GW158.out)) | (show (Addr.add _ _).block ≠ _; rw [add_block]; exact Nat.ne_of_lt (Nat.lt_of_lt_of_le (by have := World.block_lt_of_cell? _ _ hw152_2; first | rwa [add_block] at this | exact this) GW158.out)) | (dsimp only; exact Nat.ne_of_lt (Nat.lt_of_lt_of_le (by have := World.block_lt_of_cell? _ _ hw152_2; first | rwa [add_block] at this | exact this) GW158.out))) _).trans (hHeld.2.2.2.2.1)))), ((cell_far (p := ⟨gb158, _, none⟩) (by first | exact Nat.ne_of_lt (Nat.lt_of_lt_of_le (by have := World.block_lt_of_cell? _ _ hw152_3; first | rwa [add_block] at this | exact this) GW158.out) | (rw [add_block]; exact Nat.ne_of_lt (Nat.lt_of_lt_of_le (by have := World.block_lt_of_cell? _ _ hw152_3; first | rwa [add_block] at this | exact this) GW158.out)) | (show (Addr.add _ _).block ≠ _; rw [add_block]; exact Nat.ne_of_lt (Nat.lt_of_lt_of_le (by have := World.block_lt_of_cell? _ _ hw152_3; first | rwa [add_block] at this | exact this) GW158.out)) | (dsimp only; exact Nat.ne_of_lt (Nat.lt_of_lt_of_le (by have := World.block_lt_of_cell? _ _ hw152_3; first | rwa [add_block] at this | exact this) GW158.out))) _).trans (((cell_far (p := ⟨gb158, _, none⟩) (by first | exact Nat.ne_of_lt (Nat.lt_of_lt_of_le (by have := World.block_lt_of_cell? _ _ hw152_3; first | rwa [add_block] at this | exact this) GW158.out) | (rw [add_block]; exact Nat.ne_of_lt (Nat.lt_of_lt_of_le (by have := World.block_lt_of_cell? _ _ hw152_3; first | rwa [add_block] at this | exact this) GW158.out)) | (show (Addr.add _ _).block ≠ _; rw [add_block]; exact Nat.ne_of_lt (Nat.lt_of_lt_of_le (by have := World.block_lt_of_cell? _ _ hw152_3; first | rwa [add_block] at this | exact this) GW158.out)) | (dsimp only; exact Nat.ne_of_lt (Nat.lt_of_lt_of_le (by have := World.block_lt_of_cell? _ _ hw152_3; first | rwa [add_block] at this | exact this) GW158.out))) _).trans (hHeld.2.2.2.2.2))))⟩ (fun hHeld => ?_)
           clear hK K
           refine pure_ (i := 11) (N := some 14) (v := ?_) (a' := ?_) #[true, true, true, true, true, true, true, true, true, true, true, true] rfl rfl (any_of HT_.out (by kernel_rfl)) (fun _ _ _ h => h) (Or.inl ⟨by rfl, ?_⟩) ?_ ?_
           rotate_left
           ·intro w'
            go_simp
            with_reducible rfl
           rotate_left
           ·simp only [Act.put, List.setIfInBounds_toArray, List.set_cons_zero, List.set_cons_succ, i64_w, i32_w]
            rfl
           refine done_ (done_of HT_.out (by kernel_rfl)) ?_
           go_upto_region 11 with (fail)
           go_cut [71] (fun v71 wc => ∃ (kq : Nat) (x71_20 : Bool), v71 = .bool x71_20 ∧ Aside0 (fascinelaw14_MetaStays.j2 kq l3 x12_1 t157 x71_20 x152000_1 x152001_1 t153 t154 = some r) ∧ Aside0 (kq ≤ kj14) ∧ Aside0 (Kd.S k42 42 wc w.heap.size (fun k_ => some k_ ≠ ((.slice Ao28 t154.length co28) : Value).ownBlock) (.slice Ao22 x152001_1.length co22) x152001_1) ∧ Aside0 (Kd.S k42 42 wc w.heap.size (fun k_ => some k_ ≠ ((.slice Ao22 x152001_1.length co22) : Value).ownBlock) (.slice Ao28 t154.length co28) t154) ∧ Aside0 (wc.heap[gb151]? = some (.cells #[.int .i64 x152000_1, (.slice Ao22 x152001_1.length co22)] 24 (0, 0))) ∧ Aside0 (wc.heap[gb158]? = some (.cells #[.int .i64 t153, (.slice Ao28 t154.length co28)] 24 (0, 0))) ∧ Aside0 (Below w.heap.size w wc))
           case first =>
            have H := HC21.out
            clear HC21
            replace H := Option.bind_eq_some_iff.mp H
            obtain ⟨t159, A300, H⟩ := H
            replace H : (if t159 = true then (fascinelaw14_MetaStays.j2 kj14 l3 x12_1 t157 ((t154.length : Int) != (x152001_1.length : Int)) x152000_1 x152001_1 t153 t154) else (fascinelaw14_MetaStays.j2 kj14 l3 x12_1 t157 true x152000_1 x152001_1 t153 t154)) = some r := H
            have A30 := Aside0.mk A300
            clear A300
            by_cases c31 : t159 = true
            ·subst c31
             have H1 : (fascinelaw14_MetaStays.j2 kj14 l3 x12_1 t157 ((t154.length : Int) != (x152001_1.length : Int)) x152000_1 x152001_1 t153 t154) = some r := by rw [if_pos rfl] at H; exact H
             clear H
             have H := H1
             clear H1
             have H' := Aside0.mk H
             clear H
             have hnb32 := NB158_151.out
             have hnc32 := NB151_158.out
             have hcz33_0 : w26.cell? ⟨gb158, 0, none⟩ = some (.int .i64 0) := (blk_cell BK158.out 0).trans rfl
             have hcz33_1 : w26.cell? ⟨gb158, 1, none⟩ = some (.slice none 0 0) := (blk_cell BK158.out 1).trans rfl
             have hfz33_0 := blk_frozen BK158.out 0
             have hfz33_1 := blk_frozen BK158.out 1
             go_wp2_with (first | ((with_reducible refine gate_callee (f := 19) rfl ?_); refine goesL_ (some 61) rfl rfl Try.func19 (by kernel_rfl) rfl #[.agg #[.int .i64 t153, .slice Ao28 t154.length co28]] rfl (by (try simp only [List.map_toArray, List.map_cons, List.map_nil]); first | done | rfl | (simp only [List.length_drop, List.length_take]; rfl)) ?_; (with_reducible refine (meta_Form.calls kj14 t153 _ _ t154 true _ ?side1 ?side2 A30.out).mono ?_); (case side1 => refine (Kd.S_reads' (e := 42) (base := w.heap.size) (ok := fun k_ => some k_ ≠ (.slice Ao22 x152001_1.length co22 : Value).ownBlock) (n := t154.length) (c := co28) ?_).2.2; exact (by (with_reducible repeat (first | apply Kd.S_alloc | apply Kd.S_drewN | apply Kd.S_drew)); exact (Kd.S_mono (Kd.S_far (p := ⟨gb158, 1, none⟩) (Kd.S_far (p := ⟨gb158, 0, none⟩) (Kd.S_types HO156.out BK158.out (by decide)) (fun _ hk => hk.2) (.int .i64 t153)) (fun _ hk => hk.2) (.slice Ao28 t154.length co28)) (fun _ h_ => h_.1)))); (case side2 => exact (Kd.S_reads' HO156.out).2.1); rintro e w34 ⟨rfl, hb⟩; refine ⟨_, rfl, ?_⟩; have n0_ := Aside0.mk (Kd.S_below (by (with_reducible repeat (first | apply Kd.S_alloc | apply Kd.S_drewN | apply Kd.S_drew)); exact (Kd.S_mono (Kd.S_far (p := ⟨gb158, 1, none⟩) (Kd.S_far (p := ⟨gb158, 0, none⟩) (Kd.S_types HO_152001.out BK158.out (by decide)) (fun _ hk => hk.2) (.int .i64 t153)) (fun _ hk => hk.2) (.slice Ao28 t154.length co28)) (fun _ h_ => h_.1))) hb); have n1_ := Aside0.mk (Kd.S_below (by (with_reducible repeat (first | apply Kd.S_alloc | apply Kd.S_drewN | apply Kd.S_drew)); exact (Kd.S_mono (Kd.S_far (p := ⟨gb158, 1, none⟩) (Kd.S_far (p := ⟨gb158, 0, none⟩) (Kd.S_types HO156.out BK158.out (by decide)) (fun _ hk => hk.2) (.int .i64 t153)) (fun _ hk => hk.2) (.slice Ao28 t154.length co28)) (fun _ h_ => h_.1))) hb); have n2_ := Aside0.mk (blk_below (g := gb151) (o := .cells #[.int .i64 x152000_1, .slice Ao22 x152001_1.length co22] 24 (0, 0)) (by (with_reducible repeat (first | refine blk_drewN ?_ _ | refine blk_drew ?_ | refine blk_alloc ?_ _)); refine blk_far ?_ NB151_158.out _; (with_reducible repeat (first | refine blk_drewN ?_ _ | refine blk_drew ?_ | refine blk_alloc ?_ _)); refine blk_far ?_ NB151_158.out _; (with_reducible repeat (first | refine blk_drewN ?_ _ | refine blk_drew ?_ | refine blk_alloc ?_ _)); exact BK151.out) hb); have n3_ := Aside0.mk (blk_below (g := gb158) (o := .cells #[.int .i64 t153, .slice Ao28 t154.length co28] 24 (0, 0)) (by (with_reducible repeat (first | refine blk_drewN ?_ _ | refine blk_drew ?_ | refine blk_alloc ?_ _)); refine blk_put (cs := #[.int .i64 t153, .slice none 0 0]) ?_ 1 _ rfl; (with_reducible repeat (first | refine blk_drewN ?_ _ | refine blk_drew ?_ | refine blk_alloc ?_ _)); refine blk_put (cs := #[.int .i64 0, .slice none 0 0]) ?_ 0 _ rfl; (with_reducible repeat (first | refine blk_drewN ?_ _ | refine blk_drew ?_ | refine blk_alloc ?_ _)); exact BK158.out) hb); have n4_ := Aside0.mk (below_step (by repeat (first | (with_reducible first | exact HB.out | apply below_alloc | apply pw_below_drewN | apply below_drew1 | refine below_set ?_ GE151.out | refine below_set ?_ GE158.out) | exact HB.out)) hb); clear HO_152001; clear HO156; clear BK151; clear BK158; clear HB; have HO_152001 := n0_; have HO156 := n1_; have BK151 := n2_; have BK158 := n3_; have HB := n4_; clear n0_ n1_ n2_ n3_ n4_; (try clear hb); (try clear hb2); (try clear hk); (try clear hi); have hcz35_0 : w34.cell? ⟨gb158, 0, none⟩ = some (.int .i64 t153) := (blk_cell BK158.out 0).trans rfl; have hcz35_1 : w34.cell? ⟨gb158, 1, none⟩ = some (.slice Ao28 t154.length co28) := (blk_cell BK158.out 1).trans rfl; have hfz35_0 := blk_frozen BK158.out 0; have hfz35_1 := blk_frozen BK158.out 1; have hcz36_0 : w34.cell? ⟨gb151, 0, none⟩ = some (.int .i64 x152000_1) := (blk_cell BK151.out 0).trans rfl; have hcz36_1 : w34.cell? ⟨gb151, 1, none⟩ = some (.slice Ao22 x152001_1.length co22) := (blk_cell BK151.out 1).trans rfl; have hfz36_0 := blk_frozen BK151.out 0; have hfz36_1 := blk_frozen BK151.out 1))
             go_meet
             case rel => exact ⟨_, (((t154.length : Int) != (x152001_1.length : Int))), (by first | rfl | (simp; done) | (simp [*]; done)), H', ⟨by have := HK1.out; have := HJ14.out; first | omega | exact Nat.le_refl _⟩, ⟨by (with_reducible repeat (first | apply Kd.S_alloc | apply Kd.S_drewN | apply Kd.S_drew)); exact HO_152001.out⟩, ⟨by (with_reducible repeat (first | apply Kd.S_alloc | apply Kd.S_drewN | apply Kd.S_drew)); exact HO156.out⟩, ⟨by (with_reducible repeat (first | refine blk_drewN ?_ _ | refine blk_drew ?_ | refine blk_alloc ?_ _)); exact BK151.out⟩, ⟨by (with_reducible repeat (first | refine blk_drewN ?_ _ | refine blk_drew ?_ | refine blk_alloc ?_ _)); exact BK158.out⟩, ⟨by repeat (first | (with_reducible first | exact HB.out | apply below_alloc | apply pw_below_drewN | apply below_drew1 | refine below_set ?_ GE151.out | refine below_set ?_ GE158.out) | exact HB.out)⟩⟩
            ·replace c31 := Bool.eq_false_iff.mpr c31
             subst c31
             have H1 : (fascinelaw14_MetaStays.j2 kj14 l3 x12_1 t157 true x152000_1 x152001_1 t153 t154) = some r := by rw [if_neg (show ¬ (false = true) by decide)] at H; exact H
             clear H
             have H := H1
             clear H1
             have H' := Aside0.mk H
             clear H
             have hnb37 := NB158_151.out
             have hnc37 := NB151_158.out
             have hcz38_0 : w26.cell? ⟨gb158, 0, none⟩ = some (.int .i64 0) := (blk_cell BK158.out 0).trans rfl
             have hcz38_1 : w26.cell? ⟨gb158, 1, none⟩ = some (.slice none 0 0) := (blk_cell BK158.out 1).trans rfl
             have hfz38_0 := blk_frozen BK158.out 0
             have hfz38_1 := blk_frozen BK158.out 1
             go_wp2_with (first | ((with_reducible refine gate_callee (f := 19) rfl ?_); refine goesL_ (some 61) rfl rfl Try.func19 (by kernel_rfl) rfl #[.agg #[.int .i64 t153, .slice Ao28 t154.length co28]] rfl (by (try simp only [List.map_toArray, List.map_cons, List.map_nil]); first | done | rfl | (simp only [List.length_drop, List.length_take]; rfl)) ?_; (with_reducible refine (meta_Form.calls kj14 t153 _ _ t154 false _ ?side1 ?side2 A30.out).mono ?_); (case side1 => refine (Kd.S_reads' (e := 42) (base := w.heap.size) (ok := fun k_ => some k_ ≠ (.slice Ao22 x152001_1.length co22 : Value).ownBlock) (n := t154.length) (c := co28) ?_).2.2; exact (by (with_reducible repeat (first | apply Kd.S_alloc | apply Kd.S_drewN | apply Kd.S_drew)); exact (Kd.S_mono (Kd.S_far (p := ⟨gb158, 1, none⟩) (Kd.S_far (p := ⟨gb158, 0, none⟩) (Kd.S_types HO156.out BK158.out (by decide)) (fun _ hk => hk.2) (.int .i64 t153)) (fun _ hk => hk.2) (.slice Ao28 t154.length co28)) (fun _ h_ => h_.1)))); (case side2 => exact (Kd.S_reads' HO156.out).2.1); rintro e w39 ⟨rfl, hb⟩; refine ⟨_, rfl, ?_⟩; have n0_ := Aside0.mk (Kd.S_below (by (with_reducible repeat (first | apply Kd.S_alloc | apply Kd.S_drewN | apply Kd.S_drew)); exact (Kd.S_mono (Kd.S_far (p := ⟨gb158, 1, none⟩) (Kd.S_far (p := ⟨gb158, 0, none⟩) (Kd.S_types HO_152001.out BK158.out (by decide)) (fun _ hk => hk.2) (.int .i64 t153)) (fun _ hk => hk.2) (.slice Ao28 t154.length co28)) (fun _ h_ => h_.1))) hb); have n1_ := Aside0.mk (Kd.S_below (by (with_reducible repeat (first | apply Kd.S_alloc | apply Kd.S_drewN | apply Kd.S_drew)); exact (Kd.S_mono (Kd.S_far (p := ⟨gb158, 1, none⟩) (Kd.S_far (p := ⟨gb158, 0, none⟩) (Kd.S_types HO156.out BK158.out (by decide)) (fun _ hk => hk.2) (.int .i64 t153)) (fun _ hk => hk.2) (.slice Ao28 t154.length co28)) (fun _ h_ => h_.1))) hb); have n2_ := Aside0.mk (blk_below (g := gb151) (o := .cells #[.int .i64 x152000_1, .slice Ao22 x152001_1.length co22] 24 (0, 0)) (by (with_reducible repeat (first | refine blk_drewN ?_ _ | refine blk_drew ?_ | refine blk_alloc ?_ _)); refine blk_far ?_ NB151_158.out _; (with_reducible repeat (first | refine blk_drewN ?_ _ | refine blk_drew ?_ | refine blk_alloc ?_ _)); refine blk_far ?_ NB151_158.out _; (with_reducible repeat (first | refine blk_drewN ?_ _ | refine blk_drew ?_ | refine blk_alloc ?_ _)); exact BK151.out) hb); have n3_ := Aside0.mk (blk_below (g := gb158) (o := .cells #[.int .i64 t153, .slice Ao28 t154.length co28] 24 (0, 0)) (by (with_reducible repeat (first | refine blk_drewN ?_ _ | refine blk_drew ?_ | refine blk_alloc ?_ _)); refine blk_put (cs := #[.int .i64 t153, .slice none 0 0]) ?_ 1 _ rfl; (with_reducible repeat (first | refine blk_drewN ?_ _ | refine blk_drew ?_ | refine blk_alloc ?_ _)); refine blk_put (cs := #[.int .i64 0, .slice none 0 0]) ?_ 0 _ rfl; (with_reducible repeat (first | refine blk_drewN ?_ _ | refine blk_drew ?_ | refine blk_alloc ?_ _)); exact BK158.out) hb); have n4_ := Aside0.mk (below_step (by repeat (first | (with_reducible first | exact HB.out | apply below_alloc | apply pw_below_drewN | apply below_drew1 | refine below_set ?_ GE151.out | refine below_set ?_ GE158.out) | exact HB.out)) hb); clear HO_152001; clear HO156; clear BK151; clear BK158; clear HB; have HO_152001 := n0_; have HO156 := n1_; have BK151 := n2_; have BK158 := n3_; have HB := n4_; clear n0_ n1_ n2_ n3_ n4_; (try clear hb); (try clear hb2); (try clear hk); (try clear hi)))
             go_meet
             case rel => exact ⟨_, (true), (by first | rfl | (simp; done) | (simp [*]; done)), H', ⟨by have := HK1.out; have := HJ14.out; first | omega | exact Nat.le_refl _⟩, ⟨by (with_reducible repeat (first | apply Kd.S_alloc | apply Kd.S_drewN | apply Kd.S_drew)); exact HO_152001.out⟩, ⟨by (with_reducible repeat (first | apply Kd.S_alloc | apply Kd.S_drewN | apply Kd.S_drew)); exact HO156.out⟩, ⟨by (with_reducible repeat (first | refine blk_drewN ?_ _ | refine blk_drew ?_ | refine blk_alloc ?_ _)); exact BK151.out⟩, ⟨by (with_reducible repeat (first | refine blk_drewN ?_ _ | refine blk_drew ?_ | refine blk_alloc ?_ _)); exact BK158.out⟩, ⟨by repeat (first | (with_reducible first | exact HB.out | apply below_alloc | apply pw_below_drewN | apply below_drew1 | refine below_set ?_ GE151.out | refine below_set ?_ GE158.out) | exact HB.out)⟩⟩
           case rest =>
            clear HC21
            try clear c1
            try clear p1
            try clear q1
            try clear hx1
            try clear c2
            try clear p2
            try clear c3
            try clear c5
            try clear c6
            try clear p6
            try clear c7
            try clear c7b0
            try clear c7b1
            try clear c9
            try clear c9b0
            try clear c9b1
            try clear c15
            try clear p15
            try clear q15
            try clear hx15
            try clear c16
            try clear c16b0
            try clear c17
            try clear c18
            try clear c18b0
            try clear c19
            try clear c19b0
            try clear c22
            try clear c31
            try clear c32
            try clear c37
            try clear hcz13_0
            try clear hcz13_1
            try clear hcz33_0
            try clear hcz33_1
            try clear hcz35_0
            try clear hcz35_1
            try clear hcz36_0
            try clear hcz36_1
            try clear hcz38_0
            try clear hcz38_1
            try clear hfz13_0
            try clear hfz13_1
            try clear hfz33_0
            try clear hfz33_1
            try clear hfz35_0
            try clear hfz35_1
            try clear hfz36_0
            try clear hfz36_1
            try clear hfz38_0
            try clear hfz38_1
            try clear hx152_0
            try clear hx152_1
            try clear hx152_2
            try clear hx152_3
            try clear p152
            try clear p2
            try clear p6
            try clear q152
            obtain ⟨kq, x71_20, rfl, HA, HJ20, HO_152001, HO_159001, BK151, BK158, HB⟩ := hcut
            cases kq with
            | zero => exact absurd HA.out (by simp [fascinelaw14_MetaStays.j2])
            | succ kj20 =>
             have H := HA.out
             clear HA
             simp only [fascinelaw14_MetaStays.j2] at H
             by_cases c40 : x71_20 = true
             ·subst c40
              have H1 : (some false) = some r := by rw [if_pos rfl] at H; exact H
              clear H
              have H := H1
              clear H1
              exact absurd (HR_.out.symm.trans (Option.some.inj H).symm) (by decide)
             ·replace c40 := Bool.eq_false_iff.mpr c40
              subst c40
              have H1 : (fascinelaw14_MetaStays.l1 kj20 l3 x12_1 t157 0 0 x152000_1 x152001_1 t153 t154) = some r := by rw [if_neg (show ¬ (false = true) by decide)] at H; exact H
              clear H
              have H := H1
              clear H1
              have H' := Aside0.mk H
              clear H
              go_wp2
              go_loopg [15, 16] kj20 (fun kq v15 v16 w' => ∃ (x15_4 : Int) (x16_4 : Int), v15 = .int .i64 x15_4 ∧ v16 = .int .i64 x16_4 ∧ Aside0 (fascinelaw14_MetaStays.l1 kq l3 x12_1 t157 x15_4 x16_4 x152000_1 x152001_1 t153 t154 = some r) ∧ Aside0 (kq ≤ kj20) ∧ Aside0 (Kd.S k42 42 w' w.heap.size (fun k_ => some k_ ≠ ((.slice Ao28 t154.length co28) : Value).ownBlock) (.slice Ao22 x152001_1.length co22) x152001_1) ∧ Aside0 (Kd.S k42 42 w' w.heap.size (fun k_ => some k_ ≠ ((.slice Ao22 x152001_1.length co22) : Value).ownBlock) (.slice Ao28 t154.length co28) t154) ∧ Aside0 (w'.heap[gb151]? = some (.cells #[.int .i64 x152000_1, (.slice Ao22 x152001_1.length co22)] 24 (0, 0))) ∧ Aside0 (w'.heap[gb158]? = some (.cells #[.int .i64 t153, (.slice Ao28 t154.length co28)] 24 (0, 0))) ∧ Aside0 (Below w.heap.size w w'))
              case atStart => exact ⟨(0), (0), (by first | rfl | (simp; done) | (simp [*]; done)), (by first | rfl | (simp; done) | (simp [*]; done)), H', ⟨Nat.le_refl _⟩, ⟨by (with_reducible repeat (first | apply Kd.S_alloc | apply Kd.S_drewN | apply Kd.S_drew)); exact HO_152001.out⟩, ⟨by (with_reducible repeat (first | apply Kd.S_alloc | apply Kd.S_drewN | apply Kd.S_drew)); exact HO_159001.out⟩, ⟨by (with_reducible repeat (first | refine blk_drewN ?_ _ | refine blk_drew ?_ | refine blk_alloc ?_ _)); exact BK151.out⟩, ⟨by (with_reducible repeat (first | refine blk_drewN ?_ _ | refine blk_drew ?_ | refine blk_alloc ?_ _)); exact BK158.out⟩, ⟨by repeat (first | (with_reducible first | exact HB.out | apply below_alloc | apply pw_below_drewN | apply below_drew1 | refine below_set ?_ GE151.out | refine below_set ?_ GE158.out) | exact HB.out)⟩⟩
              case round =>
               clear H'
               try clear c1
               try clear p1
               try clear q1
               try clear hx1
               try clear c2
               try clear p2
               try clear c3
               try clear c4
               try clear c5
               try clear c6
               try clear p6
               try clear c7
               try clear c7b0
               try clear c7b1
               try clear c9
               try clear c9b0
               try clear c9b1
               try clear c15
               try clear p15
               try clear q15
               try clear hx15
               try clear c16
               try clear c16b0
               try clear c17
               try clear c18
               try clear c18b0
               try clear c19
               try clear c19b0
               try clear c22
               try clear c31
               try clear c32
               try clear c37
               try clear c40
               try clear hcz13_0
               try clear hcz13_1
               try clear hcz33_0
               try clear hcz33_1
               try clear hcz35_0
               try clear hcz35_1
               try clear hcz36_0
               try clear hcz36_1
               try clear hcz38_0
               try clear hcz38_1
               try clear hfz13_0
               try clear hfz13_1
               try clear hfz33_0
               try clear hfz33_1
               try clear hfz35_0
               try clear hfz35_1
               try clear hfz36_0
               try clear hfz36_1
               try clear hfz38_0
               try clear hfz38_1
               try clear hx152_0
               try clear hx152_1
               try clear hx152_2
               try clear hx152_3
               try clear p1
               try clear p15
               try clear p152
               try clear p2
               try clear p6
               try clear q1
               try clear q15
               try clear q152
               obtain ⟨x15_4, x16_4, rfl, rfl, HA, HK4, HO_152001, HO_159001, BK151, BK158, HB⟩ := hrel
               cases gk with
               | zero => exact absurd HA.out (by simp [fascinelaw14_MetaStays.l1])
               | succ k4 =>
                have H := HA.out
                clear HA
                simp only [fascinelaw14_MetaStays.l1] at H
                by_cases c41 : x16_4 < (x152001_1.length : Int)
                ·rw [if_pos c41] at H
                 have c41b0 : decide (x16_4 < (x152001_1.length : Int)) = true := decide_eq_true c41
                 clear c41
                 have HC42 := Aside0.mk H
                 clear H
                 have hnb43 := NB151_158.out
                 have hnc43 := NB158_151.out
                 have hcz44_0 : wr.cell? ⟨gb151, 0, none⟩ = some (.int .i64 x152000_1) := (blk_cell BK151.out 0).trans rfl
                 have hcz44_1 : wr.cell? ⟨gb151, 1, none⟩ = some (.slice Ao22 x152001_1.length co22) := (blk_cell BK151.out 1).trans rfl
                 have hfz44_0 := blk_frozen BK151.out 0
                 have hfz44_1 := blk_frozen BK151.out 1
                 go_upto_region 17 with (fail)
                 go_cut [106] (fun v106 wc => ∃ (kq : Nat) (x106_41 : Bool), v106 = .bool x106_41 ∧ Aside0 (fascinelaw14_MetaStays.j4 kq l3 x12_1 t157 x15_4 x16_4 x106_41 x152000_1 x152001_1 t153 t154 = some r) ∧ Aside0 (kq ≤ k4) ∧ Aside0 (Kd.S k42 42 wc w.heap.size (fun k_ => some k_ ≠ ((.slice Ao28 t154.length co28) : Value).ownBlock) (.slice Ao22 x152001_1.length co22) x152001_1) ∧ Aside0 (Kd.S k42 42 wc w.heap.size (fun k_ => some k_ ≠ ((.slice Ao22 x152001_1.length co22) : Value).ownBlock) (.slice Ao28 t154.length co28) t154) ∧ Aside0 (wc.heap[gb151]? = some (.cells #[.int .i64 x152000_1, (.slice Ao22 x152001_1.length co22)] 24 (0, 0))) ∧ Aside0 (wc.heap[gb158]? = some (.cells #[.int .i64 t153, (.slice Ao28 t154.length co28)] 24 (0, 0))) ∧ Aside0 (Below w.heap.size w wc))
                 case first =>
                  have H := HC42.out
                  clear HC42
                  by_cases c45 : 0 ≤ x16_4
                  ·rw [if_pos c45] at H
                   have c45b0 : decide (0 ≤ x16_4) = true := decide_eq_true c45
                   clear c45
                   (first | rw [c45b0] | (simp only [i64_w, i32_w]; rw [c45b0]) | skip)
                   by_cases c46 : x16_4 < (t154.length : Int)
                   ·rw [if_pos c46] at H
                    have c46b0 : decide (x16_4 < (t154.length : Int)) = true := decide_eq_true c46
                    clear c46
                    by_cases c47 : ((rd_T42 t154 x16_4).f0) < ((rd_T42 x152001_1 x16_4).f0)
                    ·rw [if_pos c47] at H
                     have c47b0 : decide (((rd_T42 t154 x16_4).f0) < ((rd_T42 x152001_1 x16_4).f0)) = true := decide_eq_true c47
                     clear c47
                     have H' := Aside0.mk H
                     clear H
                     try go_wp2
                     (try (rw [drewN_self wr]; generalize hq_ : World.drewN wr _ = wr; have n0_ : Aside0 (Kd.S k42 42 wr w.heap.size (fun k_ => some k_ ≠ (.slice Ao28 t154.length co28 : Value).ownBlock) (.slice Ao22 x152001_1.length co22) x152001_1) := ⟨by rw [← hq_]; exact (by (with_reducible repeat (first | apply Kd.S_alloc | apply Kd.S_drewN | apply Kd.S_drew)); exact HO_152001.out)⟩; have n1_ : Aside0 (Kd.S k42 42 wr w.heap.size (fun k_ => some k_ ≠ (.slice Ao22 x152001_1.length co22 : Value).ownBlock) (.slice Ao28 t154.length co28) t154) := ⟨by rw [← hq_]; exact (by (with_reducible repeat (first | apply Kd.S_alloc | apply Kd.S_drewN | apply Kd.S_drew)); exact HO_159001.out)⟩; have n2_ : Aside0 (wr.heap[gb151]? = some (.cells #[.int .i64 x152000_1, .slice Ao22 x152001_1.length co22] 24 (0, 0))) := ⟨by rw [← hq_]; exact (by (with_reducible repeat (first | refine blk_drewN ?_ _ | refine blk_drew ?_ | refine blk_alloc ?_ _)); exact BK151.out)⟩; have n3_ : Aside0 (wr.heap[gb158]? = some (.cells #[.int .i64 t153, .slice Ao28 t154.length co28] 24 (0, 0))) := ⟨by rw [← hq_]; exact (by (with_reducible repeat (first | refine blk_drewN ?_ _ | refine blk_drew ?_ | refine blk_alloc ?_ _)); exact BK158.out)⟩; have n4_ : Aside0 (Below w.heap.size w wr) := ⟨by rw [← hq_]; exact (by repeat (first | (with_reducible first | exact HB.out | apply below_alloc | apply pw_below_drewN | apply below_drew1 | refine below_set ?_ GE151.out | refine below_set ?_ GE158.out) | exact HB.out))⟩; clear HO_152001 HO_159001 BK151 BK158 HB hq_; have HO_152001 := n0_; have HO_159001 := n1_; have BK151 := n2_; have BK158 := n3_; have HB := n4_; clear n0_ n1_ n2_ n3_ n4_))
                     have n0_ := Aside0.mk (Kd.S_drew HO_152001.out)
                     have n1_ := Aside0.mk (Kd.S_drew HO_159001.out)
                     have n2_ := Aside0.mk (blk_drew BK151.out)
                     have n3_ := Aside0.mk (blk_drew BK158.out)
                     have n4_ := Aside0.mk (below_drew1 HB.out)
                     clear HO_152001
                     clear HO_159001
                     clear BK151
                     clear BK158
                     clear HB
                     have HO_152001 := n0_
                     have HO_159001 := n1_
                     have BK151 := n2_
                     have BK158 := n3_
                     have HB := n4_
                     clear n0_ n1_ n2_ n3_ n4_
                     have p160 : 0 ≤ (x16_4 : Int) := of_decide_eq_true (by first | (with_reducible assumption) | assumption)
                     have q160 : x16_4 < (t154.length : Int) := of_decide_eq_true (by first | (with_reducible assumption) | assumption)
                     obtain ⟨ad160, A160_3, c160_3, e160, hx160_0, hx160_1, hx160_2, hx160_3, hl160_3, hi160_3⟩ := at_T42 (Kd.S_reads' HO_159001.out).2.2 x16_4 p160 q160
                     cases e160
                     obtain ⟨ce160, hce160, hMe160, hcc160⟩ := Kd.S_get HO_159001.out z42 x16_4 p160 (by first | exact q160 | exact of_decide_eq_true (by first | (with_reducible assumption) | assumption) | (have e_ := (Kd.S_reads' HO_159001.out).1; omega))
                     obtain ⟨ve160_3, rfl, ge160_3⟩ := k42_openM hMe160
                     have hv160_3 := hcc160 3 _ rfl
                     rw [add_field _ _ 3 (by omega)] at hv160_3
                     replace hv160_3 := Option.some.inj (hv160_3.symm.trans hx160_3)
                     rw [hv160_3] at ge160_3
                     have HL160_3 := Aside0.mk (show Kd.R (Kd.int .i64) 3 _ _ _ _ ((rd_T42 t154 x16_4).f3) from ge160_3)
                     clear hv160_3 ge160_3
                     clear hcc160 hce160
                     have HR160_3 := Aside0.mk hi160_3
                     have HC160_3 := Aside0.mk hl160_3
                     clear hi160_3 hl160_3
                     replace p160 := eq_true p160
                     replace q160 := eq_true q160
                     have p161 : 0 ≤ (x16_4 : Int) := of_decide_eq_true (by first | (with_reducible assumption) | assumption)
                     have q161 : x16_4 < (x152001_1.length : Int) := of_decide_eq_true (by first | (with_reducible assumption) | assumption)
                     obtain ⟨ad161, A161_3, c161_3, e161, hx161_0, hx161_1, hx161_2, hx161_3, hl161_3, hi161_3⟩ := at_T42 (Kd.S_reads' HO_152001.out).2.2 x16_4 p161 q161
                     cases e161
                     obtain ⟨ce161, hce161, hMe161, hcc161⟩ := Kd.S_get HO_152001.out z42 x16_4 p161 (by first | exact q161 | exact of_decide_eq_true (by first | (with_reducible assumption) | assumption) | (have e_ := (Kd.S_reads' HO_152001.out).1; omega))
                     obtain ⟨ve161_3, rfl, ge161_3⟩ := k42_openM hMe161
                     have hv161_3 := hcc161 3 _ rfl
                     rw [add_field _ _ 3 (by omega)] at hv161_3
                     replace hv161_3 := Option.some.inj (hv161_3.symm.trans hx161_3)
                     rw [hv161_3] at ge161_3
                     have HL161_3 := Aside0.mk (show Kd.R (Kd.int .i64) 3 _ _ _ _ ((rd_T42 x152001_1 x16_4).f3) from ge161_3)
                     clear hv161_3 ge161_3
                     clear hcc161 hce161
                     have HR161_3 := Aside0.mk hi161_3
                     have HC161_3 := Aside0.mk hl161_3
                     clear hi161_3 hl161_3
                     replace p161 := eq_true p161
                     replace q161 := eq_true q161
                     refine start_ (n := 28) (S := fun w' => w'.cell? ⟨gb158, 0, none⟩ = some (.int .i64 t153) ∧ w'.cell? ⟨gb158, 1, none⟩ = some (.slice (some ad160) t154.length co28) ∧ w'.cell? ⟨gb151, 0, none⟩ = some (.int .i64 x152000_1) ∧ w'.cell? ⟨gb151, 1, none⟩ = some (.slice (some ad161) x152001_1.length co22) ∧ w'.cell? (ad160.add ((x16_4).toNat * 4)) = some (.int .u64 ((rd_T42 t154 x16_4).f0)) ∧ w'.cell? ⟨(ad160.add ((x16_4).toNat * 4)).block, (ad160.add ((x16_4).toNat * 4)).off + 1, none⟩ = some (.int .u64 ((rd_T42 t154 x16_4).f1)) ∧ w'.cell? ⟨(ad160.add ((x16_4).toNat * 4)).block, (ad160.add ((x16_4).toNat * 4)).off + 2, none⟩ = some (.int .i64 ((rd_T42 t154 x16_4).f2)) ∧ w'.cell? ⟨(ad160.add ((x16_4).toNat * 4)).block, (ad160.add ((x16_4).toNat * 4)).off + 3, none⟩ = some (.slice A160_3 ((rd_T42 t154 x16_4).f3).length c160_3) ∧ w'.cell? (ad161.add ((x16_4).toNat * 4)) = some (.int .u64 ((rd_T42 x152001_1 x16_4).f0)) ∧ w'.cell? ⟨(ad161.add ((x16_4).toNat * 4)).block, (ad161.add ((x16_4).toNat * 4)).off + 1, none⟩ = some (.int .u64 ((rd_T42 x152001_1 x16_4).f1)) ∧ w'.cell? ⟨(ad161.add ((x16_4).toNat * 4)).block, (ad161.add ((x16_4).toNat * 4)).off + 2, none⟩ = some (.int .i64 ((rd_T42 x152001_1 x16_4).f2)) ∧ w'.cell? ⟨(ad161.add ((x16_4).toNat * 4)).block, (ad161.add ((x16_4).toNat * 4)).off + 3, none⟩ = some (.slice A161_3 ((rd_T42 x152001_1 x16_4).f3).length c161_3)) (ds := []) #[false, false, false, false, false, false, false, false, false, false, false, false, false, false, false, false, false, false, false, false, false, false, false, false, false, false, false, false] (by kernel_rfl) rfl rfl ⟨(blk_cell BK158.out 0).trans rfl, (blk_cell BK158.out 1).trans rfl, (blk_cell BK151.out 0).trans rfl, (blk_cell BK151.out 1).trans rfl, hx160_0, hx160_1, hx160_2, hx160_3, hx161_0, hx161_1, hx161_2, hx161_3⟩ (fun hHeld => ?_); refine with_tabW fascinelaw14_MetaStays.tab17 fascinelaw14_MetaStays.bits17 (fun HT_ HW_ => ?_)
                     generalize wr.drew = w48 at HO_152001 HO_159001 BK151 BK158 HB HL160_3 HL161_3 HR160_3 HR161_3 hx160_0 hx160_1 hx160_2 hx160_3 hx161_0 hx161_1 hx161_2 hx161_3 hHeld ⊢
                     refine pure_ (i := 0) (N := some 79) (v := ?_) (a' := ?_) #[true, false, false, false, false, false, false, false, false, false, false, false, false, false, false, false, false, false, false, false, false, false, false, false, false, false, false, false] rfl rfl (any_of HT_.out (by kernel_rfl)) (fun _ _ _ h => h) (Or.inl ⟨by rfl, ?_⟩) ?_ ?_
                     rotate_left
                     ·intro w'
                      go_simp
                      with_reducible rfl
                     rotate_left
                     ·simp only [Act.put, List.setIfInBounds_toArray, List.set_cons_zero, List.set_cons_succ, i64_w, i32_w]
                      rfl
                     refine pure_ (i := 2) (N := some 81) (v := ?_) (a' := ?_) #[true, false, true, false, false, false, false, false, false, false, false, false, false, false, false, false, false, false, false, false, false, false, false, false, false, false, false, false] rfl rfl (any_of HT_.out (by kernel_rfl)) (fun _ _ _ h => h) (Or.inl ⟨by rfl, ?_⟩) ?_ ?_
                     rotate_left
                     ·intro w'
                      go_simp
                      with_reducible rfl
                     rotate_left
                     ·simp only [Act.put, List.setIfInBounds_toArray, List.set_cons_zero, List.set_cons_succ, i64_w, i32_w]
                      rfl
                     refine pure_ (i := 6) (N := some 85) (v := ?_) (a' := ?_) #[true, false, true, false, false, false, true, false, false, false, false, false, false, false, false, false, false, false, false, false, false, false, false, false, false, false, false, false] rfl rfl (any_of HT_.out (by kernel_rfl)) (fun _ _ _ h => h) (Or.inl ⟨by rfl, ?_⟩) ?_ ?_
                     rotate_left
                     ·intro w'
                      go_simp
                      with_reducible rfl
                     rotate_left
                     ·simp only [Act.put, List.setIfInBounds_toArray, List.set_cons_zero, List.set_cons_succ, i64_w, i32_w]
                      rfl
                     refine pure_ (i := 8) (N := some 87) (v := ?_) (a' := ?_) #[true, false, true, false, false, false, true, false, true, false, false, false, false, false, false, false, false, false, false, false, false, false, false, false, false, false, false, false] rfl rfl (any_of HT_.out (by kernel_rfl)) (fun _ _ _ h => h) (Or.inl ⟨by rfl, ?_⟩) ?_ ?_
                     rotate_left
                     ·intro w'
                      go_simp
                      with_reducible rfl
                     rotate_left
                     ·simp only [Act.put, List.setIfInBounds_toArray, List.set_cons_zero, List.set_cons_succ, i64_w, i32_w]
                      rfl
                     refine take_ (i := 1) (N := some 80) (v := ?_) (a' := ?_) #[true, true, true, false, false, false, true, false, true, false, false, false, false, false, false, false, false, false, false, false, false, false, false, false, false, false, false, false] rfl rfl (take_ofW HT_.out HW_.out (by kernel_rfl)) (fun _ _ _ h => h) (Or.inl ⟨by rfl, ?_⟩) hHeld ?_ ?_
                     rotate_left
                     ·rintro w' ⟨s0, s1, s2, s3, s4, s5, s6, s7, s8, s9, s10, s11⟩
                      go_simp
                      with_reducible rfl
                     rotate_left
                     ·simp only [Act.put, List.setIfInBounds_toArray, List.set_cons_zero, List.set_cons_succ, i64_w, i32_w]
                      rfl
                     refine pure_ (i := 3) (N := some 82) (v := ?_) (a' := ?_) #[true, true, true, true, false, false, true, false, true, false, false, false, false, false, false, false, false, false, false, false, false, false, false, false, false, false, false, false] rfl rfl (any_of HT_.out (by kernel_rfl)) (fun _ _ _ h => h) (Or.inl ⟨by rfl, ?_⟩) ?_ ?_
                     rotate_left
                     ·intro w'
                      go_simp
                      with_reducible rfl
                     rotate_left
                     ·simp only [Act.put, List.setIfInBounds_toArray, List.set_cons_zero, List.set_cons_succ, i64_w, i32_w]
                      rfl
                     refine pure_ (i := 4) (N := some 83) (v := ?_) (a' := ?_) #[true, true, true, true, true, false, true, false, true, false, false, false, false, false, false, false, false, false, false, false, false, false, false, false, false, false, false, false] rfl rfl (any_of HT_.out (by kernel_rfl)) (fun _ _ _ h => h) (Or.inl ⟨by rfl, ?_⟩) ?_ ?_
                     rotate_left
                     ·intro w'
                      go_simp
                      with_reducible rfl
                     rotate_left
                     ·simp only [Act.put, List.setIfInBounds_toArray, List.set_cons_zero, List.set_cons_succ, i64_w, i32_w]
                      rfl
                     refine take_ (i := 5) (N := some 84) (v := ?_) (a' := ?_) #[true, true, true, true, true, true, true, false, true, false, false, false, false, false, false, false, false, false, false, false, false, false, false, false, false, false, false, false] rfl rfl (take_ofW HT_.out HW_.out (by kernel_rfl)) (fun _ _ _ h => h) (Or.inl ⟨by rfl, ?_⟩) hHeld ?_ ?_
                     rotate_left
                     ·rintro w' ⟨s0, s1, s2, s3, s4, s5, s6, s7, s8, s9, s10, s11⟩
                      go_simp
                      with_reducible rfl
                     rotate_left
                     ·simp only [Act.put, List.setIfInBounds_toArray, List.set_cons_zero, List.set_cons_succ, i64_w, i32_w]
                      rfl
                     refine take_ (i := 7) (N := some 86) (v := ?_) (a' := ?_) #[true, true, true, true, true, true, true, true, true, false, false, false, false, false, false, false, false, false, false, false, false, false, false, false, false, false, false, false] rfl rfl (take_ofW HT_.out HW_.out (by kernel_rfl)) (fun _ _ _ h => h) (Or.inl ⟨by rfl, ?_⟩) hHeld ?_ ?_
                     rotate_left
                     ·rintro w' ⟨s0, s1, s2, s3, s4, s5, s6, s7, s8, s9, s10, s11⟩
                      go_simp
                      with_reducible rfl
                     rotate_left
                     ·simp only [Act.put, List.setIfInBounds_toArray, List.set_cons_zero, List.set_cons_succ, i64_w, i32_w]
                      rfl
                     refine pure_ (i := 9) (N := some 88) (v := ?_) (a' := ?_) #[true, true, true, true, true, true, true, true, true, true, false, false, false, false, false, false, false, false, false, false, false, false, false, false, false, false, false, false] rfl rfl (any_of HT_.out (by kernel_rfl)) (fun _ _ _ h => h) (Or.inl ⟨by rfl, ?_⟩) ?_ ?_
                     rotate_left
                     ·intro w'
                      go_simp
                      with_reducible rfl
                     rotate_left
                     ·simp only [Act.put, List.setIfInBounds_toArray, List.set_cons_zero, List.set_cons_succ, i64_w, i32_w]
                      rfl
                     refine pure_ (i := 10) (N := some 89) (v := ?_) (a' := ?_) #[true, true, true, true, true, true, true, true, true, true, true, false, false, false, false, false, false, false, false, false, false, false, false, false, false, false, false, false] rfl rfl (any_of HT_.out (by kernel_rfl)) (fun _ _ _ h => h) (Or.inl ⟨by rfl, ?_⟩) ?_ ?_
                     rotate_left
                     ·intro w'
                      go_simp
                      with_reducible rfl
                     rotate_left
                     ·simp only [Act.put, List.setIfInBounds_toArray, List.set_cons_zero, List.set_cons_succ, i64_w, i32_w]
                      rfl
                     refine take_ (i := 11) (N := some 90) (v := ?_) (a' := ?_) #[true, true, true, true, true, true, true, true, true, true, true, true, false, false, false, false, false, false, false, false, false, false, false, false, false, false, false, false] rfl rfl (take_ofW HT_.out HW_.out (by kernel_rfl)) (fun _ _ _ h => h) (Or.inl ⟨by rfl, ?_⟩) hHeld ?_ ?_
                     rotate_left
                     ·rintro w' ⟨s0, s1, s2, s3, s4, s5, s6, s7, s8, s9, s10, s11⟩
                      go_simp
                      with_reducible rfl
                     rotate_left
                     ·simp only [Act.put, List.setIfInBounds_toArray, List.set_cons_zero, List.set_cons_succ, i64_w, i32_w]
                      rfl
                     refine pure_ (i := 12) (N := some 91) (v := ?_) (a' := ?_) #[true, true, true, true, true, true, true, true, true, true, true, true, true, false, false, false, false, false, false, false, false, false, false, false, false, false, false, false] rfl rfl (any_of HT_.out (by kernel_rfl)) (fun _ _ _ h => h) (Or.inl ⟨by rfl, ?_⟩) ?_ ?_
                     rotate_left
                     ·intro w'
                      go_simp
                      with_reducible rfl
                     rotate_left
                     ·simp only [Act.put, List.setIfInBounds_toArray, List.set_cons_zero, List.set_cons_succ, i64_w, i32_w]
                      rfl
                     refine pure_ (i := 13) (N := some 92) (v := ?_) (a' := ?_) #[true, true, true, true, true, true, true, true, true, true, true, true, true, true, false, false, false, false, false, false, false, false, false, false, false, false, false, false] rfl rfl (any_of HT_.out (by kernel_rfl)) (fun _ _ _ h => h) (Or.inl ⟨by rfl, ?_⟩) ?_ ?_
                     rotate_left
                     ·intro w'
                      go_simp
                      with_reducible rfl
                     rotate_left
                     ·simp only [Act.put, List.setIfInBounds_toArray, List.set_cons_zero, List.set_cons_succ, i64_w, i32_w]
                      rfl
                     refine pure_ (i := 14) (N := some 93) (v := undef) (a' := ?_) #[true, true, true, true, true, true, true, true, true, true, true, true, true, true, true, false, false, false, false, false, false, false, false, false, false, false, false, false] rfl rfl (any_of HT_.out (by kernel_rfl)) (fun _ _ _ h => h) (Or.inr ⟨by rfl, rfl⟩) ?_ ?_
                     rotate_left
                     ·simp only [Act.put, List.setIfInBounds_toArray, List.set_cons_zero, List.set_cons_succ, i64_w, i32_w]
                      rfl
                     refine pure_ (i := 15) (N := some 94) (v := undef) (a' := ?_) #[true, true, true, true, true, true, true, true, true, true, true, true, true, true, true, true, false, false, false, false, false, false, false, false, false, false, false, false] rfl rfl (any_of HT_.out (by kernel_rfl)) (fun _ _ _ h => h) (Or.inr ⟨by rfl, rfl⟩) ?_ ?_
                     rotate_left
                     ·simp only [Act.put, List.setIfInBounds_toArray, List.set_cons_zero, List.set_cons_succ, i64_w, i32_w]
                      rfl
                     refine pure_ (i := 16) (N := some 95) (v := undef) (a' := ?_) #[true, true, true, true, true, true, true, true, true, true, true, true, true, true, true, true, true, false, false, false, false, false, false, false, false, false, false, false] rfl rfl (any_of HT_.out (by kernel_rfl)) (fun _ _ _ h => h) (Or.inr ⟨by rfl, rfl⟩) ?_ ?_
                     rotate_left
                     ·simp only [Act.put, List.setIfInBounds_toArray, List.set_cons_zero, List.set_cons_succ, i64_w, i32_w]
                      rfl
                     refine pure_ (i := 17) (N := some 96) (v := undef) (a' := ?_) #[true, true, true, true, true, true, true, true, true, true, true, true, true, true, true, true, true, true, false, false, false, false, false, false, false, false, false, false] rfl rfl (any_of HT_.out (by kernel_rfl)) (fun _ _ _ h => h) (Or.inr ⟨by rfl, rfl⟩) ?_ ?_
                     rotate_left
                     ·simp only [Act.put, List.setIfInBounds_toArray, List.set_cons_zero, List.set_cons_succ, i64_w, i32_w]
                      rfl
                     refine pure_ (i := 18) (N := some 97) (v := undef) (a' := ?_) #[true, true, true, true, true, true, true, true, true, true, true, true, true, true, true, true, true, true, true, false, false, false, false, false, false, false, false, false] rfl rfl (any_of HT_.out (by kernel_rfl)) (fun _ _ _ h => h) (Or.inr ⟨by rfl, rfl⟩) ?_ ?_
                     rotate_left
                     ·simp only [Act.put, List.setIfInBounds_toArray, List.set_cons_zero, List.set_cons_succ, i64_w, i32_w]
                      rfl
                     refine pure_ (i := 19) (N := some 98) (v := undef) (a' := ?_) #[true, true, true, true, true, true, true, true, true, true, true, true, true, true, true, true, true, true, true, true, false, false, false, false, false, false, false, false] rfl rfl (any_of HT_.out (by kernel_rfl)) (fun _ _ _ h => h) (Or.inr ⟨by rfl, rfl⟩) ?_ ?_
                     rotate_left
                     ·simp only [Act.put, List.setIfInBounds_toArray, List.set_cons_zero, List.set_cons_succ, i64_w, i32_w]
                      rfl
                     refine pure_ (i := 20) (N := some 99) (v := undef) (a' := ?_) #[true, true, true, true, true, true, true, true, true, true, true, true, true, true, true, true, true, true, true, true, true, false, false, false, false, false, false, false] rfl rfl (any_of HT_.out (by kernel_rfl)) (fun _ _ _ h => h) (Or.inr ⟨by rfl, rfl⟩) ?_ ?_
                     rotate_left
                     ·simp only [Act.put, List.setIfInBounds_toArray, List.set_cons_zero, List.set_cons_succ, i64_w, i32_w]
                      rfl
                     refine pure_ (i := 21) (N := some 100) (v := undef) (a' := ?_) #[true, true, true, true, true, true, true, true, true, true, true, true, true, true, true, true, true, true, true, true, true, true, false, false, false, false, false, false] rfl rfl (any_of HT_.out (by kernel_rfl)) (fun _ _ _ h => h) (Or.inr ⟨by rfl, rfl⟩) ?_ ?_
                     rotate_left
                     ·simp only [Act.put, List.setIfInBounds_toArray, List.set_cons_zero, List.set_cons_succ, i64_w, i32_w]
                      rfl
                     refine pure_ (i := 22) (N := some 101) (v := undef) (a' := ?_) #[true, true, true, true, true, true, true, true, true, true, true, true, true, true, true, true, true, true, true, true, true, true, true, false, false, false, false, false] rfl rfl (any_of HT_.out (by kernel_rfl)) (fun _ _ _ h => h) (Or.inr ⟨by rfl, rfl⟩) ?_ ?_
                     rotate_left
                     ·simp only [Act.put, List.setIfInBounds_toArray, List.set_cons_zero, List.set_cons_succ, i64_w, i32_w]
                      rfl
                     refine pure_ (i := 23) (N := some 102) (v := undef) (a' := ?_) #[true, true, true, true, true, true, true, true, true, true, true, true, true, true, true, true, true, true, true, true, true, true, true, true, false, false, false, false] rfl rfl (any_of HT_.out (by kernel_rfl)) (fun _ _ _ h => h) (Or.inr ⟨by rfl, rfl⟩) ?_ ?_
                     rotate_left
                     ·simp only [Act.put, List.setIfInBounds_toArray, List.set_cons_zero, List.set_cons_succ, i64_w, i32_w]
                      rfl
                     refine pure_ (i := 24) (N := some 103) (v := undef) (a' := ?_) #[true, true, true, true, true, true, true, true, true, true, true, true, true, true, true, true, true, true, true, true, true, true, true, true, true, false, false, false] rfl rfl (any_of HT_.out (by kernel_rfl)) (fun _ _ _ h => h) (Or.inr ⟨by rfl, rfl⟩) ?_ ?_
                     rotate_left
                     ·simp only [Act.put, List.setIfInBounds_toArray, List.set_cons_zero, List.set_cons_succ, i64_w, i32_w]
                      rfl
                     refine pure_ (i := 25) (N := some 104) (v := undef) (a' := ?_) #[true, true, true, true, true, true, true, true, true, true, true, true, true, true, true, true, true, true, true, true, true, true, true, true, true, true, false, false] rfl rfl (any_of HT_.out (by kernel_rfl)) (fun _ _ _ h => h) (Or.inr ⟨by rfl, rfl⟩) ?_ ?_
                     rotate_left
                     ·simp only [Act.put, List.setIfInBounds_toArray, List.set_cons_zero, List.set_cons_succ, i64_w, i32_w]
                      rfl
                     refine pure_ (i := 26) (N := some 105) (v := undef) (a' := ?_) #[true, true, true, true, true, true, true, true, true, true, true, true, true, true, true, true, true, true, true, true, true, true, true, true, true, true, true, false] rfl rfl (any_of HT_.out (by kernel_rfl)) (fun _ _ _ h => h) (Or.inr ⟨by rfl, rfl⟩) ?_ ?_
                     rotate_left
                     ·simp only [Act.put, List.setIfInBounds_toArray, List.set_cons_zero, List.set_cons_succ, i64_w, i32_w]
                      rfl
                     refine pure_ (i := 27) (N := some 106) (v := ?_) (a' := ?_) #[true, true, true, true, true, true, true, true, true, true, true, true, true, true, true, true, true, true, true, true, true, true, true, true, true, true, true, true] rfl rfl (any_of HT_.out (by kernel_rfl)) (fun _ _ _ h => h) (Or.inl ⟨by rfl, ?_⟩) ?_ ?_
                     rotate_left
                     ·intro w'
                      go_simp
                      with_reducible rfl
                     rotate_left
                     ·simp only [Act.put, List.setIfInBounds_toArray, List.set_cons_zero, List.set_cons_succ, i64_w, i32_w]
                      rfl
                     refine done_ (done_of HT_.out (by kernel_rfl)) ?_
                     try go_wp2
                     go_meet
                     case rel => exact ⟨_, (true), (by first | rfl | (simp; done) | (simp [*]; done)), H', ⟨by have := HK1.out; have := HJ14.out; have := HJ20.out; have := HK4.out; first | omega | exact Nat.le_refl _⟩, ⟨by (with_reducible repeat (first | apply Kd.S_alloc | apply Kd.S_drewN | apply Kd.S_drew)); exact HO_152001.out⟩, ⟨by (with_reducible repeat (first | apply Kd.S_alloc | apply Kd.S_drewN | apply Kd.S_drew)); exact HO_159001.out⟩, ⟨by (with_reducible repeat (first | refine blk_drewN ?_ _ | refine blk_drew ?_ | refine blk_alloc ?_ _)); exact BK151.out⟩, ⟨by (with_reducible repeat (first | refine blk_drewN ?_ _ | refine blk_drew ?_ | refine blk_alloc ?_ _)); exact BK158.out⟩, ⟨by repeat (first | (with_reducible first | exact HB.out | apply below_alloc | apply pw_below_drewN | apply below_drew1 | refine below_set ?_ GE151.out | refine below_set ?_ GE158.out) | exact HB.out)⟩⟩
                    ·rw [if_neg c47] at H
                     have c47b0 : decide (((rd_T42 t154 x16_4).f0) < ((rd_T42 x152001_1 x16_4).f0)) = false := decide_eq_false c47
                     clear c47
                     have H' := Aside0.mk H
                     clear H
                     try go_wp2
                     (try (rw [drewN_self wr]; generalize hq_ : World.drewN wr _ = wr; have n0_ : Aside0 (Kd.S k42 42 wr w.heap.size (fun k_ => some k_ ≠ (.slice Ao28 t154.length co28 : Value).ownBlock) (.slice Ao22 x152001_1.length co22) x152001_1) := ⟨by rw [← hq_]; exact (by (with_reducible repeat (first | apply Kd.S_alloc | apply Kd.S_drewN | apply Kd.S_drew)); exact HO_152001.out)⟩; have n1_ : Aside0 (Kd.S k42 42 wr w.heap.size (fun k_ => some k_ ≠ (.slice Ao22 x152001_1.length co22 : Value).ownBlock) (.slice Ao28 t154.length co28) t154) := ⟨by rw [← hq_]; exact (by (with_reducible repeat (first | apply Kd.S_alloc | apply Kd.S_drewN | apply Kd.S_drew)); exact HO_159001.out)⟩; have n2_ : Aside0 (wr.heap[gb151]? = some (.cells #[.int .i64 x152000_1, .slice Ao22 x152001_1.length co22] 24 (0, 0))) := ⟨by rw [← hq_]; exact (by (with_reducible repeat (first | refine blk_drewN ?_ _ | refine blk_drew ?_ | refine blk_alloc ?_ _)); exact BK151.out)⟩; have n3_ : Aside0 (wr.heap[gb158]? = some (.cells #[.int .i64 t153, .slice Ao28 t154.length co28] 24 (0, 0))) := ⟨by rw [← hq_]; exact (by (with_reducible repeat (first | refine blk_drewN ?_ _ | refine blk_drew ?_ | refine blk_alloc ?_ _)); exact BK158.out)⟩; have n4_ : Aside0 (Below w.heap.size w wr) := ⟨by rw [← hq_]; exact (by repeat (first | (with_reducible first | exact HB.out | apply below_alloc | apply pw_below_drewN | apply below_drew1 | refine below_set ?_ GE151.out | refine below_set ?_ GE158.out) | exact HB.out))⟩; clear HO_152001 HO_159001 BK151 BK158 HB hq_; have HO_152001 := n0_; have HO_159001 := n1_; have BK151 := n2_; have BK158 := n3_; have HB := n4_; clear n0_ n1_ n2_ n3_ n4_))
                     have n0_ := Aside0.mk (Kd.S_drew HO_152001.out)
                     have n1_ := Aside0.mk (Kd.S_drew HO_159001.out)
                     have n2_ := Aside0.mk (blk_drew BK151.out)
                     have n3_ := Aside0.mk (blk_drew BK158.out)
                     have n4_ := Aside0.mk (below_drew1 HB.out)
                     clear HO_152001
                     clear HO_159001
                     clear BK151
                     clear BK158
                     clear HB
                     have HO_152001 := n0_
                     have HO_159001 := n1_
                     have BK151 := n2_
                     have BK158 := n3_
                     have HB := n4_
                     clear n0_ n1_ n2_ n3_ n4_
                     have p160 : 0 ≤ (x16_4 : Int) := of_decide_eq_true (by first | (with_reducible assumption) | assumption)
                     have q160 : x16_4 < (t154.length : Int) := of_decide_eq_true (by first | (with_reducible assumption) | assumption)
                     obtain ⟨ad160, A160_3, c160_3, e160, hx160_0, hx160_1, hx160_2, hx160_3, hl160_3, hi160_3⟩ := at_T42 (Kd.S_reads' HO_159001.out).2.2 x16_4 p160 q160
                     cases e160
                     obtain ⟨ce160, hce160, hMe160, hcc160⟩ := Kd.S_get HO_159001.out z42 x16_4 p160 (by first | exact q160 | exact of_decide_eq_true (by first | (with_reducible assumption) | assumption) | (have e_ := (Kd.S_reads' HO_159001.out).1; omega))
                     obtain ⟨ve160_3, rfl, ge160_3⟩ := k42_openM hMe160
                     have hv160_3 := hcc160 3 _ rfl
                     rw [add_field _ _ 3 (by omega)] at hv160_3
                     replace hv160_3 := Option.some.inj (hv160_3.symm.trans hx160_3)
                     rw [hv160_3] at ge160_3
                     have HL160_3 := Aside0.mk (show Kd.R (Kd.int .i64) 3 _ _ _ _ ((rd_T42 t154 x16_4).f3) from ge160_3)
                     clear hv160_3 ge160_3
                     clear hcc160 hce160
                     have HR160_3 := Aside0.mk hi160_3
                     have HC160_3 := Aside0.mk hl160_3
                     clear hi160_3 hl160_3
                     replace p160 := eq_true p160
                     replace q160 := eq_true q160
                     have p161 : 0 ≤ (x16_4 : Int) := of_decide_eq_true (by first | (with_reducible assumption) | assumption)
                     have q161 : x16_4 < (x152001_1.length : Int) := of_decide_eq_true (by first | (with_reducible assumption) | assumption)
                     obtain ⟨ad161, A161_3, c161_3, e161, hx161_0, hx161_1, hx161_2, hx161_3, hl161_3, hi161_3⟩ := at_T42 (Kd.S_reads' HO_152001.out).2.2 x16_4 p161 q161
                     cases e161
                     obtain ⟨ce161, hce161, hMe161, hcc161⟩ := Kd.S_get HO_152001.out z42 x16_4 p161 (by first | exact q161 | exact of_decide_eq_true (by first | (with_reducible assumption) | assumption) | (have e_ := (Kd.S_reads' HO_152001.out).1; omega))
                     obtain ⟨ve161_3, rfl, ge161_3⟩ := k42_openM hMe161
                     have hv161_3 := hcc161 3 _ rfl
                     rw [add_field _ _ 3 (by omega)] at hv161_3
                     replace hv161_3 := Option.some.inj (hv161_3.symm.trans hx161_3)
                     rw [hv161_3] at ge161_3
                     have HL161_3 := Aside0.mk (show Kd.R (Kd.int .i64) 3 _ _ _ _ ((rd_T42 x152001_1 x16_4).f3) from ge161_3)
                     clear hv161_3 ge161_3
                     clear hcc161 hce161
                     have HR161_3 := Aside0.mk hi161_3
                     have HC161_3 := Aside0.mk hl161_3
                     clear hi161_3 hl161_3
                     replace p161 := eq_true p161
                     replace q161 := eq_true q161
                     have p162 : 0 ≤ (x16_4 : Int) := of_decide_eq_true (by first | (with_reducible assumption) | assumption)
                     have q162 : x16_4 < (t154.length : Int) := of_decide_eq_true (by first | (with_reducible assumption) | assumption)
                     obtain ⟨ad162, A162_3, c162_3, e162, hx162_0, hx162_1, hx162_2, hx162_3, hl162_3, hi162_3⟩ := at_T42 (Kd.S_reads' HO_159001.out).2.2 x16_4 p162 q162
                     obtain rfl : ad160 = ad162 := (by injection e162)
                     obtain ⟨ce162, hce162, hMe162, hcc162⟩ := Kd.S_get HO_159001.out z42 x16_4 p162 (by first | exact q162 | exact of_decide_eq_true (by first | (with_reducible assumption) | assumption) | (have e_ := (Kd.S_reads' HO_159001.out).1; omega))
                     obtain ⟨ve162_3, rfl, ge162_3⟩ := k42_openM hMe162
                     have hv162_3 := hcc162 3 _ rfl
                     rw [add_field _ _ 3 (by omega)] at hv162_3
                     replace hv162_3 := Option.some.inj (hv162_3.symm.trans hx162_3)
                     rw [hv162_3] at ge162_3
                     have HL162_3 := Aside0.mk (show Kd.R (Kd.int .i64) 3 _ _ _ _ ((rd_T42 t154 x16_4).f3) from ge162_3)
                     clear hv162_3 ge162_3
                     clear hcc162 hce162
                     have HR162_3 := Aside0.mk hi162_3
                     have HC162_3 := Aside0.mk hl162_3
                     clear hi162_3 hl162_3
                     replace p162 := eq_true p162
                     replace q162 := eq_true q162
                     have ea_ := Option.some.inj (hx160_3.symm.trans hx162_3)
                     injection ea_ with ea_ en_ ec_
                     subst ea_
                     subst ec_
                     clear en_
                     have p163 : 0 ≤ (x16_4 : Int) := of_decide_eq_true (by first | (with_reducible assumption) | assumption)
                     have q163 : x16_4 < (x152001_1.length : Int) := of_decide_eq_true (by first | (with_reducible assumption) | assumption)
                     obtain ⟨ad163, A163_3, c163_3, e163, hx163_0, hx163_1, hx163_2, hx163_3, hl163_3, hi163_3⟩ := at_T42 (Kd.S_reads' HO_152001.out).2.2 x16_4 p163 q163
                     obtain rfl : ad161 = ad163 := (by injection e163)
                     obtain ⟨ce163, hce163, hMe163, hcc163⟩ := Kd.S_get HO_152001.out z42 x16_4 p163 (by first | exact q163 | exact of_decide_eq_true (by first | (with_reducible assumption) | assumption) | (have e_ := (Kd.S_reads' HO_152001.out).1; omega))
                     obtain ⟨ve163_3, rfl, ge163_3⟩ := k42_openM hMe163
                     have hv163_3 := hcc163 3 _ rfl
                     rw [add_field _ _ 3 (by omega)] at hv163_3
                     replace hv163_3 := Option.some.inj (hv163_3.symm.trans hx163_3)
                     rw [hv163_3] at ge163_3
                     have HL163_3 := Aside0.mk (show Kd.R (Kd.int .i64) 3 _ _ _ _ ((rd_T42 x152001_1 x16_4).f3) from ge163_3)
                     clear hv163_3 ge163_3
                     clear hcc163 hce163
                     have HR163_3 := Aside0.mk hi163_3
                     have HC163_3 := Aside0.mk hl163_3
                     clear hi163_3 hl163_3
                     replace p163 := eq_true p163
                     replace q163 := eq_true q163
                     have ea_ := Option.some.inj (hx161_3.symm.trans hx163_3)
                     injection ea_ with ea_ en_ ec_
                     subst ea_
                     subst ec_
                     clear en_
                     refine start_ (n := 28) (S := fun w' => w'.cell? ⟨gb158, 0, none⟩ = some (.int .i64 t153) ∧ w'.cell? ⟨gb158, 1, none⟩ = some (.slice (some ad160) t154.length co28) ∧ w'.cell? ⟨gb151, 0, none⟩ = some (.int .i64 x152000_1) ∧ w'.cell? ⟨gb151, 1, none⟩ = some (.slice (some ad161) x152001_1.length co22) ∧ w'.cell? (ad160.add ((x16_4).toNat * 4)) = some (.int .u64 ((rd_T42 t154 x16_4).f0)) ∧ w'.cell? ⟨(ad160.add ((x16_4).toNat * 4)).block, (ad160.add ((x16_4).toNat * 4)).off + 1, none⟩ = some (.int .u64 ((rd_T42 t154 x16_4).f1)) ∧ w'.cell? ⟨(ad160.add ((x16_4).toNat * 4)).block, (ad160.add ((x16_4).toNat * 4)).off + 2, none⟩ = some (.int .i64 ((rd_T42 t154 x16_4).f2)) ∧ w'.cell? ⟨(ad160.add ((x16_4).toNat * 4)).block, (ad160.add ((x16_4).toNat * 4)).off + 3, none⟩ = some (.slice A160_3 ((rd_T42 t154 x16_4).f3).length c160_3) ∧ w'.cell? (ad161.add ((x16_4).toNat * 4)) = some (.int .u64 ((rd_T42 x152001_1 x16_4).f0)) ∧ w'.cell? ⟨(ad161.add ((x16_4).toNat * 4)).block, (ad161.add ((x16_4).toNat * 4)).off + 1, none⟩ = some (.int .u64 ((rd_T42 x152001_1 x16_4).f1)) ∧ w'.cell? ⟨(ad161.add ((x16_4).toNat * 4)).block, (ad161.add ((x16_4).toNat * 4)).off + 2, none⟩ = some (.int .i64 ((rd_T42 x152001_1 x16_4).f2)) ∧ w'.cell? ⟨(ad161.add ((x16_4).toNat * 4)).block, (ad161.add ((x16_4).toNat * 4)).off + 3, none⟩ = some (.slice A161_3 ((rd_T42 x152001_1 x16_4).f3).length c161_3) ∧ w'.cell? (ad160.add ((x16_4).toNat * 4)) = some (.int .u64 ((rd_T42 t154 x16_4).f0)) ∧ w'.cell? ⟨(ad160.add ((x16_4).toNat * 4)).block, (ad160.add ((x16_4).toNat * 4)).off + 1, none⟩ = some (.int .u64 ((rd_T42 t154 x16_4).f1)) ∧ w'.cell? ⟨(ad160.add ((x16_4).toNat * 4)).block, (ad160.add ((x16_4).toNat * 4)).off + 2, none⟩ = some (.int .i64 ((rd_T42 t154 x16_4).f2)) ∧ w'.cell? ⟨(ad160.add ((x16_4).toNat * 4)).block, (ad160.add ((x16_4).toNat * 4)).off + 3, none⟩ = some (.slice A160_3 ((rd_T42 t154 x16_4).f3).length c160_3) ∧ w'.cell? (ad161.add ((x16_4).toNat * 4)) = some (.int .u64 ((rd_T42 x152001_1 x16_4).f0)) ∧ w'.cell? ⟨(ad161.add ((x16_4).toNat * 4)).block, (ad161.add ((x16_4).toNat * 4)).off + 1, none⟩ = some (.int .u64 ((rd_T42 x152001_1 x16_4).f1)) ∧ w'.cell? ⟨(ad161.add ((x16_4).toNat * 4)).block, (ad161.add ((x16_4).toNat * 4)).off + 2, none⟩ = some (.int .i64 ((rd_T42 x152001_1 x16_4).f2)) ∧ w'.cell? ⟨(ad161.add ((x16_4).toNat * 4)).block, (ad161.add ((x16_4).toNat * 4)).off + 3, none⟩ = some (.slice A161_3 ((rd_T42 x152001_1 x16_4).f3).length c161_3)) (ds := []) #[false, false, false, false, false, false, false, false, false, false, false, false, false, false, false, false, false, false, false, false, false, false, false, false, false, false, false, false] (by kernel_rfl) rfl rfl ⟨(blk_cell BK158.out 0).trans rfl, (blk_cell BK158.out 1).trans rfl, (blk_cell BK151.out 0).trans rfl, (blk_cell BK151.out 1).trans rfl, hx160_0, hx160_1, hx160_2, hx160_3, hx161_0, hx161_1, hx161_2, hx161_3, hx162_0, hx162_1, hx162_2, hx162_3, hx163_0, hx163_1, hx163_2, hx163_3⟩ (fun hHeld => ?_); refine with_tabW fascinelaw14_MetaStays.tab17 fascinelaw14_MetaStays.bits17 (fun HT_ HW_ => ?_)
                     generalize wr.drew = w49 at HO_152001 HO_159001 BK151 BK158 HB HL160_3 HL161_3 HL162_3 HL163_3 HR160_3 HR161_3 HR162_3 HR163_3 hx160_0 hx160_1 hx160_2 hx160_3 hx161_0 hx161_1 hx161_2 hx161_3 hx162_0 hx162_1 hx162_2 hx162_3 hx163_0 hx163_1 hx163_2 hx163_3 hHeld ⊢
                     refine pure_ (i := 0) (N := some 79) (v := ?_) (a' := ?_) #[true, false, false, false, false, false, false, false, false, false, false, false, false, false, false, false, false, false, false, false, false, false, false, false, false, false, false, false] rfl rfl (any_of HT_.out (by kernel_rfl)) (fun _ _ _ h => h) (Or.inl ⟨by rfl, ?_⟩) ?_ ?_
                     rotate_left
                     ·intro w'
                      go_simp
                      with_reducible rfl
                     rotate_left
                     ·simp only [Act.put, List.setIfInBounds_toArray, List.set_cons_zero, List.set_cons_succ, i64_w, i32_w]
                      rfl
                     refine pure_ (i := 2) (N := some 81) (v := ?_) (a' := ?_) #[true, false, true, false, false, false, false, false, false, false, false, false, false, false, false, false, false, false, false, false, false, false, false, false, false, false, false, false] rfl rfl (any_of HT_.out (by kernel_rfl)) (fun _ _ _ h => h) (Or.inl ⟨by rfl, ?_⟩) ?_ ?_
                     rotate_left
                     ·intro w'
                      go_simp
                      with_reducible rfl
                     rotate_left
                     ·simp only [Act.put, List.setIfInBounds_toArray, List.set_cons_zero, List.set_cons_succ, i64_w, i32_w]
                      rfl
                     refine pure_ (i := 6) (N := some 85) (v := ?_) (a' := ?_) #[true, false, true, false, false, false, true, false, false, false, false, false, false, false, false, false, false, false, false, false, false, false, false, false, false, false, false, false] rfl rfl (any_of HT_.out (by kernel_rfl)) (fun _ _ _ h => h) (Or.inl ⟨by rfl, ?_⟩) ?_ ?_
                     rotate_left
                     ·intro w'
                      go_simp
                      with_reducible rfl
                     rotate_left
                     ·simp only [Act.put, List.setIfInBounds_toArray, List.set_cons_zero, List.set_cons_succ, i64_w, i32_w]
                      rfl
                     refine pure_ (i := 8) (N := some 87) (v := ?_) (a' := ?_) #[true, false, true, false, false, false, true, false, true, false, false, false, false, false, false, false, false, false, false, false, false, false, false, false, false, false, false, false] rfl rfl (any_of HT_.out (by kernel_rfl)) (fun _ _ _ h => h) (Or.inl ⟨by rfl, ?_⟩) ?_ ?_
                     rotate_left
                     ·intro w'
                      go_simp
                      with_reducible rfl
                     rotate_left
                     ·simp only [Act.put, List.setIfInBounds_toArray, List.set_cons_zero, List.set_cons_succ, i64_w, i32_w]
                      rfl
                     refine take_ (i := 1) (N := some 80) (v := ?_) (a' := ?_) #[true, true, true, false, false, false, true, false, true, false, false, false, false, false, false, false, false, false, false, false, false, false, false, false, false, false, false, false] rfl rfl (take_ofW HT_.out HW_.out (by kernel_rfl)) (fun _ _ _ h => h) (Or.inl ⟨by rfl, ?_⟩) hHeld ?_ ?_
                     rotate_left
                     ·rintro w' ⟨s0, s1, s2, s3, s4, s5, s6, s7, s8, s9, s10, s11, s12, s13, s14, s15, s16, s17, s18, s19⟩
                      go_simp
                      with_reducible rfl
                     rotate_left
                     ·simp only [Act.put, List.setIfInBounds_toArray, List.set_cons_zero, List.set_cons_succ, i64_w, i32_w]
                      rfl
                     refine pure_ (i := 3) (N := some 82) (v := ?_) (a' := ?_) #[true, true, true, true, false, false, true, false, true, false, false, false, false, false, false, false, false, false, false, false, false, false, false, false, false, false, false, false] rfl rfl (any_of HT_.out (by kernel_rfl)) (fun _ _ _ h => h) (Or.inl ⟨by rfl, ?_⟩) ?_ ?_
                     rotate_left
                     ·intro w'
                      go_simp
                      with_reducible rfl
                     rotate_left
                     ·simp only [Act.put, List.setIfInBounds_toArray, List.set_cons_zero, List.set_cons_succ, i64_w, i32_w]
                      rfl
                     refine pure_ (i := 4) (N := some 83) (v := ?_) (a' := ?_) #[true, true, true, true, true, false, true, false, true, false, false, false, false, false, false, false, false, false, false, false, false, false, false, false, false, false, false, false] rfl rfl (any_of HT_.out (by kernel_rfl)) (fun _ _ _ h => h) (Or.inl ⟨by rfl, ?_⟩) ?_ ?_
                     rotate_left
                     ·intro w'
                      go_simp
                      with_reducible rfl
                     rotate_left
                     ·simp only [Act.put, List.setIfInBounds_toArray, List.set_cons_zero, List.set_cons_succ, i64_w, i32_w]
                      rfl
                     refine take_ (i := 5) (N := some 84) (v := ?_) (a' := ?_) #[true, true, true, true, true, true, true, false, true, false, false, false, false, false, false, false, false, false, false, false, false, false, false, false, false, false, false, false] rfl rfl (take_ofW HT_.out HW_.out (by kernel_rfl)) (fun _ _ _ h => h) (Or.inl ⟨by rfl, ?_⟩) hHeld ?_ ?_
                     rotate_left
                     ·rintro w' ⟨s0, s1, s2, s3, s4, s5, s6, s7, s8, s9, s10, s11, s12, s13, s14, s15, s16, s17, s18, s19⟩
                      go_simp
                      with_reducible rfl
                     rotate_left
                     ·simp only [Act.put, List.setIfInBounds_toArray, List.set_cons_zero, List.set_cons_succ, i64_w, i32_w]
                      rfl
                     refine take_ (i := 7) (N := some 86) (v := ?_) (a' := ?_) #[true, true, true, true, true, true, true, true, true, false, false, false, false, false, false, false, false, false, false, false, false, false, false, false, false, false, false, false] rfl rfl (take_ofW HT_.out HW_.out (by kernel_rfl)) (fun _ _ _ h => h) (Or.inl ⟨by rfl, ?_⟩) hHeld ?_ ?_
                     rotate_left
                     ·rintro w' ⟨s0, s1, s2, s3, s4, s5, s6, s7, s8, s9, s10, s11, s12, s13, s14, s15, s16, s17, s18, s19⟩
                      go_simp
                      with_reducible rfl
                     rotate_left
                     ·simp only [Act.put, List.setIfInBounds_toArray, List.set_cons_zero, List.set_cons_succ, i64_w, i32_w]
                      rfl
                     refine pure_ (i := 9) (N := some 88) (v := ?_) (a' := ?_) #[true, true, true, true, true, true, true, true, true, true, false, false, false, false, false, false, false, false, false, false, false, false, false, false, false, false, false, false] rfl rfl (any_of HT_.out (by kernel_rfl)) (fun _ _ _ h => h) (Or.inl ⟨by rfl, ?_⟩) ?_ ?_
                     rotate_left
                     ·intro w'
                      go_simp
                      with_reducible rfl
                     rotate_left
                     ·simp only [Act.put, List.setIfInBounds_toArray, List.set_cons_zero, List.set_cons_succ, i64_w, i32_w]
                      rfl
                     refine pure_ (i := 10) (N := some 89) (v := ?_) (a' := ?_) #[true, true, true, true, true, true, true, true, true, true, true, false, false, false, false, false, false, false, false, false, false, false, false, false, false, false, false, false] rfl rfl (any_of HT_.out (by kernel_rfl)) (fun _ _ _ h => h) (Or.inl ⟨by rfl, ?_⟩) ?_ ?_
                     rotate_left
                     ·intro w'
                      go_simp
                      with_reducible rfl
                     rotate_left
                     ·simp only [Act.put, List.setIfInBounds_toArray, List.set_cons_zero, List.set_cons_succ, i64_w, i32_w]
                      rfl
                     refine take_ (i := 11) (N := some 90) (v := ?_) (a' := ?_) #[true, true, true, true, true, true, true, true, true, true, true, true, false, false, false, false, false, false, false, false, false, false, false, false, false, false, false, false] rfl rfl (take_ofW HT_.out HW_.out (by kernel_rfl)) (fun _ _ _ h => h) (Or.inl ⟨by rfl, ?_⟩) hHeld ?_ ?_
                     rotate_left
                     ·rintro w' ⟨s0, s1, s2, s3, s4, s5, s6, s7, s8, s9, s10, s11, s12, s13, s14, s15, s16, s17, s18, s19⟩
                      go_simp
                      with_reducible rfl
                     rotate_left
                     ·simp only [Act.put, List.setIfInBounds_toArray, List.set_cons_zero, List.set_cons_succ, i64_w, i32_w]
                      rfl
                     refine pure_ (i := 12) (N := some 91) (v := ?_) (a' := ?_) #[true, true, true, true, true, true, true, true, true, true, true, true, true, false, false, false, false, false, false, false, false, false, false, false, false, false, false, false] rfl rfl (any_of HT_.out (by kernel_rfl)) (fun _ _ _ h => h) (Or.inl ⟨by rfl, ?_⟩) ?_ ?_
                     rotate_left
                     ·intro w'
                      go_simp
                      with_reducible rfl
                     rotate_left
                     ·simp only [Act.put, List.setIfInBounds_toArray, List.set_cons_zero, List.set_cons_succ, i64_w, i32_w]
                      rfl
                     refine pure_ (i := 13) (N := some 92) (v := ?_) (a' := ?_) #[true, true, true, true, true, true, true, true, true, true, true, true, true, true, false, false, false, false, false, false, false, false, false, false, false, false, false, false] rfl rfl (any_of HT_.out (by kernel_rfl)) (fun _ _ _ h => h) (Or.inl ⟨by rfl, ?_⟩) ?_ ?_
                     rotate_left
                     ·intro w'
                      go_simp
                      with_reducible rfl
                     rotate_left
                     ·simp only [Act.put, List.setIfInBounds_toArray, List.set_cons_zero, List.set_cons_succ, i64_w, i32_w]
                      rfl
                     refine pure_ (i := 14) (N := some 93) (v := ?_) (a' := ?_) #[true, true, true, true, true, true, true, true, true, true, true, true, true, true, true, false, false, false, false, false, false, false, false, false, false, false, false, false] rfl rfl (any_of HT_.out (by kernel_rfl)) (fun _ _ _ h => h) (Or.inl ⟨by rfl, ?_⟩) ?_ ?_
                     rotate_left
                     ·intro w'
                      go_simp
                      with_reducible rfl
                     rotate_left
                     ·simp only [Act.put, List.setIfInBounds_toArray, List.set_cons_zero, List.set_cons_succ, i64_w, i32_w]
                      rfl
                     refine pure_ (i := 16) (N := some 95) (v := ?_) (a' := ?_) #[true, true, true, true, true, true, true, true, true, true, true, true, true, true, true, false, true, false, false, false, false, false, false, false, false, false, false, false] rfl rfl (any_of HT_.out (by kernel_rfl)) (fun _ _ _ h => h) (Or.inl ⟨by rfl, ?_⟩) ?_ ?_
                     rotate_left
                     ·intro w'
                      go_simp
                      with_reducible rfl
                     rotate_left
                     ·simp only [Act.put, List.setIfInBounds_toArray, List.set_cons_zero, List.set_cons_succ, i64_w, i32_w]
                      rfl
                     refine pure_ (i := 20) (N := some 99) (v := ?_) (a' := ?_) #[true, true, true, true, true, true, true, true, true, true, true, true, true, true, true, false, true, false, false, false, true, false, false, false, false, false, false, false] rfl rfl (any_of HT_.out (by kernel_rfl)) (fun _ _ _ h => h) (Or.inl ⟨by rfl, ?_⟩) ?_ ?_
                     rotate_left
                     ·intro w'
                      go_simp
                      with_reducible rfl
                     rotate_left
                     ·simp only [Act.put, List.setIfInBounds_toArray, List.set_cons_zero, List.set_cons_succ, i64_w, i32_w]
                      rfl
                     refine pure_ (i := 22) (N := some 101) (v := ?_) (a' := ?_) #[true, true, true, true, true, true, true, true, true, true, true, true, true, true, true, false, true, false, false, false, true, false, true, false, false, false, false, false] rfl rfl (any_of HT_.out (by kernel_rfl)) (fun _ _ _ h => h) (Or.inl ⟨by rfl, ?_⟩) ?_ ?_
                     rotate_left
                     ·intro w'
                      go_simp
                      with_reducible rfl
                     rotate_left
                     ·simp only [Act.put, List.setIfInBounds_toArray, List.set_cons_zero, List.set_cons_succ, i64_w, i32_w]
                      rfl
                     refine take_ (i := 15) (N := some 94) (v := ?_) (a' := ?_) #[true, true, true, true, true, true, true, true, true, true, true, true, true, true, true, true, true, false, false, false, true, false, true, false, false, false, false, false] rfl rfl (take_ofW HT_.out HW_.out (by kernel_rfl)) (fun _ _ _ h => h) (Or.inl ⟨by rfl, ?_⟩) hHeld ?_ ?_
                     rotate_left
                     ·rintro w' ⟨s0, s1, s2, s3, s4, s5, s6, s7, s8, s9, s10, s11, s12, s13, s14, s15, s16, s17, s18, s19⟩
                      go_simp
                      with_reducible rfl
                     rotate_left
                     ·simp only [Act.put, List.setIfInBounds_toArray, List.set_cons_zero, List.set_cons_succ, i64_w, i32_w]
                      rfl
                     refine pure_ (i := 17) (N := some 96) (v := ?_) (a' := ?_) #[true, true, true, true, true, true, true, true, true, true, true, true, true, true, true, true, true, true, false, false, true, false, true, false, false, false, false, false] rfl rfl (any_of HT_.out (by kernel_rfl)) (fun _ _ _ h => h) (Or.inl ⟨by rfl, ?_⟩) ?_ ?_
                     rotate_left
                     ·intro w'
                      go_simp
                      with_reducible rfl
                     rotate_left
                     ·simp only [Act.put, List.setIfInBounds_toArray, List.set_cons_zero, List.set_cons_succ, i64_w, i32_w]
                      rfl
                     refine pure_ (i := 18) (N := some 97) (v := ?_) (a' := ?_) #[true, true, true, true, true, true, true, true, true, true, true, true, true, true, true, true, true, true, true, false, true, false, true, false, false, false, false, false] rfl rfl (any_of HT_.out (by kernel_rfl)) (fun _ _ _ h => h) (Or.inl ⟨by rfl, ?_⟩) ?_ ?_
                     rotate_left
                     ·intro w'
                      go_simp
                      with_reducible rfl
                     rotate_left
                     ·simp only [Act.put, List.setIfInBounds_toArray, List.set_cons_zero, List.set_cons_succ, i64_w, i32_w]
                      rfl
                     refine take_ (i := 19) (N := some 98) (v := ?_) (a' := ?_) #[true, true, true, true, true, true, true, true, true, true, true, true, true, true, true, true, true, true, true, true, true, false, true, false, false, false, false, false] rfl rfl (take_ofW HT_.out HW_.out (by kernel_rfl)) (fun _ _ _ h => h) (Or.inl ⟨by rfl, ?_⟩) hHeld ?_ ?_
                     rotate_left
                     ·rintro w' ⟨s0, s1, s2, s3, s4, s5, s6, s7, s8, s9, s10, s11, s12, s13, s14, s15, s16, s17, s18, s19⟩
                      go_simp
                      with_reducible rfl
                     rotate_left
                     ·simp only [Act.put, List.setIfInBounds_toArray, List.set_cons_zero, List.set_cons_succ, i64_w, i32_w]
                      rfl
                     refine take_ (i := 21) (N := some 100) (v := ?_) (a' := ?_) #[true, true, true, true, true, true, true, true, true, true, true, true, true, true, true, true, true, true, true, true, true, true, true, false, false, false, false, false] rfl rfl (take_ofW HT_.out HW_.out (by kernel_rfl)) (fun _ _ _ h => h) (Or.inl ⟨by rfl, ?_⟩) hHeld ?_ ?_
                     rotate_left
                     ·rintro w' ⟨s0, s1, s2, s3, s4, s5, s6, s7, s8, s9, s10, s11, s12, s13, s14, s15, s16, s17, s18, s19⟩
                      go_simp
                      with_reducible rfl
                     rotate_left
                     ·simp only [Act.put, List.setIfInBounds_toArray, List.set_cons_zero, List.set_cons_succ, i64_w, i32_w]
                      rfl
                     refine pure_ (i := 23) (N := some 102) (v := ?_) (a' := ?_) #[true, true, true, true, true, true, true, true, true, true, true, true, true, true, true, true, true, true, true, true, true, true, true, true, false, false, false, false] rfl rfl (any_of HT_.out (by kernel_rfl)) (fun _ _ _ h => h) (Or.inl ⟨by rfl, ?_⟩) ?_ ?_
                     rotate_left
                     ·intro w'
                      go_simp
                      with_reducible rfl
                     rotate_left
                     ·simp only [Act.put, List.setIfInBounds_toArray, List.set_cons_zero, List.set_cons_succ, i64_w, i32_w]
                      rfl
                     refine pure_ (i := 24) (N := some 103) (v := ?_) (a' := ?_) #[true, true, true, true, true, true, true, true, true, true, true, true, true, true, true, true, true, true, true, true, true, true, true, true, true, false, false, false] rfl rfl (any_of HT_.out (by kernel_rfl)) (fun _ _ _ h => h) (Or.inl ⟨by rfl, ?_⟩) ?_ ?_
                     rotate_left
                     ·intro w'
                      go_simp
                      with_reducible rfl
                     rotate_left
                     ·simp only [Act.put, List.setIfInBounds_toArray, List.set_cons_zero, List.set_cons_succ, i64_w, i32_w]
                      rfl
                     refine take_ (i := 25) (N := some 104) (v := ?_) (a' := ?_) #[true, true, true, true, true, true, true, true, true, true, true, true, true, true, true, true, true, true, true, true, true, true, true, true, true, true, false, false] rfl rfl (take_ofW HT_.out HW_.out (by kernel_rfl)) (fun _ _ _ h => h) (Or.inl ⟨by rfl, ?_⟩) hHeld ?_ ?_
                     rotate_left
                     ·rintro w' ⟨s0, s1, s2, s3, s4, s5, s6, s7, s8, s9, s10, s11, s12, s13, s14, s15, s16, s17, s18, s19⟩
                      go_simp
                      with_reducible rfl
                     rotate_left
                     ·simp only [Act.put, List.setIfInBounds_toArray, List.set_cons_zero, List.set_cons_succ, i64_w, i32_w]
                      rfl
                     refine pure_ (i := 26) (N := some 105) (v := ?_) (a' := ?_) #[true, true, true, true, true, true, true, true, true, true, true, true, true, true, true, true, true, true, true, true, true, true, true, true, true, true, true, false] rfl rfl (any_of HT_.out (by kernel_rfl)) (fun _ _ _ h => h) (Or.inl ⟨by rfl, ?_⟩) ?_ ?_
                     rotate_left
                     ·intro w'
                      go_simp
                      with_reducible rfl
                     rotate_left
                     ·simp only [Act.put, List.setIfInBounds_toArray, List.set_cons_zero, List.set_cons_succ, i64_w, i32_w]
                      rfl
                     refine pure_ (i := 27) (N := some 106) (v := ?_) (a' := ?_) #[true, true, true, true, true, true, true, true, true, true, true, true, true, true, true, true, true, true, true, true, true, true, true, true, true, true, true, true] rfl rfl (any_of HT_.out (by kernel_rfl)) (fun _ _ _ h => h) (Or.inl ⟨by rfl, ?_⟩) ?_ ?_
                     rotate_left
                     ·intro w'
                      go_simp
                      with_reducible rfl
                     rotate_left
                     ·simp only [Act.put, List.setIfInBounds_toArray, List.set_cons_zero, List.set_cons_succ, i64_w, i32_w]
                      rfl
                     refine done_ (done_of HT_.out (by kernel_rfl)) ?_
                     try go_wp2
                     go_meet
                     case rel => exact ⟨_, (decide (((rd_T42 t154 x16_4).f1) < ((rd_T42 x152001_1 x16_4).f1))), (by first | rfl | (simp; done) | (simp [*]; done)), H', ⟨by have := HK1.out; have := HJ14.out; have := HJ20.out; have := HK4.out; first | omega | exact Nat.le_refl _⟩, ⟨by (with_reducible repeat (first | apply Kd.S_alloc | apply Kd.S_drewN | apply Kd.S_drew)); exact HO_152001.out⟩, ⟨by (with_reducible repeat (first | apply Kd.S_alloc | apply Kd.S_drewN | apply Kd.S_drew)); exact HO_159001.out⟩, ⟨by (with_reducible repeat (first | refine blk_drewN ?_ _ | refine blk_drew ?_ | refine blk_alloc ?_ _)); exact BK151.out⟩, ⟨by (with_reducible repeat (first | refine blk_drewN ?_ _ | refine blk_drew ?_ | refine blk_alloc ?_ _)); exact BK158.out⟩, ⟨by repeat (first | (with_reducible first | exact HB.out | apply below_alloc | apply pw_below_drewN | apply below_drew1 | refine below_set ?_ GE151.out | refine below_set ?_ GE158.out) | exact HB.out)⟩⟩
                   ·rw [if_neg c46] at H
                    exact absurd H (by simp)
                  ·rw [if_neg c45] at H
                   exact absurd H (by simp)
                 case rest =>
                  clear HC42
                  try clear c1
                  try clear p1
                  try clear q1
                  try clear hx1
                  try clear p2
                  try clear c4
                  try clear c16
                  try clear p16
                  try clear q16
                  try clear hx16
                  try clear c43
                  try clear c45
                  try clear c45b0
                  try clear c46
                  try clear c46b0
                  try clear c47
                  try clear c47b0
                  try clear hcz44_0
                  try clear hcz44_1
                  try clear hfz44_0
                  try clear hfz44_1
                  try clear hx160_0
                  try clear hx160_1
                  try clear hx160_2
                  try clear hx160_3
                  try clear hx161_0
                  try clear hx161_1
                  try clear hx161_2
                  try clear hx161_3
                  try clear hx162_0
                  try clear hx162_1
                  try clear hx162_2
                  try clear hx162_3
                  try clear hx163_0
                  try clear hx163_1
                  try clear hx163_2
                  try clear hx163_3
                  try clear p160
                  try clear p161
                  try clear p162
                  try clear p163
                  try clear q160
                  try clear q161
                  try clear q162
                  try clear q163
                  obtain ⟨kq, x106_41, rfl, HA, HJ41, HO_152001, HO_159001, BK151, BK158, HB⟩ := hcut
                  cases kq with
                  | zero => exact absurd HA.out (by simp [fascinelaw14_MetaStays.j4])
                  | succ kj41 =>
                   have H := HA.out
                   clear HA
                   simp only [fascinelaw14_MetaStays.j4] at H
                   by_cases c50 : x106_41 = true
                   ·subst c50
                    have H1 : (some false) = some r := by rw [if_pos rfl] at H; exact H
                    clear H
                    have H := H1
                    clear H1
                    exact absurd (HR_.out.symm.trans (Option.some.inj H).symm) (by decide)
                   ·replace c50 := Bool.eq_false_iff.mpr c50
                    subst c50
                    have H1 : (if 0 ≤ x16_4 then (if x16_4 < (t154.length : Int) then (if x16_4 < (x152001_1.length : Int) then (if ((rd_T42 t154 x16_4).f0) = ((rd_T42 x152001_1 x16_4).f0) then (fascinelaw14_MetaStays.l1 kj41 l3 x12_1 t157 x15_4 (wrap64 (x16_4 + 1)) x152000_1 x152001_1 t153 t154) else (fascinelaw14_MetaStays.l1 kj41 l3 x12_1 t157 (wrap64 (x15_4 + 1)) (wrap64 (x16_4 + 1)) x152000_1 x152001_1 t153 t154)) else (none)) else (none)) else (none)) = some r := by rw [if_neg (show ¬ (false = true) by decide)] at H; exact H
                    clear H
                    have H := H1
                    clear H1
                    by_cases c51 : 0 ≤ x16_4
                    ·rw [if_pos c51] at H
                     have c51b0 : decide (0 ≤ x16_4) = true := decide_eq_true c51
                     clear c51
                     by_cases c52 : x16_4 < (t154.length : Int)
                     ·rw [if_pos c52] at H
                      have c52b0 : decide (x16_4 < (t154.length : Int)) = true := decide_eq_true c52
                      clear c52
                      by_cases c53 : x16_4 < (x152001_1.length : Int)
                      ·rw [if_pos c53] at H
                       have c53b0 : decide (x16_4 < (x152001_1.length : Int)) = true := decide_eq_true c53
                       clear c53
                       by_cases c54 : ((rd_T42 t154 x16_4).f0) = ((rd_T42 x152001_1 x16_4).f0)
                       ·rw [if_pos c54] at H
                        have c54b0 : (((rd_T42 t154 x16_4).f0) == ((rd_T42 x152001_1 x16_4).f0)) = true := beq_iff_eq.mpr c54
                        have c54b1 : (((rd_T42 t154 x16_4).f0) != ((rd_T42 x152001_1 x16_4).f0)) = false := bne_eq_false_iff_eq.mpr c54
                        clear c54
                        have H' := Aside0.mk H
                        clear H
                        try go_wp2
                        (try (rw [drewN_self wc]; generalize hq_ : World.drewN wc _ = wc; have n0_ : Aside0 (Kd.S k42 42 wc w.heap.size (fun k_ => some k_ ≠ (.slice Ao28 t154.length co28 : Value).ownBlock) (.slice Ao22 x152001_1.length co22) x152001_1) := ⟨by rw [← hq_]; exact (by (with_reducible repeat (first | apply Kd.S_alloc | apply Kd.S_drewN | apply Kd.S_drew)); exact HO_152001.out)⟩; have n1_ : Aside0 (Kd.S k42 42 wc w.heap.size (fun k_ => some k_ ≠ (.slice Ao22 x152001_1.length co22 : Value).ownBlock) (.slice Ao28 t154.length co28) t154) := ⟨by rw [← hq_]; exact (by (with_reducible repeat (first | apply Kd.S_alloc | apply Kd.S_drewN | apply Kd.S_drew)); exact HO_159001.out)⟩; have n2_ : Aside0 (wc.heap[gb151]? = some (.cells #[.int .i64 x152000_1, .slice Ao22 x152001_1.length co22] 24 (0, 0))) := ⟨by rw [← hq_]; exact (by (with_reducible repeat (first | refine blk_drewN ?_ _ | refine blk_drew ?_ | refine blk_alloc ?_ _)); exact BK151.out)⟩; have n3_ : Aside0 (wc.heap[gb158]? = some (.cells #[.int .i64 t153, .slice Ao28 t154.length co28] 24 (0, 0))) := ⟨by rw [← hq_]; exact (by (with_reducible repeat (first | refine blk_drewN ?_ _ | refine blk_drew ?_ | refine blk_alloc ?_ _)); exact BK158.out)⟩; have n4_ : Aside0 (Below w.heap.size w wc) := ⟨by rw [← hq_]; exact (by repeat (first | (with_reducible first | exact HB.out | apply below_alloc | apply pw_below_drewN | apply below_drew1 | refine below_set ?_ GE151.out | refine below_set ?_ GE158.out) | exact HB.out))⟩; clear HO_152001 HO_159001 BK151 BK158 HB hq_; have HO_152001 := n0_; have HO_159001 := n1_; have BK151 := n2_; have BK158 := n3_; have HB := n4_; clear n0_ n1_ n2_ n3_ n4_))
                        have n0_ := Aside0.mk (Kd.S_drew HO_152001.out)
                        have n1_ := Aside0.mk (Kd.S_drew HO_159001.out)
                        have n2_ := Aside0.mk (blk_drew BK151.out)
                        have n3_ := Aside0.mk (blk_drew BK158.out)
                        have n4_ := Aside0.mk (below_drew1 HB.out)
                        clear HO_152001
                        clear HO_159001
                        clear BK151
                        clear BK158
                        clear HB
                        have HO_152001 := n0_
                        have HO_159001 := n1_
                        have BK151 := n2_
                        have BK158 := n3_
                        have HB := n4_
                        clear n0_ n1_ n2_ n3_ n4_
                        have p164 : 0 ≤ (x16_4 : Int) := of_decide_eq_true (by first | (with_reducible assumption) | assumption)
                        have q164 : x16_4 < (t154.length : Int) := of_decide_eq_true (by first | (with_reducible assumption) | assumption)
                        obtain ⟨ad164, A164_3, c164_3, e164, hx164_0, hx164_1, hx164_2, hx164_3, hl164_3, hi164_3⟩ := at_T42 (Kd.S_reads' HO_159001.out).2.2 x16_4 p164 q164
                        cases e164
                        obtain ⟨ce164, hce164, hMe164, hcc164⟩ := Kd.S_get HO_159001.out z42 x16_4 p164 (by first | exact q164 | exact of_decide_eq_true (by first | (with_reducible assumption) | assumption) | (have e_ := (Kd.S_reads' HO_159001.out).1; omega))
                        obtain ⟨ve164_3, rfl, ge164_3⟩ := k42_openM hMe164
                        have hv164_3 := hcc164 3 _ rfl
                        rw [add_field _ _ 3 (by omega)] at hv164_3
                        replace hv164_3 := Option.some.inj (hv164_3.symm.trans hx164_3)
                        rw [hv164_3] at ge164_3
                        have HL164_3 := Aside0.mk (show Kd.R (Kd.int .i64) 3 _ _ _ _ ((rd_T42 t154 x16_4).f3) from ge164_3)
                        clear hv164_3 ge164_3
                        clear hcc164 hce164
                        have HR164_3 := Aside0.mk hi164_3
                        have HC164_3 := Aside0.mk hl164_3
                        clear hi164_3 hl164_3
                        replace p164 := eq_true p164
                        replace q164 := eq_true q164
                        have p165 : 0 ≤ (x16_4 : Int) := of_decide_eq_true (by first | (with_reducible assumption) | assumption)
                        have q165 : x16_4 < (x152001_1.length : Int) := of_decide_eq_true (by first | (with_reducible assumption) | assumption)
                        obtain ⟨ad165, A165_3, c165_3, e165, hx165_0, hx165_1, hx165_2, hx165_3, hl165_3, hi165_3⟩ := at_T42 (Kd.S_reads' HO_152001.out).2.2 x16_4 p165 q165
                        cases e165
                        obtain ⟨ce165, hce165, hMe165, hcc165⟩ := Kd.S_get HO_152001.out z42 x16_4 p165 (by first | exact q165 | exact of_decide_eq_true (by first | (with_reducible assumption) | assumption) | (have e_ := (Kd.S_reads' HO_152001.out).1; omega))
                        obtain ⟨ve165_3, rfl, ge165_3⟩ := k42_openM hMe165
                        have hv165_3 := hcc165 3 _ rfl
                        rw [add_field _ _ 3 (by omega)] at hv165_3
                        replace hv165_3 := Option.some.inj (hv165_3.symm.trans hx165_3)
                        rw [hv165_3] at ge165_3
                        have HL165_3 := Aside0.mk (show Kd.R (Kd.int .i64) 3 _ _ _ _ ((rd_T42 x152001_1 x16_4).f3) from ge165_3)
                        clear hv165_3 ge165_3
                        clear hcc165 hce165
                        have HR165_3 := Aside0.mk hi165_3
                        have HC165_3 := Aside0.mk hl165_3
                        clear hi165_3 hl165_3
                        replace p165 := eq_true p165
                        replace q165 := eq_true q165
                        refine start_ (n := 13) (S := fun w' => w'.cell? ⟨gb158, 0, none⟩ = some (.int .i64 t153) ∧ w'.cell? ⟨gb158, 1, none⟩ = some (.slice (some ad164) t154.length co28) ∧ w'.cell? ⟨gb151, 0, none⟩ = some (.int .i64 x152000_1) ∧ w'.cell? ⟨gb151, 1, none⟩ = some (.slice (some ad165) x152001_1.length co22) ∧ w'.cell? (ad164.add ((x16_4).toNat * 4)) = some (.int .u64 ((rd_T42 t154 x16_4).f0)) ∧ w'.cell? ⟨(ad164.add ((x16_4).toNat * 4)).block, (ad164.add ((x16_4).toNat * 4)).off + 1, none⟩ = some (.int .u64 ((rd_T42 t154 x16_4).f1)) ∧ w'.cell? ⟨(ad164.add ((x16_4).toNat * 4)).block, (ad164.add ((x16_4).toNat * 4)).off + 2, none⟩ = some (.int .i64 ((rd_T42 t154 x16_4).f2)) ∧ w'.cell? ⟨(ad164.add ((x16_4).toNat * 4)).block, (ad164.add ((x16_4).toNat * 4)).off + 3, none⟩ = some (.slice A164_3 ((rd_T42 t154 x16_4).f3).length c164_3) ∧ w'.cell? (ad165.add ((x16_4).toNat * 4)) = some (.int .u64 ((rd_T42 x152001_1 x16_4).f0)) ∧ w'.cell? ⟨(ad165.add ((x16_4).toNat * 4)).block, (ad165.add ((x16_4).toNat * 4)).off + 1, none⟩ = some (.int .u64 ((rd_T42 x152001_1 x16_4).f1)) ∧ w'.cell? ⟨(ad165.add ((x16_4).toNat * 4)).block, (ad165.add ((x16_4).toNat * 4)).off + 2, none⟩ = some (.int .i64 ((rd_T42 x152001_1 x16_4).f2)) ∧ w'.cell? ⟨(ad165.add ((x16_4).toNat * 4)).block, (ad165.add ((x16_4).toNat * 4)).off + 3, none⟩ = some (.slice A165_3 ((rd_T42 x152001_1 x16_4).f3).length c165_3)) (ds := []) #[false, false, false, false, false, false, false, false, false, false, false, false, false] (by kernel_rfl) rfl rfl ⟨(blk_cell BK158.out 0).trans rfl, (blk_cell BK158.out 1).trans rfl, (blk_cell BK151.out 0).trans rfl, (blk_cell BK151.out 1).trans rfl, hx164_0, hx164_1, hx164_2, hx164_3, hx165_0, hx165_1, hx165_2, hx165_3⟩ (fun hHeld => ?_); refine with_tabW fascinelaw14_MetaStays.tab19 fascinelaw14_MetaStays.bits19 (fun HT_ HW_ => ?_)
                        generalize wc.drew = w55 at HO_152001 HO_159001 BK151 BK158 HB HL164_3 HL165_3 HR164_3 HR165_3 hx164_0 hx164_1 hx164_2 hx164_3 hx165_0 hx165_1 hx165_2 hx165_3 hHeld ⊢
                        refine pure_ (i := 0) (N := some 107) (v := ?_) (a' := ?_) #[true, false, false, false, false, false, false, false, false, false, false, false, false] rfl rfl (any_of HT_.out (by kernel_rfl)) (fun _ _ _ h => h) (Or.inl ⟨by rfl, ?_⟩) ?_ ?_
                        rotate_left
                        ·intro w'
                         go_simp
                         with_reducible rfl
                        rotate_left
                        ·simp only [Act.put, List.setIfInBounds_toArray, List.set_cons_zero, List.set_cons_succ, i64_w, i32_w]
                         rfl
                        refine pure_ (i := 2) (N := some 109) (v := ?_) (a' := ?_) #[true, false, true, false, false, false, false, false, false, false, false, false, false] rfl rfl (any_of HT_.out (by kernel_rfl)) (fun _ _ _ h => h) (Or.inl ⟨by rfl, ?_⟩) ?_ ?_
                        rotate_left
                        ·intro w'
                         go_simp
                         with_reducible rfl
                        rotate_left
                        ·simp only [Act.put, List.setIfInBounds_toArray, List.set_cons_zero, List.set_cons_succ, i64_w, i32_w]
                         rfl
                        refine pure_ (i := 6) (N := some 113) (v := ?_) (a' := ?_) #[true, false, true, false, false, false, true, false, false, false, false, false, false] rfl rfl (any_of HT_.out (by kernel_rfl)) (fun _ _ _ h => h) (Or.inl ⟨by rfl, ?_⟩) ?_ ?_
                        rotate_left
                        ·intro w'
                         go_simp
                         with_reducible rfl
                        rotate_left
                        ·simp only [Act.put, List.setIfInBounds_toArray, List.set_cons_zero, List.set_cons_succ, i64_w, i32_w]
                         rfl
                        refine pure_ (i := 8) (N := some 115) (v := ?_) (a' := ?_) #[true, false, true, false, false, false, true, false, true, false, false, false, false] rfl rfl (any_of HT_.out (by kernel_rfl)) (fun _ _ _ h => h) (Or.inl ⟨by rfl, ?_⟩) ?_ ?_
                        rotate_left
                        ·intro w'
                         go_simp
                         with_reducible rfl
                        rotate_left
                        ·simp only [Act.put, List.setIfInBounds_toArray, List.set_cons_zero, List.set_cons_succ, i64_w, i32_w]
                         rfl
                        refine take_ (i := 1) (N := some 108) (v := ?_) (a' := ?_) #[true, true, true, false, false, false, true, false, true, false, false, false, false] rfl rfl (take_ofW HT_.out HW_.out (by kernel_rfl)) (fun _ _ _ h => h) (Or.inl ⟨by rfl, ?_⟩) hHeld ?_ ?_
                        rotate_left
                        ·rintro w' ⟨s0, s1, s2, s3, s4, s5, s6, s7, s8, s9, s10, s11⟩
                         go_simp
                         with_reducible rfl
                        rotate_left
                        ·simp only [Act.put, List.setIfInBounds_toArray, List.set_cons_zero, List.set_cons_succ, i64_w, i32_w]
                         rfl
                        refine pure_ (i := 3) (N := some 110) (v := ?_) (a' := ?_) #[true, true, true, true, false, false, true, false, true, false, false, false, false] rfl rfl (any_of HT_.out (by kernel_rfl)) (fun _ _ _ h => h) (Or.inl ⟨by rfl, ?_⟩) ?_ ?_
                        rotate_left
                        ·intro w'
                         go_simp
                         with_reducible rfl
                        rotate_left
                        ·simp only [Act.put, List.setIfInBounds_toArray, List.set_cons_zero, List.set_cons_succ, i64_w, i32_w]
                         rfl
                        refine pure_ (i := 4) (N := some 111) (v := ?_) (a' := ?_) #[true, true, true, true, true, false, true, false, true, false, false, false, false] rfl rfl (any_of HT_.out (by kernel_rfl)) (fun _ _ _ h => h) (Or.inl ⟨by rfl, ?_⟩) ?_ ?_
                        rotate_left
                        ·intro w'
                         go_simp
                         with_reducible rfl
                        rotate_left
                        ·simp only [Act.put, List.setIfInBounds_toArray, List.set_cons_zero, List.set_cons_succ, i64_w, i32_w]
                         rfl
                        refine take_ (i := 5) (N := some 112) (v := ?_) (a' := ?_) #[true, true, true, true, true, true, true, false, true, false, false, false, false] rfl rfl (take_ofW HT_.out HW_.out (by kernel_rfl)) (fun _ _ _ h => h) (Or.inl ⟨by rfl, ?_⟩) hHeld ?_ ?_
                        rotate_left
                        ·rintro w' ⟨s0, s1, s2, s3, s4, s5, s6, s7, s8, s9, s10, s11⟩
                         go_simp
                         with_reducible rfl
                        rotate_left
                        ·simp only [Act.put, List.setIfInBounds_toArray, List.set_cons_zero, List.set_cons_succ, i64_w, i32_w]
                         rfl
                        refine take_ (i := 7) (N := some 114) (v := ?_) (a' := ?_) #[true, true, true, true, true, true, true, true, true, false, false, false, false] rfl rfl (take_ofW HT_.out HW_.out (by kernel_rfl)) (fun _ _ _ h => h) (Or.inl ⟨by rfl, ?_⟩) hHeld ?_ ?_
                        rotate_left
                        ·rintro w' ⟨s0, s1, s2, s3, s4, s5, s6, s7, s8, s9, s10, s11⟩
                         go_simp
                         with_reducible rfl
                        rotate_left
                        ·simp only [Act.put, List.setIfInBounds_toArray, List.set_cons_zero, List.set_cons_succ, i64_w, i32_w]
                         rfl
                        refine pure_ (i := 9) (N := some 116) (v := ?_) (a' := ?_) #[true, true, true, true, true, true, true, true, true, true, false, false, false] rfl rfl (any_of HT_.out (by kernel_rfl)) (fun _ _ _ h => h) (Or.inl ⟨by rfl, ?_⟩) ?_ ?_
                        rotate_left
                        ·intro w'
                         go_simp
                         with_reducible rfl
                        rotate_left
                        ·simp only [Act.put, List.setIfInBounds_toArray, List.set_cons_zero, List.set_cons_succ, i64_w, i32_w]
                         rfl
                        refine pure_ (i := 10) (N := some 117) (v := ?_) (a' := ?_) #[true, true, true, true, true, true, true, true, true, true, true, false, false] rfl rfl (any_of HT_.out (by kernel_rfl)) (fun _ _ _ h => h) (Or.inl ⟨by rfl, ?_⟩) ?_ ?_
                        rotate_left
                        ·intro w'
                         go_simp
                         with_reducible rfl
                        rotate_left
                        ·simp only [Act.put, List.setIfInBounds_toArray, List.set_cons_zero, List.set_cons_succ, i64_w, i32_w]
                         rfl
                        refine take_ (i := 11) (N := some 118) (v := ?_) (a' := ?_) #[true, true, true, true, true, true, true, true, true, true, true, true, false] rfl rfl (take_ofW HT_.out HW_.out (by kernel_rfl)) (fun _ _ _ h => h) (Or.inl ⟨by rfl, ?_⟩) hHeld ?_ ?_
                        rotate_left
                        ·rintro w' ⟨s0, s1, s2, s3, s4, s5, s6, s7, s8, s9, s10, s11⟩
                         go_simp
                         with_reducible rfl
                        rotate_left
                        ·simp only [Act.put, List.setIfInBounds_toArray, List.set_cons_zero, List.set_cons_succ, i64_w, i32_w]
                         rfl
                        refine pure_ (i := 12) (N := some 119) (v := ?_) (a' := ?_) #[true, true, true, true, true, true, true, true, true, true, true, true, true] rfl rfl (any_of HT_.out (by kernel_rfl)) (fun _ _ _ h => h) (Or.inl ⟨by rfl, ?_⟩) ?_ ?_
                        rotate_left
                        ·intro w'
                         go_simp
                         with_reducible rfl
                        rotate_left
                        ·simp only [Act.put, List.setIfInBounds_toArray, List.set_cons_zero, List.set_cons_succ, i64_w, i32_w]
                         rfl
                        refine done_ (done_of HT_.out (by kernel_rfl)) ?_
                        try go_wp2
                        go_roundg kj41
                        case measure => have := HK1.out; have := HJ14.out; have := HJ20.out; have := HK4.out; have := HJ41.out; omega
                        case rel => exact ⟨(x15_4), (wrap64 (x16_4 + 1)), (by first | rfl | (simp; done) | (simp [*]; done)), (by first | rfl | (simp; done) | (simp [*]; done)), H', ⟨by have := HK1.out; have := HJ14.out; have := HJ20.out; have := HK4.out; have := HJ41.out; omega⟩, ⟨by (with_reducible repeat (first | apply Kd.S_alloc | apply Kd.S_drewN | apply Kd.S_drew)); exact HO_152001.out⟩, ⟨by (with_reducible repeat (first | apply Kd.S_alloc | apply Kd.S_drewN | apply Kd.S_drew)); exact HO_159001.out⟩, ⟨by (with_reducible repeat (first | refine blk_drewN ?_ _ | refine blk_drew ?_ | refine blk_alloc ?_ _)); exact BK151.out⟩, ⟨by (with_reducible repeat (first | refine blk_drewN ?_ _ | refine blk_drew ?_ | refine blk_alloc ?_ _)); exact BK158.out⟩, ⟨by repeat (first | (with_reducible first | exact HB.out | apply below_alloc | apply pw_below_drewN | apply below_drew1 | refine below_set ?_ GE151.out | refine below_set ?_ GE158.out) | exact HB.out)⟩⟩
                       ·rw [if_neg c54] at H
                        have c54b0 : (((rd_T42 t154 x16_4).f0) == ((rd_T42 x152001_1 x16_4).f0)) = false := beq_eq_false_iff_ne.mpr c54
                        have c54b1 : (((rd_T42 t154 x16_4).f0) != ((rd_T42 x152001_1 x16_4).f0)) = true := bne_iff_ne.mpr c54
                        have H' := Aside0.mk H
                        clear H
                        try go_wp2
                        (try (rw [drewN_self wc]; generalize hq_ : World.drewN wc _ = wc; have n0_ : Aside0 (Kd.S k42 42 wc w.heap.size (fun k_ => some k_ ≠ (.slice Ao28 t154.length co28 : Value).ownBlock) (.slice Ao22 x152001_1.length co22) x152001_1) := ⟨by rw [← hq_]; exact (by (with_reducible repeat (first | apply Kd.S_alloc | apply Kd.S_drewN | apply Kd.S_drew)); exact HO_152001.out)⟩; have n1_ : Aside0 (Kd.S k42 42 wc w.heap.size (fun k_ => some k_ ≠ (.slice Ao22 x152001_1.length co22 : Value).ownBlock) (.slice Ao28 t154.length co28) t154) := ⟨by rw [← hq_]; exact (by (with_reducible repeat (first | apply Kd.S_alloc | apply Kd.S_drewN | apply Kd.S_drew)); exact HO_159001.out)⟩; have n2_ : Aside0 (wc.heap[gb151]? = some (.cells #[.int .i64 x152000_1, .slice Ao22 x152001_1.length co22] 24 (0, 0))) := ⟨by rw [← hq_]; exact (by (with_reducible repeat (first | refine blk_drewN ?_ _ | refine blk_drew ?_ | refine blk_alloc ?_ _)); exact BK151.out)⟩; have n3_ : Aside0 (wc.heap[gb158]? = some (.cells #[.int .i64 t153, .slice Ao28 t154.length co28] 24 (0, 0))) := ⟨by rw [← hq_]; exact (by (with_reducible repeat (first | refine blk_drewN ?_ _ | refine blk_drew ?_ | refine blk_alloc ?_ _)); exact BK158.out)⟩; have n4_ : Aside0 (Below w.heap.size w wc) := ⟨by rw [← hq_]; exact (by repeat (first | (with_reducible first | exact HB.out | apply below_alloc | apply pw_below_drewN | apply below_drew1 | refine below_set ?_ GE151.out | refine below_set ?_ GE158.out) | exact HB.out))⟩; clear HO_152001 HO_159001 BK151 BK158 HB hq_; have HO_152001 := n0_; have HO_159001 := n1_; have BK151 := n2_; have BK158 := n3_; have HB := n4_; clear n0_ n1_ n2_ n3_ n4_))
                        have n0_ := Aside0.mk (Kd.S_drew HO_152001.out)
                        have n1_ := Aside0.mk (Kd.S_drew HO_159001.out)
                        have n2_ := Aside0.mk (blk_drew BK151.out)
                        have n3_ := Aside0.mk (blk_drew BK158.out)
                        have n4_ := Aside0.mk (below_drew1 HB.out)
                        clear HO_152001
                        clear HO_159001
                        clear BK151
                        clear BK158
                        clear HB
                        have HO_152001 := n0_
                        have HO_159001 := n1_
                        have BK151 := n2_
                        have BK158 := n3_
                        have HB := n4_
                        clear n0_ n1_ n2_ n3_ n4_
                        have p164 : 0 ≤ (x16_4 : Int) := of_decide_eq_true (by first | (with_reducible assumption) | assumption)
                        have q164 : x16_4 < (t154.length : Int) := of_decide_eq_true (by first | (with_reducible assumption) | assumption)
                        obtain ⟨ad164, A164_3, c164_3, e164, hx164_0, hx164_1, hx164_2, hx164_3, hl164_3, hi164_3⟩ := at_T42 (Kd.S_reads' HO_159001.out).2.2 x16_4 p164 q164
                        cases e164
                        obtain ⟨ce164, hce164, hMe164, hcc164⟩ := Kd.S_get HO_159001.out z42 x16_4 p164 (by first | exact q164 | exact of_decide_eq_true (by first | (with_reducible assumption) | assumption) | (have e_ := (Kd.S_reads' HO_159001.out).1; omega))
                        obtain ⟨ve164_3, rfl, ge164_3⟩ := k42_openM hMe164
                        have hv164_3 := hcc164 3 _ rfl
                        rw [add_field _ _ 3 (by omega)] at hv164_3
                        replace hv164_3 := Option.some.inj (hv164_3.symm.trans hx164_3)
                        rw [hv164_3] at ge164_3
                        have HL164_3 := Aside0.mk (show Kd.R (Kd.int .i64) 3 _ _ _ _ ((rd_T42 t154 x16_4).f3) from ge164_3)
                        clear hv164_3 ge164_3
                        clear hcc164 hce164
                        have HR164_3 := Aside0.mk hi164_3
                        have HC164_3 := Aside0.mk hl164_3
                        clear hi164_3 hl164_3
                        replace p164 := eq_true p164
                        replace q164 := eq_true q164
                        have p165 : 0 ≤ (x16_4 : Int) := of_decide_eq_true (by first | (with_reducible assumption) | assumption)
                        have q165 : x16_4 < (x152001_1.length : Int) := of_decide_eq_true (by first | (with_reducible assumption) | assumption)
                        obtain ⟨ad165, A165_3, c165_3, e165, hx165_0, hx165_1, hx165_2, hx165_3, hl165_3, hi165_3⟩ := at_T42 (Kd.S_reads' HO_152001.out).2.2 x16_4 p165 q165
                        cases e165
                        obtain ⟨ce165, hce165, hMe165, hcc165⟩ := Kd.S_get HO_152001.out z42 x16_4 p165 (by first | exact q165 | exact of_decide_eq_true (by first | (with_reducible assumption) | assumption) | (have e_ := (Kd.S_reads' HO_152001.out).1; omega))
                        obtain ⟨ve165_3, rfl, ge165_3⟩ := k42_openM hMe165
                        have hv165_3 := hcc165 3 _ rfl
                        rw [add_field _ _ 3 (by omega)] at hv165_3
                        replace hv165_3 := Option.some.inj (hv165_3.symm.trans hx165_3)
                        rw [hv165_3] at ge165_3
                        have HL165_3 := Aside0.mk (show Kd.R (Kd.int .i64) 3 _ _ _ _ ((rd_T42 x152001_1 x16_4).f3) from ge165_3)
                        clear hv165_3 ge165_3
                        clear hcc165 hce165
                        have HR165_3 := Aside0.mk hi165_3
                        have HC165_3 := Aside0.mk hl165_3
                        clear hi165_3 hl165_3
                        replace p165 := eq_true p165
                        replace q165 := eq_true q165
                        refine start_ (n := 13) (S := fun w' => w'.cell? ⟨gb158, 0, none⟩ = some (.int .i64 t153) ∧ w'.cell? ⟨gb158, 1, none⟩ = some (.slice (some ad164) t154.length co28) ∧ w'.cell? ⟨gb151, 0, none⟩ = some (.int .i64 x152000_1) ∧ w'.cell? ⟨gb151, 1, none⟩ = some (.slice (some ad165) x152001_1.length co22) ∧ w'.cell? (ad164.add ((x16_4).toNat * 4)) = some (.int .u64 ((rd_T42 t154 x16_4).f0)) ∧ w'.cell? ⟨(ad164.add ((x16_4).toNat * 4)).block, (ad164.add ((x16_4).toNat * 4)).off + 1, none⟩ = some (.int .u64 ((rd_T42 t154 x16_4).f1)) ∧ w'.cell? ⟨(ad164.add ((x16_4).toNat * 4)).block, (ad164.add ((x16_4).toNat * 4)).off + 2, none⟩ = some (.int .i64 ((rd_T42 t154 x16_4).f2)) ∧ w'.cell? ⟨(ad164.add ((x16_4).toNat * 4)).block, (ad164.add ((x16_4).toNat * 4)).off + 3, none⟩ = some (.slice A164_3 ((rd_T42 t154 x16_4).f3).length c164_3) ∧ w'.cell? (ad165.add ((x16_4).toNat * 4)) = some (.int .u64 ((rd_T42 x152001_1 x16_4).f0)) ∧ w'.cell? ⟨(ad165.add ((x16_4).toNat * 4)).block, (ad165.add ((x16_4).toNat * 4)).off + 1, none⟩ = some (.int .u64 ((rd_T42 x152001_1 x16_4).f1)) ∧ w'.cell? ⟨(ad165.add ((x16_4).toNat * 4)).block, (ad165.add ((x16_4).toNat * 4)).off + 2, none⟩ = some (.int .i64 ((rd_T42 x152001_1 x16_4).f2)) ∧ w'.cell? ⟨(ad165.add ((x16_4).toNat * 4)).block, (ad165.add ((x16_4).toNat * 4)).off + 3, none⟩ = some (.slice A165_3 ((rd_T42 x152001_1 x16_4).f3).length c165_3)) (ds := []) #[false, false, false, false, false, false, false, false, false, false, false, false, false] (by kernel_rfl) rfl rfl ⟨(blk_cell BK158.out 0).trans rfl, (blk_cell BK158.out 1).trans rfl, (blk_cell BK151.out 0).trans rfl, (blk_cell BK151.out 1).trans rfl, hx164_0, hx164_1, hx164_2, hx164_3, hx165_0, hx165_1, hx165_2, hx165_3⟩ (fun hHeld => ?_); refine with_tabW fascinelaw14_MetaStays.tab19 fascinelaw14_MetaStays.bits19 (fun HT_ HW_ => ?_)
                        generalize wc.drew = w56 at HO_152001 HO_159001 BK151 BK158 HB HL164_3 HL165_3 HR164_3 HR165_3 hx164_0 hx164_1 hx164_2 hx164_3 hx165_0 hx165_1 hx165_2 hx165_3 hHeld ⊢
                        refine pure_ (i := 0) (N := some 107) (v := ?_) (a' := ?_) #[true, false, false, false, false, false, false, false, false, false, false, false, false] rfl rfl (any_of HT_.out (by kernel_rfl)) (fun _ _ _ h => h) (Or.inl ⟨by rfl, ?_⟩) ?_ ?_
                        rotate_left
                        ·intro w'
                         go_simp
                         with_reducible rfl
                        rotate_left
                        ·simp only [Act.put, List.setIfInBounds_toArray, List.set_cons_zero, List.set_cons_succ, i64_w, i32_w]
                         rfl
                        refine pure_ (i := 2) (N := some 109) (v := ?_) (a' := ?_) #[true, false, true, false, false, false, false, false, false, false, false, false, false] rfl rfl (any_of HT_.out (by kernel_rfl)) (fun _ _ _ h => h) (Or.inl ⟨by rfl, ?_⟩) ?_ ?_
                        rotate_left
                        ·intro w'
                         go_simp
                         with_reducible rfl
                        rotate_left
                        ·simp only [Act.put, List.setIfInBounds_toArray, List.set_cons_zero, List.set_cons_succ, i64_w, i32_w]
                         rfl
                        refine pure_ (i := 6) (N := some 113) (v := ?_) (a' := ?_) #[true, false, true, false, false, false, true, false, false, false, false, false, false] rfl rfl (any_of HT_.out (by kernel_rfl)) (fun _ _ _ h => h) (Or.inl ⟨by rfl, ?_⟩) ?_ ?_
                        rotate_left
                        ·intro w'
                         go_simp
                         with_reducible rfl
                        rotate_left
                        ·simp only [Act.put, List.setIfInBounds_toArray, List.set_cons_zero, List.set_cons_succ, i64_w, i32_w]
                         rfl
                        refine pure_ (i := 8) (N := some 115) (v := ?_) (a' := ?_) #[true, false, true, false, false, false, true, false, true, false, false, false, false] rfl rfl (any_of HT_.out (by kernel_rfl)) (fun _ _ _ h => h) (Or.inl ⟨by rfl, ?_⟩) ?_ ?_
                        rotate_left
                        ·intro w'
                         go_simp
                         with_reducible rfl
                        rotate_left
                        ·simp only [Act.put, List.setIfInBounds_toArray, List.set_cons_zero, List.set_cons_succ, i64_w, i32_w]
                         rfl
                        refine take_ (i := 1) (N := some 108) (v := ?_) (a' := ?_) #[true, true, true, false, false, false, true, false, true, false, false, false, false] rfl rfl (take_ofW HT_.out HW_.out (by kernel_rfl)) (fun _ _ _ h => h) (Or.inl ⟨by rfl, ?_⟩) hHeld ?_ ?_
                        rotate_left
                        ·rintro w' ⟨s0, s1, s2, s3, s4, s5, s6, s7, s8, s9, s10, s11⟩
                         go_simp
                         with_reducible rfl
                        rotate_left
                        ·simp only [Act.put, List.setIfInBounds_toArray, List.set_cons_zero, List.set_cons_succ, i64_w, i32_w]
                         rfl
                        refine pure_ (i := 3) (N := some 110) (v := ?_) (a' := ?_) #[true, true, true, true, false, false, true, false, true, false, false, false, false] rfl rfl (any_of HT_.out (by kernel_rfl)) (fun _ _ _ h => h) (Or.inl ⟨by rfl, ?_⟩) ?_ ?_
                        rotate_left
                        ·intro w'
                         go_simp
                         with_reducible rfl
                        rotate_left
                        ·simp only [Act.put, List.setIfInBounds_toArray, List.set_cons_zero, List.set_cons_succ, i64_w, i32_w]
                         rfl
                        refine pure_ (i := 4) (N := some 111) (v := ?_) (a' := ?_) #[true, true, true, true, true, false, true, false, true, false, false, false, false] rfl rfl (any_of HT_.out (by kernel_rfl)) (fun _ _ _ h => h) (Or.inl ⟨by rfl, ?_⟩) ?_ ?_
                        rotate_left
                        ·intro w'
                         go_simp
                         with_reducible rfl
                        rotate_left
                        ·simp only [Act.put, List.setIfInBounds_toArray, List.set_cons_zero, List.set_cons_succ, i64_w, i32_w]
                         rfl
                        refine take_ (i := 5) (N := some 112) (v := ?_) (a' := ?_) #[true, true, true, true, true, true, true, false, true, false, false, false, false] rfl rfl (take_ofW HT_.out HW_.out (by kernel_rfl)) (fun _ _ _ h => h) (Or.inl ⟨by rfl, ?_⟩) hHeld ?_ ?_
                        rotate_left
                        ·rintro w' ⟨s0, s1, s2, s3, s4, s5, s6, s7, s8, s9, s10, s11⟩
                         go_simp
                         with_reducible rfl
                        rotate_left
                        ·simp only [Act.put, List.setIfInBounds_toArray, List.set_cons_zero, List.set_cons_succ, i64_w, i32_w]
                         rfl
                        refine take_ (i := 7) (N := some 114) (v := ?_) (a' := ?_) #[true, true, true, true, true, true, true, true, true, false, false, false, false] rfl rfl (take_ofW HT_.out HW_.out (by kernel_rfl)) (fun _ _ _ h => h) (Or.inl ⟨by rfl, ?_⟩) hHeld ?_ ?_
                        rotate_left
                        ·rintro w' ⟨s0, s1, s2, s3, s4, s5, s6, s7, s8, s9, s10, s11⟩
                         go_simp
                         with_reducible rfl
                        rotate_left
                        ·simp only [Act.put, List.setIfInBounds_toArray, List.set_cons_zero, List.set_cons_succ, i64_w, i32_w]
                         rfl
                        refine pure_ (i := 9) (N := some 116) (v := ?_) (a' := ?_) #[true, true, true, true, true, true, true, true, true, true, false, false, false] rfl rfl (any_of HT_.out (by kernel_rfl)) (fun _ _ _ h => h) (Or.inl ⟨by rfl, ?_⟩) ?_ ?_
                        rotate_left
                        ·intro w'
                         go_simp
                         with_reducible rfl
                        rotate_left
                        ·simp only [Act.put, List.setIfInBounds_toArray, List.set_cons_zero, List.set_cons_succ, i64_w, i32_w]
                         rfl
                        refine pure_ (i := 10) (N := some 117) (v := ?_) (a' := ?_) #[true, true, true, true, true, true, true, true, true, true, true, false, false] rfl rfl (any_of HT_.out (by kernel_rfl)) (fun _ _ _ h => h) (Or.inl ⟨by rfl, ?_⟩) ?_ ?_
                        rotate_left
                        ·intro w'
                         go_simp
                         with_reducible rfl
                        rotate_left
                        ·simp only [Act.put, List.setIfInBounds_toArray, List.set_cons_zero, List.set_cons_succ, i64_w, i32_w]
                         rfl
                        refine take_ (i := 11) (N := some 118) (v := ?_) (a' := ?_) #[true, true, true, true, true, true, true, true, true, true, true, true, false] rfl rfl (take_ofW HT_.out HW_.out (by kernel_rfl)) (fun _ _ _ h => h) (Or.inl ⟨by rfl, ?_⟩) hHeld ?_ ?_
                        rotate_left
                        ·rintro w' ⟨s0, s1, s2, s3, s4, s5, s6, s7, s8, s9, s10, s11⟩
                         go_simp
                         with_reducible rfl
                        rotate_left
                        ·simp only [Act.put, List.setIfInBounds_toArray, List.set_cons_zero, List.set_cons_succ, i64_w, i32_w]
                         rfl
                        refine pure_ (i := 12) (N := some 119) (v := ?_) (a' := ?_) #[true, true, true, true, true, true, true, true, true, true, true, true, true] rfl rfl (any_of HT_.out (by kernel_rfl)) (fun _ _ _ h => h) (Or.inl ⟨by rfl, ?_⟩) ?_ ?_
                        rotate_left
                        ·intro w'
                         go_simp
                         with_reducible rfl
                        rotate_left
                        ·simp only [Act.put, List.setIfInBounds_toArray, List.set_cons_zero, List.set_cons_succ, i64_w, i32_w]
                         rfl
                        refine done_ (done_of HT_.out (by kernel_rfl)) ?_
                        try go_wp2
                        go_roundg kj41
                        case measure => have := HK1.out; have := HJ14.out; have := HJ20.out; have := HK4.out; have := HJ41.out; omega
                        case rel => exact ⟨(wrap64 (x15_4 + 1)), (wrap64 (x16_4 + 1)), (by first | rfl | (simp; done) | (simp [*]; done)), (by first | rfl | (simp; done) | (simp [*]; done)), H', ⟨by have := HK1.out; have := HJ14.out; have := HJ20.out; have := HK4.out; have := HJ41.out; omega⟩, ⟨by (with_reducible repeat (first | apply Kd.S_alloc | apply Kd.S_drewN | apply Kd.S_drew)); exact HO_152001.out⟩, ⟨by (with_reducible repeat (first | apply Kd.S_alloc | apply Kd.S_drewN | apply Kd.S_drew)); exact HO_159001.out⟩, ⟨by (with_reducible repeat (first | refine blk_drewN ?_ _ | refine blk_drew ?_ | refine blk_alloc ?_ _)); exact BK151.out⟩, ⟨by (with_reducible repeat (first | refine blk_drewN ?_ _ | refine blk_drew ?_ | refine blk_alloc ?_ _)); exact BK158.out⟩, ⟨by repeat (first | (with_reducible first | exact HB.out | apply below_alloc | apply pw_below_drewN | apply below_drew1 | refine below_set ?_ GE151.out | refine below_set ?_ GE158.out) | exact HB.out)⟩⟩
                      ·rw [if_neg c53] at H
                       exact absurd H (by simp)
                     ·rw [if_neg c52] at H
                      exact absurd H (by simp)
                    ·rw [if_neg c51] at H
                     exact absurd H (by simp)
                ·rw [if_neg c41] at H
                 have c41b0 : decide (x16_4 < (x152001_1.length : Int)) = false := decide_eq_false c41
                 clear c41
                 by_cases c57 : 0 ≤ x12_1
                 ·rw [if_pos c57] at H
                  have c57b0 : decide (0 ≤ x12_1) = true := decide_eq_true c57
                  clear c57
                  by_cases c58 : x12_1 < (l3.length : Int)
                  ·rw [if_pos c58] at H
                   have c58b0 : decide (x12_1 < (l3.length : Int)) = true := decide_eq_true c58
                   clear c58
                   replace H := Option.bind_eq_some_iff.mp H
                   obtain ⟨⟨t167, t168, t171⟩, A590, H⟩ := H
                   replace H : (if (t157 != (x15_4 == 1)) = true then (fascinelaw14_MetaStays.j5 k4 l3 x12_1 true t153 t154) else (if t157 = true then (fascinelaw14_MetaStays.j5 k4 l3 x12_1 t171 t153 t154) else (if x15_4 > 0 then (fascinelaw14_MetaStays.j5 k4 l3 x12_1 true t153 t154) else (fascinelaw14_MetaStays.j5 k4 l3 x12_1 false t153 t154)))) = some r := H
                   have A59 := Aside0.mk A590
                   clear A590
                   have HC60 := Aside0.mk H
                   clear H
                   have hnb61 := NB151_158.out
                   have hnc61 := NB158_151.out
                   have hcz62_0 : wr.cell? ⟨gb151, 0, none⟩ = some (.int .i64 x152000_1) := (blk_cell BK151.out 0).trans rfl
                   have hcz62_1 : wr.cell? ⟨gb151, 1, none⟩ = some (.slice Ao22 x152001_1.length co22) := (blk_cell BK151.out 1).trans rfl
                   have hfz62_0 := blk_frozen BK151.out 0
                   have hfz62_1 := blk_frozen BK151.out 1
                   try go_wp2
                   (try (rw [drewN_self wr]; generalize hq_ : World.drewN wr _ = wr; have n0_ : Aside0 (Kd.S k42 42 wr w.heap.size (fun k_ => some k_ ≠ (.slice Ao28 t154.length co28 : Value).ownBlock) (.slice Ao22 x152001_1.length co22) x152001_1) := ⟨by rw [← hq_]; exact (by (with_reducible repeat (first | apply Kd.S_alloc | apply Kd.S_drewN | apply Kd.S_drew)); exact HO_152001.out)⟩; have n1_ : Aside0 (Kd.S k42 42 wr w.heap.size (fun k_ => some k_ ≠ (.slice Ao22 x152001_1.length co22 : Value).ownBlock) (.slice Ao28 t154.length co28) t154) := ⟨by rw [← hq_]; exact (by (with_reducible repeat (first | apply Kd.S_alloc | apply Kd.S_drewN | apply Kd.S_drew)); exact HO_159001.out)⟩; have n2_ : Aside0 (wr.heap[gb151]? = some (.cells #[.int .i64 x152000_1, .slice Ao22 x152001_1.length co22] 24 (0, 0))) := ⟨by rw [← hq_]; exact (by (with_reducible repeat (first | refine blk_drewN ?_ _ | refine blk_drew ?_ | refine blk_alloc ?_ _)); exact BK151.out)⟩; have n3_ : Aside0 (wr.heap[gb158]? = some (.cells #[.int .i64 t153, .slice Ao28 t154.length co28] 24 (0, 0))) := ⟨by rw [← hq_]; exact (by (with_reducible repeat (first | refine blk_drewN ?_ _ | refine blk_drew ?_ | refine blk_alloc ?_ _)); exact BK158.out)⟩; have n4_ : Aside0 (Below w.heap.size w wr) := ⟨by rw [← hq_]; exact (by repeat (first | (with_reducible first | exact HB.out | apply below_alloc | apply pw_below_drewN | apply below_drew1 | refine below_set ?_ GE151.out | refine below_set ?_ GE158.out) | exact HB.out))⟩; clear HO_152001 HO_159001 BK151 BK158 HB hq_; have HO_152001 := n0_; have HO_159001 := n1_; have BK151 := n2_; have BK158 := n3_; have HB := n4_; clear n0_ n1_ n2_ n3_ n4_))
                   have n0_ := Aside0.mk (Kd.S_drew HO_152001.out)
                   have n1_ := Aside0.mk (Kd.S_drew HO_159001.out)
                   have n2_ := Aside0.mk (blk_drew BK151.out)
                   have n3_ := Aside0.mk (blk_drew BK158.out)
                   have n4_ := Aside0.mk (below_drew1 HB.out)
                   clear HO_152001
                   clear HO_159001
                   clear BK151
                   clear BK158
                   clear HB
                   have HO_152001 := n0_
                   have HO_159001 := n1_
                   have BK151 := n2_
                   have BK158 := n3_
                   have HB := n4_
                   clear n0_ n1_ n2_ n3_ n4_
                   have p166 : 0 ≤ (x12_1 : Int) := of_decide_eq_true (by first | (with_reducible assumption) | assumption)
                   have q166 : x12_1 < (l3.length : Int) := of_decide_eq_true (by first | (with_reducible assumption) | assumption)
                   obtain ⟨ad166, e166, hx166_0, hx166_1, hx166_2, hx166_3⟩ := at_T39 HR3.out x12_1 p166 q166
                   have hw166_3 := hx166_3
                   have hw166_2 := hx166_2
                   have hw166_1 := hx166_1
                   have hw166_0 := hx166_0
                   obtain rfl : ad152 = ad166 := (by injection e166)
                   replace hx166_0 := (HB.out.cell (World.block_lt_of_cell? w _ hx166_0)).trans hx166_0
                   replace hx166_1 := (HB.out.cell (World.block_lt_of_cell? w _ hx166_1)).trans hx166_1
                   replace hx166_2 := (HB.out.cell (World.block_lt_of_cell? w _ hx166_2)).trans hx166_2
                   replace hx166_3 := (HB.out.cell (World.block_lt_of_cell? w _ hx166_3)).trans hx166_3
                   replace p166 := eq_true p166
                   replace q166 := eq_true q166
                   refine start_ (n := 12) (S := fun w' => w'.cell? ⟨gb158, 0, none⟩ = some (.int .i64 t153) ∧ w'.cell? ⟨gb158, 1, none⟩ = some (.slice Ao28 t154.length co28) ∧ w'.cell? (ad152.add ((x12_1).toNat * 4)) = some (.int .u8 ((rd_T39 l3 x12_1).f0)) ∧ w'.cell? ⟨(ad152.add ((x12_1).toNat * 4)).block, (ad152.add ((x12_1).toNat * 4)).off + 1, none⟩ = some (.int .i64 ((rd_T39 l3 x12_1).f1)) ∧ w'.cell? ⟨(ad152.add ((x12_1).toNat * 4)).block, (ad152.add ((x12_1).toNat * 4)).off + 2, none⟩ = some (.int .i64 ((rd_T39 l3 x12_1).f2)) ∧ w'.cell? ⟨(ad152.add ((x12_1).toNat * 4)).block, (ad152.add ((x12_1).toNat * 4)).off + 3, none⟩ = some (.int .u64 ((rd_T39 l3 x12_1).f3))) (ds := []) #[false, false, false, false, false, false, false, false, false, false, false, false] (by kernel_rfl) rfl rfl ⟨(blk_cell BK158.out 0).trans rfl, (blk_cell BK158.out 1).trans rfl, ((HB.out.cell (World.block_lt_of_cell? w _ hw166_0)).trans hw166_0), ((HB.out.cell (World.block_lt_of_cell? w _ hw166_1)).trans hw166_1), ((HB.out.cell (World.block_lt_of_cell? w _ hw166_2)).trans hw166_2), ((HB.out.cell (World.block_lt_of_cell? w _ hw166_3)).trans hw166_3)⟩ (fun hHeld => ?_); refine with_tabW fascinelaw14_MetaStays.tab21 fascinelaw14_MetaStays.bits21 (fun HT_ HW_ => ?_)
                   generalize wr.drew = w63 at HO_152001 HO_159001 BK151 BK158 HB hx166_0 hx166_1 hx166_2 hx166_3 hHeld ⊢
                   refine pure_ (i := 1) (N := some 124) (v := ?_) (a' := ?_) #[false, true, false, false, false, false, false, false, false, false, false, false] rfl rfl (any_of HT_.out (by kernel_rfl)) (fun _ _ _ h => h) (Or.inl ⟨by rfl, ?_⟩) ?_ ?_
                   rotate_left
                   ·intro w'
                    go_simp
                    with_reducible rfl
                   rotate_left
                   ·simp only [Act.put, List.setIfInBounds_toArray, List.set_cons_zero, List.set_cons_succ, i64_w, i32_w]
                    rfl
                   refine pure_ (i := 2) (N := some 125) (v := ?_) (a' := ?_) #[false, true, true, false, false, false, false, false, false, false, false, false] rfl rfl (any_of HT_.out (by kernel_rfl)) (fun _ _ _ h => h) (Or.inl ⟨by rfl, ?_⟩) ?_ ?_
                   rotate_left
                   ·intro w'
                    go_simp
                    with_reducible rfl
                   rotate_left
                   ·simp only [Act.put, List.setIfInBounds_toArray, List.set_cons_zero, List.set_cons_succ, i64_w, i32_w]
                    rfl
                   refine pure_ (i := 3) (N := some 126) (v := ?_) (a' := ?_) #[false, true, true, true, false, false, false, false, false, false, false, false] rfl rfl (any_of HT_.out (by kernel_rfl)) (fun _ _ _ h => h) (Or.inl ⟨by rfl, ?_⟩) ?_ ?_
                   rotate_left
                   ·intro w'
                    go_simp
                    with_reducible rfl
                   rotate_left
                   ·simp only [Act.put, List.setIfInBounds_toArray, List.set_cons_zero, List.set_cons_succ, i64_w, i32_w]
                    rfl
                   refine take_ (i := 0) (N := some 123) (v := ?_) (a' := ?_) #[true, true, true, true, false, false, false, false, false, false, false, false] rfl rfl (take_ofW HT_.out HW_.out (by kernel_rfl)) (fun _ _ _ h => h) (Or.inl ⟨by rfl, ?_⟩) hHeld ?_ ?_
                   rotate_left
                   ·rintro w' ⟨s0, s1, s2, s3, s4, s5⟩
                    go_simp
                    with_reducible rfl
                   rotate_left
                   ·simp only [Act.put, List.setIfInBounds_toArray, List.set_cons_zero, List.set_cons_succ, i64_w, i32_w]
                    rfl
                   refine take_ (i := 4) (N := some 127) (v := ?_) (a' := ?_) #[true, true, true, true, true, false, false, false, false, false, false, false] rfl rfl (take_ofW HT_.out HW_.out (by kernel_rfl)) (fun _ _ _ h => h) (Or.inl ⟨by rfl, ?_⟩) hHeld ?_ ?_
                   rotate_left
                   ·rintro w' ⟨s0, s1, s2, s3, s4, s5⟩
                    go_simp
                    with_reducible rfl
                   rotate_left
                   ·simp only [Act.put, List.setIfInBounds_toArray, List.set_cons_zero, List.set_cons_succ, i64_w, i32_w]
                    rfl
                   refine join_ (σ := Value × Nat) 2 #[true, true, true, true, true, true, true, true, true, true, false, false] (fun s_ => [(128, .tuple #[.agg #[.int .i64 t167, s_.1], .bool t171]), (17, .pointer (some ⟨s_.2, 0, none⟩)), (122, .tuple #[.agg #[.int .i64 t167, s_.1], .bool t171]), (129, .agg #[.int .i64 t167, s_.1]), (130, .bool t171)]) (fun s_ w' => (w'.cell? ⟨gb158, 0, none⟩ = some (.int .i64 t153) ∧ w'.cell? ⟨gb158, 1, none⟩ = some (.slice Ao28 t154.length co28) ∧ w'.cell? (ad152.add ((x12_1).toNat * 4)) = some (.int .u8 ((rd_T39 l3 x12_1).f0)) ∧ w'.cell? ⟨(ad152.add ((x12_1).toNat * 4)).block, (ad152.add ((x12_1).toNat * 4)).off + 1, none⟩ = some (.int .i64 ((rd_T39 l3 x12_1).f1)) ∧ w'.cell? ⟨(ad152.add ((x12_1).toNat * 4)).block, (ad152.add ((x12_1).toNat * 4)).off + 2, none⟩ = some (.int .i64 ((rd_T39 l3 x12_1).f2)) ∧ w'.cell? ⟨(ad152.add ((x12_1).toNat * 4)).block, (ad152.add ((x12_1).toNat * 4)).off + 3, none⟩ = some (.int .u64 ((rd_T39 l3 x12_1).f3))) ∧ (Kd.S k42 42 w' w.heap.size (fun k_ => some k_ ≠ (.slice Ao22 x152001_1.length co22 : Value).ownBlock ∧ some k_ ≠ (.slice Ao28 t154.length co28 : Value).ownBlock) s_.1 t168) ∧ (Kd.S k42 42 w' w.heap.size (fun k_ => some k_ ≠ (s_.1 : Value).ownBlock ∧ some k_ ≠ (.slice Ao28 t154.length co28 : Value).ownBlock) (.slice Ao22 x152001_1.length co22) x152001_1) ∧ (Kd.S k42 42 w' w.heap.size (fun k_ => some k_ ≠ (s_.1 : Value).ownBlock ∧ some k_ ≠ (.slice Ao22 x152001_1.length co22 : Value).ownBlock) (.slice Ao28 t154.length co28) t154) ∧ (w'.heap[gb151]? = some (.cells #[.int .i64 x152000_1, .slice Ao22 x152001_1.length co22] 24 (0, 0))) ∧ (w'.heap[gb158]? = some (.cells #[.int .i64 t153, .slice Ao28 t154.length co28] 24 (0, 0))) ∧ (w'.heap[s_.2]? = some (.cells #[.int .i64 0, .slice none 0 0] 24 (0, 0))) ∧ (w.heap.size ≤ s_.2) ∧ (w.heap.size ≤ s_.2) ∧ (gb151 ≠ s_.2) ∧ (s_.2 ≠ gb151) ∧ (gb158 ≠ s_.2) ∧ (s_.2 ≠ gb158) ∧ (Below w.heap.size w w')) ?_ ?_
                   rotate_left
                   ·intro hCont
                    refine two_ (i := 5) (j := 9) (Ni := some 128) (Nj := some 17) #[true, true, true, true, true, true, false, false, false, false, false, false] #[true, true, true, true, true, false, false, false, false, true, false, false] rfl rfl rfl rfl (two_of HT_.out (by kernel_rfl)) (by decide) (by decide) (fun K hK => ?_) (fun K hK => ?_)
                    ·skip
                     refine goes_ Try.func22 (by kernel_rfl) rfl #[.agg #[.int .i64 t153, .slice Ao28 t154.length co28], .agg #[.int .u8 ((rd_T39 l3 x12_1).f0), .int .i64 ((rd_T39 l3 x12_1).f1), .int .i64 ((rd_T39 l3 x12_1).f2), .int .u64 ((rd_T39 l3 x12_1).f3)]] (by rfl) rfl rfl (by (try simp only [List.map_toArray, List.map_cons, List.map_nil]); first | done | rfl | (simp only [List.length_drop, List.length_take]; rfl)) ?_
                     with_reducible refine (meta_Apply.calls k4 t153 _ _ t154 ((rd_T39 l3 x12_1).f0) ((rd_T39 l3 x12_1).f1) ((rd_T39 l3 x12_1).f2) ((rd_T39 l3 x12_1).f3) t167 t168 t171 _ ?side1 ?side2 A59.out).mono ?_
                     (case side1 => repeat (first | exact (Kd.S_reads' HO_159001.out).2.2 | (with_reducible refine Kd.C_alloc ?_ _) | (with_reducible refine Kd.C_drewN ?_ _) | (with_reducible refine Kd.C_drew ?_)))
                     (case side2 => exact (Kd.S_reads' HO_159001.out).2.1)
                     rintro e w64 ⟨v169, rfl, ho0, hb⟩
                     refine ⟨_, rfl, ?_⟩
                     have n0_ := Aside0.mk (Kd.S_elder' (by (with_reducible repeat (first | apply Kd.S_alloc | apply Kd.S_drewN | apply Kd.S_drew)); exact HO_152001.out) (Kd.S_base ho0) hb)
                     have n1_ := Aside0.mk (Kd.S_elder' (by (with_reducible repeat (first | apply Kd.S_alloc | apply Kd.S_drewN | apply Kd.S_drew)); exact HO_159001.out) (Kd.S_base ho0) hb)
                     have n2_ := Aside0.mk (Kd.S_lower (Kd.S_new' (Kd.S_new' ho0 (Kd.S_lt (by (with_reducible repeat (first | apply Kd.S_alloc | apply Kd.S_drewN | apply Kd.S_drew)); exact HO_152001.out))) (Kd.S_lt (by (with_reducible repeat (first | apply Kd.S_alloc | apply Kd.S_drewN | apply Kd.S_drew)); exact HO_159001.out))) (below_size (by repeat (first | (with_reducible first | exact HB.out | apply below_alloc | apply pw_below_drewN | apply below_drew1 | refine below_set ?_ GE151.out | refine below_set ?_ GE158.out) | exact HB.out))))
                     have n3_ := Aside0.mk (blk_below (g := gb151) (o := .cells #[.int .i64 x152000_1, .slice Ao22 x152001_1.length co22] 24 (0, 0)) (by (with_reducible repeat (first | refine blk_drewN ?_ _ | refine blk_drew ?_ | refine blk_alloc ?_ _)); exact BK151.out) hb)
                     have n4_ := Aside0.mk (blk_below (g := gb158) (o := .cells #[.int .i64 t153, .slice Ao28 t154.length co28] 24 (0, 0)) (by (with_reducible repeat (first | refine blk_drewN ?_ _ | refine blk_drew ?_ | refine blk_alloc ?_ _)); exact BK158.out) hb)
                     have n5_ := Aside0.mk (below_step (by repeat (first | (with_reducible first | exact HB.out | apply below_alloc | apply pw_below_drewN | apply below_drew1 | refine below_set ?_ GE151.out | refine below_set ?_ GE158.out) | exact HB.out)) hb)
                     clear HO_152001
                     clear HO_159001
                     clear BK151
                     clear BK158
                     clear HB
                     have HO_152001 := n0_
                     have HO_159001 := n1_
                     have HO170 := n2_
                     have BK151 := n3_
                     have BK158 := n4_
                     have HB := n5_
                     clear n0_ n1_ n2_ n3_ n4_ n5_
                     (try clear hb)
                     (try clear hb2)
                     (try clear hk)
                     (try clear hi)
                     (try clear ho0)
                     refine hK.out _ _ ⟨(blk_cell BK158.out 0).trans rfl, (blk_cell BK158.out 1).trans rfl, ((HB.out.cell (World.block_lt_of_cell? w _ hw166_0)).trans hw166_0), ((HB.out.cell (World.block_lt_of_cell? w _ hw166_1)).trans hw166_1), ((HB.out.cell (World.block_lt_of_cell? w _ hw166_2)).trans hw166_2), ((HB.out.cell (World.block_lt_of_cell? w _ hw166_3)).trans hw166_3)⟩ (fun hHeld => ?_)
                     clear hK K
                     refine norm_ (a' := ?_) ?_ ?_
                     rotate_left
                     ·show Act.put _ (some 128) _ = _
                      simp only [Act.put, List.setIfInBounds_toArray, List.set_cons_zero, List.set_cons_succ, i64_w, i32_w]
                      rfl
                     refine pure_ (i := 6) (N := some 122) (v := ?_) (a' := ?_) #[true, true, true, true, true, true, true, false, false, false, false, false] rfl rfl (any_of HT_.out (by kernel_rfl)) (fun _ _ _ h => h) (Or.inl ⟨by rfl, ?_⟩) ?_ ?_
                     rotate_left
                     ·intro w'
                      go_simp
                      with_reducible rfl
                     rotate_left
                     ·simp only [Act.put, List.setIfInBounds_toArray, List.set_cons_zero, List.set_cons_succ, i64_w, i32_w]
                      rfl
                     refine pure_ (i := 7) (N := some 129) (v := ?_) (a' := ?_) #[true, true, true, true, true, true, true, true, false, false, false, false] rfl rfl (any_of HT_.out (by kernel_rfl)) (fun _ _ _ h => h) (Or.inl ⟨by rfl, ?_⟩) ?_ ?_
                     rotate_left
                     ·intro w'
                      go_simp
                      with_reducible rfl
                     rotate_left
                     ·simp only [Act.put, List.setIfInBounds_toArray, List.set_cons_zero, List.set_cons_succ, i64_w, i32_w]
                      rfl
                     refine pure_ (i := 8) (N := some 130) (v := ?_) (a' := ?_) #[true, true, true, true, true, true, true, true, true, false, false, false] rfl rfl (any_of HT_.out (by kernel_rfl)) (fun _ _ _ h => h) (Or.inl ⟨by rfl, ?_⟩) ?_ ?_
                     rotate_left
                     ·intro w'
                      go_simp
                      with_reducible rfl
                     rotate_left
                     ·simp only [Act.put, List.setIfInBounds_toArray, List.set_cons_zero, List.set_cons_succ, i64_w, i32_w]
                      rfl
                     refine one_ (i := 9) (N := some 17) #[true, true, true, true, true, true, true, true, true, true, false, false] rfl rfl (one_of HT_.out (by kernel_rfl)) (by decide) (fun K hK => ?_)
                     refine box_step ?hg (N := 17) ?hd (cs := #[.int .i64 0, .slice none 0 0]) (t := 24) ?hr ?_; (case hd => rfl); (case hg => rfl); (case hr => first | (go_simp; done) | (go_simp; rfl))
                     intro gb172 hg w65 hbox hb
                     have n0_ := Aside0.mk (Kd.S_below (by (with_reducible repeat (first | apply Kd.S_alloc | apply Kd.S_drewN | apply Kd.S_drew)); exact HO_152001.out) hb)
                     have n1_ := Aside0.mk (Kd.S_below (by (with_reducible repeat (first | apply Kd.S_alloc | apply Kd.S_drewN | apply Kd.S_drew)); exact HO_159001.out) hb)
                     have n2_ := Aside0.mk (Kd.S_below (by (with_reducible repeat (first | apply Kd.S_alloc | apply Kd.S_drewN | apply Kd.S_drew)); exact HO170.out) hb)
                     have n3_ := Aside0.mk (blk_below (g := gb151) (o := .cells #[.int .i64 x152000_1, .slice Ao22 x152001_1.length co22] 24 (0, 0)) (by (with_reducible repeat (first | refine blk_drewN ?_ _ | refine blk_drew ?_ | refine blk_alloc ?_ _)); exact BK151.out) hb)
                     have n4_ := Aside0.mk (blk_below (g := gb158) (o := .cells #[.int .i64 t153, .slice Ao28 t154.length co28] 24 (0, 0)) (by (with_reducible repeat (first | refine blk_drewN ?_ _ | refine blk_drew ?_ | refine blk_alloc ?_ _)); exact BK158.out) hb)
                     have n5_ := Aside0.mk (below_step (by repeat (first | (with_reducible first | exact HB.out | apply below_alloc | apply pw_below_drewN | apply below_drew1 | refine below_set ?_ GE151.out | refine below_set ?_ GE158.out) | exact HB.out)) hb)
                     have n6_ := Aside0.mk (hbox)
                     have n7_ := Aside0.mk ((by rw [hg]; exact (below_size (by repeat (first | (with_reducible first | exact HB.out | apply below_alloc | apply pw_below_drewN | apply below_drew1 | refine below_set ?_ GE151.out | refine below_set ?_ GE158.out) | exact HB.out))) : w.heap.size ≤ gb172))
                     have n8_ := Aside0.mk ((by rw [hg]; exact (below_size (by repeat (first | (with_reducible first | exact HB.out | apply below_alloc | apply pw_below_drewN | apply below_drew1 | refine below_set ?_ GE151.out | refine below_set ?_ GE158.out) | exact HB.out))) : w.heap.size ≤ gb172))
                     have n9_ := Aside0.mk ((by rw [hg]; exact Nat.ne_of_lt (blk_lt (g := gb151) (o := .cells #[.int .i64 x152000_1, .slice Ao22 x152001_1.length co22] 24 (0, 0)) (by (with_reducible repeat (first | refine blk_drewN ?_ _ | refine blk_drew ?_ | refine blk_alloc ?_ _)); exact BK151.out)) : gb151 ≠ gb172))
                     have n10_ := Aside0.mk ((by rw [hg]; exact Nat.ne_of_gt (blk_lt (g := gb151) (o := .cells #[.int .i64 x152000_1, .slice Ao22 x152001_1.length co22] 24 (0, 0)) (by (with_reducible repeat (first | refine blk_drewN ?_ _ | refine blk_drew ?_ | refine blk_alloc ?_ _)); exact BK151.out)) : gb172 ≠ gb151))
                     have n11_ := Aside0.mk ((by rw [hg]; exact Nat.ne_of_lt (blk_lt (g := gb158) (o := .cells #[.int .i64 t153, .slice Ao28 t154.length co28] 24 (0, 0)) (by (with_reducible repeat (first | refine blk_drewN ?_ _ | refine blk_drew ?_ | refine blk_alloc ?_ _)); exact BK158.out)) : gb158 ≠ gb172))
                     have n12_ := Aside0.mk ((by rw [hg]; exact Nat.ne_of_gt (blk_lt (g := gb158) (o := .cells #[.int .i64 t153, .slice Ao28 t154.length co28] 24 (0, 0)) (by (with_reducible repeat (first | refine blk_drewN ?_ _ | refine blk_drew ?_ | refine blk_alloc ?_ _)); exact BK158.out)) : gb172 ≠ gb158))
                     clear HO_152001
                     clear HO_159001
                     clear HO170
                     clear BK151
                     clear BK158
                     clear HB
                     have HO_152001 := n0_
                     have HO_159001 := n1_
                     have HO170 := n2_
                     have BK151 := n3_
                     have BK158 := n4_
                     have HB := n5_
                     have BK172 := n6_
                     have GW172 := n7_
                     have GE172 := n8_
                     have NB151_172 := n9_
                     have NB172_151 := n10_
                     have NB158_172 := n11_
                     have NB172_158 := n12_
                     clear n0_ n1_ n2_ n3_ n4_ n5_ n6_ n7_ n8_ n9_ n10_ n11_ n12_
                     clear hb hbox hg
                     refine hK.out _ _ ⟨(blk_cell BK158.out 0).trans rfl, (blk_cell BK158.out 1).trans rfl, ((HB.out.cell (World.block_lt_of_cell? w _ hw166_0)).trans hw166_0), ((HB.out.cell (World.block_lt_of_cell? w _ hw166_1)).trans hw166_1), ((HB.out.cell (World.block_lt_of_cell? w _ hw166_2)).trans hw166_2), ((HB.out.cell (World.block_lt_of_cell? w _ hw166_3)).trans hw166_3)⟩ (fun hHeld => ?_)
                     clear hK K
                     refine norm_ (a' := ?_) ?_ ?_
                     rotate_left
                     ·show Act.put _ (some 17) _ = _
                      simp only [Act.put, List.setIfInBounds_toArray, List.set_cons_zero, List.set_cons_succ, i64_w, i32_w]
                      rfl
                     exact norm_ (by simp only [putAll, Act.put, List.setIfInBounds_toArray, List.set_cons_zero, List.set_cons_succ]) (hCont (v169, gb172) _ ⟨hHeld, (by (with_reducible repeat (first | apply Kd.S_alloc | apply Kd.S_drewN | apply Kd.S_drew)); exact Kd.S_mono HO170.out (fun _ hk => ⟨hk.1.2, hk.2⟩)), (by (with_reducible repeat (first | apply Kd.S_alloc | apply Kd.S_drewN | apply Kd.S_drew)); exact Kd.S_mono HO_152001.out (fun _ hk => ⟨hk.2, hk.1⟩)), (by (with_reducible repeat (first | apply Kd.S_alloc | apply Kd.S_drewN | apply Kd.S_drew)); exact Kd.S_mono HO_159001.out (fun _ hk => ⟨hk.2, hk.1⟩)), (by (with_reducible repeat (first | refine blk_drewN ?_ _ | refine blk_drew ?_ | refine blk_alloc ?_ _)); exact BK151.out), (by (with_reducible repeat (first | refine blk_drewN ?_ _ | refine blk_drew ?_ | refine blk_alloc ?_ _)); exact BK158.out), (by (with_reducible repeat (first | refine blk_drewN ?_ _ | refine blk_drew ?_ | refine blk_alloc ?_ _)); exact BK172.out), GW172.out, GE172.out, NB151_172.out, NB172_151.out, NB158_172.out, NB172_158.out, (by repeat (first | (with_reducible first | exact HB.out | apply below_alloc | apply pw_below_drewN | apply below_drew1 | refine below_set ?_ GE151.out | refine below_set ?_ GE158.out | refine below_set ?_ GE172.out) | exact HB.out))⟩)
                    ·skip
                     refine box_step ?hg (N := 17) ?hd (cs := #[.int .i64 0, .slice none 0 0]) (t := 24) ?hr ?_; (case hd => rfl); (case hg => rfl); (case hr => first | (go_simp; done) | (go_simp; rfl))
                     intro gb172 hg w64 hbox hb
                     have n0_ := Aside0.mk (Kd.S_below (by (with_reducible repeat (first | apply Kd.S_alloc | apply Kd.S_drewN | apply Kd.S_drew)); exact HO_152001.out) hb)
                     have n1_ := Aside0.mk (Kd.S_below (by (with_reducible repeat (first | apply Kd.S_alloc | apply Kd.S_drewN | apply Kd.S_drew)); exact HO_159001.out) hb)
                     have n2_ := Aside0.mk (blk_below (g := gb151) (o := .cells #[.int .i64 x152000_1, .slice Ao22 x152001_1.length co22] 24 (0, 0)) (by (with_reducible repeat (first | refine blk_drewN ?_ _ | refine blk_drew ?_ | refine blk_alloc ?_ _)); exact BK151.out) hb)
                     have n3_ := Aside0.mk (blk_below (g := gb158) (o := .cells #[.int .i64 t153, .slice Ao28 t154.length co28] 24 (0, 0)) (by (with_reducible repeat (first | refine blk_drewN ?_ _ | refine blk_drew ?_ | refine blk_alloc ?_ _)); exact BK158.out) hb)
                     have n4_ := Aside0.mk (below_step (by repeat (first | (with_reducible first | exact HB.out | apply below_alloc | apply pw_below_drewN | apply below_drew1 | refine below_set ?_ GE151.out | refine below_set ?_ GE158.out) | exact HB.out)) hb)
                     have n5_ := Aside0.mk (hbox)
                     have n6_ := Aside0.mk ((by rw [hg]; exact (below_size (by repeat (first | (with_reducible first | exact HB.out | apply below_alloc | apply pw_below_drewN | apply below_drew1 | refine below_set ?_ GE151.out | refine below_set ?_ GE158.out) | exact HB.out))) : w.heap.size ≤ gb172))
                     have n7_ := Aside0.mk ((by rw [hg]; exact (below_size (by repeat (first | (with_reducible first | exact HB.out | apply below_alloc | apply pw_below_drewN | apply below_drew1 | refine below_set ?_ GE151.out | refine below_set ?_ GE158.out) | exact HB.out))) : w.heap.size ≤ gb172))
                     have n8_ := Aside0.mk ((by rw [hg]; exact Nat.ne_of_lt (blk_lt (g := gb151) (o := .cells #[.int .i64 x152000_1, .slice Ao22 x152001_1.length co22] 24 (0, 0)) (by (with_reducible repeat (first | refine blk_drewN ?_ _ | refine blk_drew ?_ | refine blk_alloc ?_ _)); exact BK151.out)) : gb151 ≠ gb172))
                     have n9_ := Aside0.mk ((by rw [hg]; exact Nat.ne_of_gt (blk_lt (g := gb151) (o := .cells #[.int .i64 x152000_1, .slice Ao22 x152001_1.length co22] 24 (0, 0)) (by (with_reducible repeat (first | refine blk_drewN ?_ _ | refine blk_drew ?_ | refine blk_alloc ?_ _)); exact BK151.out)) : gb172 ≠ gb151))
                     have n10_ := Aside0.mk ((by rw [hg]; exact Nat.ne_of_lt (blk_lt (g := gb158) (o := .cells #[.int .i64 t153, .slice Ao28 t154.length co28] 24 (0, 0)) (by (with_reducible repeat (first | refine blk_drewN ?_ _ | refine blk_drew ?_ | refine blk_alloc ?_ _)); exact BK158.out)) : gb158 ≠ gb172))
                     have n11_ := Aside0.mk ((by rw [hg]; exact Nat.ne_of_gt (blk_lt (g := gb158) (o := .cells #[.int .i64 t153, .slice Ao28 t154.length co28] 24 (0, 0)) (by (with_reducible repeat (first | refine blk_drewN ?_ _ | refine blk_drew ?_ | refine blk_alloc ?_ _)); exact BK158.out)) : gb172 ≠ gb158))
                     clear HO_152001
                     clear HO_159001
                     clear BK151
                     clear BK158
                     clear HB
                     have HO_152001 := n0_
                     have HO_159001 := n1_
                     have BK151 := n2_
                     have BK158 := n3_
                     have HB := n4_
                     have BK172 := n5_
                     have GW172 := n6_
                     have GE172 := n7_
                     have NB151_172 := n8_
                     have NB172_151 := n9_
                     have NB158_172 := n10_
                     have NB172_158 := n11_
                     clear n0_ n1_ n2_ n3_ n4_ n5_ n6_ n7_ n8_ n9_ n10_ n11_
                     clear hb hbox hg
                     refine hK.out _ _ ⟨(blk_cell BK158.out 0).trans rfl, (blk_cell BK158.out 1).trans rfl, ((HB.out.cell (World.block_lt_of_cell? w _ hw166_0)).trans hw166_0), ((HB.out.cell (World.block_lt_of_cell? w _ hw166_1)).trans hw166_1), ((HB.out.cell (World.block_lt_of_cell? w _ hw166_2)).trans hw166_2), ((HB.out.cell (World.block_lt_of_cell? w _ hw166_3)).trans hw166_3)⟩ (fun hHeld => ?_)
                     clear hK K
                     refine norm_ (a' := ?_) ?_ ?_
                     rotate_left
                     ·show Act.put _ (some 17) _ = _
                      simp only [Act.put, List.setIfInBounds_toArray, List.set_cons_zero, List.set_cons_succ, i64_w, i32_w]
                      rfl
                     refine one_ (i := 5) (N := some 128) #[true, true, true, true, true, true, false, false, false, true, false, false] rfl rfl (one_of HT_.out (by kernel_rfl)) (by decide) (fun K hK => ?_)
                     refine goes_ Try.func22 (by kernel_rfl) rfl #[.agg #[.int .i64 t153, .slice Ao28 t154.length co28], .agg #[.int .u8 ((rd_T39 l3 x12_1).f0), .int .i64 ((rd_T39 l3 x12_1).f1), .int .i64 ((rd_T39 l3 x12_1).f2), .int .u64 ((rd_T39 l3 x12_1).f3)]] (by rfl) rfl rfl (by (try simp only [List.map_toArray, List.map_cons, List.map_nil]); first | done | rfl | (simp only [List.length_drop, List.length_take]; rfl)) ?_
                     with_reducible refine (meta_Apply.calls k4 t153 _ _ t154 ((rd_T39 l3 x12_1).f0) ((rd_T39 l3 x12_1).f1) ((rd_T39 l3 x12_1).f2) ((rd_T39 l3 x12_1).f3) t167 t168 t171 _ ?side1 ?side2 A59.out).mono ?_
                     (case side1 => repeat (first | exact (Kd.S_reads' HO_159001.out).2.2 | (with_reducible refine Kd.C_alloc ?_ _) | (with_reducible refine Kd.C_drewN ?_ _) | (with_reducible refine Kd.C_drew ?_)))
                     (case side2 => exact (Kd.S_reads' HO_159001.out).2.1)
                     rintro e w65 ⟨v169, rfl, ho0, hb⟩
                     refine ⟨_, rfl, ?_⟩
                     have n0_ := Aside0.mk (Kd.S_elder' (by (with_reducible repeat (first | apply Kd.S_alloc | apply Kd.S_drewN | apply Kd.S_drew)); exact HO_152001.out) (Kd.S_base ho0) hb)
                     have n1_ := Aside0.mk (Kd.S_elder' (by (with_reducible repeat (first | apply Kd.S_alloc | apply Kd.S_drewN | apply Kd.S_drew)); exact HO_159001.out) (Kd.S_base ho0) hb)
                     have n2_ := Aside0.mk (Kd.S_lower (Kd.S_new' (Kd.S_new' ho0 (Kd.S_lt (by (with_reducible repeat (first | apply Kd.S_alloc | apply Kd.S_drewN | apply Kd.S_drew)); exact HO_152001.out))) (Kd.S_lt (by (with_reducible repeat (first | apply Kd.S_alloc | apply Kd.S_drewN | apply Kd.S_drew)); exact HO_159001.out))) (below_size (by repeat (first | (with_reducible first | exact HB.out | apply below_alloc | apply pw_below_drewN | apply below_drew1 | refine below_set ?_ GE151.out | refine below_set ?_ GE158.out | refine below_set ?_ GE172.out) | exact HB.out))))
                     have n3_ := Aside0.mk (blk_below (g := gb151) (o := .cells #[.int .i64 x152000_1, .slice Ao22 x152001_1.length co22] 24 (0, 0)) (by (with_reducible repeat (first | refine blk_drewN ?_ _ | refine blk_drew ?_ | refine blk_alloc ?_ _)); exact BK151.out) hb)
                     have n4_ := Aside0.mk (blk_below (g := gb158) (o := .cells #[.int .i64 t153, .slice Ao28 t154.length co28] 24 (0, 0)) (by (with_reducible repeat (first | refine blk_drewN ?_ _ | refine blk_drew ?_ | refine blk_alloc ?_ _)); exact BK158.out) hb)
                     have n5_ := Aside0.mk (blk_below (g := gb172) (o := .cells #[.int .i64 0, .slice none 0 0] 24 (0, 0)) (by (with_reducible repeat (first | refine blk_drewN ?_ _ | refine blk_drew ?_ | refine blk_alloc ?_ _)); exact BK172.out) hb)
                     have n6_ := Aside0.mk (below_step (by repeat (first | (with_reducible first | exact HB.out | apply below_alloc | apply pw_below_drewN | apply below_drew1 | refine below_set ?_ GE151.out | refine below_set ?_ GE158.out | refine below_set ?_ GE172.out) | exact HB.out)) hb)
                     clear HO_152001
                     clear HO_159001
                     clear BK151
                     clear BK158
                     clear BK172
                     clear HB
                     have HO_152001 := n0_
                     have HO_159001 := n1_
                     have HO170 := n2_
                     have BK151 := n3_
                     have BK158 := n4_
                     have BK172 := n5_
                     have HB := n6_
                     clear n0_ n1_ n2_ n3_ n4_ n5_ n6_
                     (try clear hb)
                     (try clear hb2)
                     (try clear hk)
                     (try clear hi)
                     (try clear ho0)
                     refine hK.out _ _ ⟨(blk_cell BK158.out 0).trans rfl, (blk_cell BK158.out 1).trans rfl, ((HB.out.cell (World.block_lt_of_cell? w _ hw166_0)).trans hw166_0), ((HB.out.cell (World.block_lt_of_cell? w _ hw166_1)).trans hw166_1), ((HB.out.cell (World.block_lt_of_cell? w _ hw166_2)).trans hw166_2), ((HB.out.cell (World.block_lt_of_cell? w _ hw166_3)).trans hw166_3)⟩ (fun hHeld => ?_)
                     clear hK K
                     refine norm_ (a' := ?_) ?_ ?_
                     rotate_left
                     ·show Act.put _ (some 128) _ = _
                      simp only [Act.put, List.setIfInBounds_toArray, List.set_cons_zero, List.set_cons_succ, i64_w, i32_w]
                      rfl
                     refine pure_ (i := 6) (N := some 122) (v := ?_) (a' := ?_) #[true, true, true, true, true, true, true, false, false, true, false, false] rfl rfl (any_of HT_.out (by kernel_rfl)) (fun _ _ _ h => h) (Or.inl ⟨by rfl, ?_⟩) ?_ ?_
                     rotate_left
                     ·intro w'
                      go_simp
                      with_reducible rfl
                     rotate_left
                     ·simp only [Act.put, List.setIfInBounds_toArray, List.set_cons_zero, List.set_cons_succ, i64_w, i32_w]
                      rfl
                     refine pure_ (i := 7) (N := some 129) (v := ?_) (a' := ?_) #[true, true, true, true, true, true, true, true, false, true, false, false] rfl rfl (any_of HT_.out (by kernel_rfl)) (fun _ _ _ h => h) (Or.inl ⟨by rfl, ?_⟩) ?_ ?_
                     rotate_left
                     ·intro w'
                      go_simp
                      with_reducible rfl
                     rotate_left
                     ·simp only [Act.put, List.setIfInBounds_toArray, List.set_cons_zero, List.set_cons_succ, i64_w, i32_w]
                      rfl
                     refine pure_ (i := 8) (N := some 130) (v := ?_) (a' := ?_) #[true, true, true, true, true, true, true, true, true, true, false, false] rfl rfl (any_of HT_.out (by kernel_rfl)) (fun _ _ _ h => h) (Or.inl ⟨by rfl, ?_⟩) ?_ ?_
                     rotate_left
                     ·intro w'
                      go_simp
                      with_reducible rfl
                     rotate_left
                     ·simp only [Act.put, List.setIfInBounds_toArray, List.set_cons_zero, List.set_cons_succ, i64_w, i32_w]
                      rfl
                     exact norm_ (by simp only [putAll, Act.put, List.setIfInBounds_toArray, List.set_cons_zero, List.set_cons_succ]) (hCont (v169, gb172) _ ⟨hHeld, (by (with_reducible repeat (first | apply Kd.S_alloc | apply Kd.S_drewN | apply Kd.S_drew)); exact Kd.S_mono HO170.out (fun _ hk => ⟨hk.1.2, hk.2⟩)), (by (with_reducible repeat (first | apply Kd.S_alloc | apply Kd.S_drewN | apply Kd.S_drew)); exact Kd.S_mono HO_152001.out (fun _ hk => ⟨hk.2, hk.1⟩)), (by (with_reducible repeat (first | apply Kd.S_alloc | apply Kd.S_drewN | apply Kd.S_drew)); exact Kd.S_mono HO_159001.out (fun _ hk => ⟨hk.2, hk.1⟩)), (by (with_reducible repeat (first | refine blk_drewN ?_ _ | refine blk_drew ?_ | refine blk_alloc ?_ _)); exact BK151.out), (by (with_reducible repeat (first | refine blk_drewN ?_ _ | refine blk_drew ?_ | refine blk_alloc ?_ _)); exact BK158.out), (by (with_reducible repeat (first | refine blk_drewN ?_ _ | refine blk_drew ?_ | refine blk_alloc ?_ _)); exact BK172.out), GW172.out, GE172.out, NB151_172.out, NB172_151.out, NB158_172.out, NB172_158.out, (by repeat (first | (with_reducible first | exact HB.out | apply below_alloc | apply pw_below_drewN | apply below_drew1 | refine below_set ?_ GE151.out | refine below_set ?_ GE158.out | refine below_set ?_ GE172.out) | exact HB.out))⟩)
                   rintro ⟨v169, gb172⟩ w66 ⟨hS_, h0_, h1_, h2_, h3_, h4_, h5_, h6_, h7_, h8_, h9_, h10_, h11_, h12_⟩
                   have n0_ : Aside0 (Kd.S k42 42 w66 w.heap.size (fun k_ => some k_ ≠ (.slice Ao22 x152001_1.length co22 : Value).ownBlock ∧ some k_ ≠ (.slice Ao28 t154.length co28 : Value).ownBlock) v169 t168) := ⟨h0_⟩
                   have n1_ : Aside0 (Kd.S k42 42 w66 w.heap.size (fun k_ => some k_ ≠ (v169 : Value).ownBlock ∧ some k_ ≠ (.slice Ao28 t154.length co28 : Value).ownBlock) (.slice Ao22 x152001_1.length co22) x152001_1) := ⟨h1_⟩
                   have n2_ : Aside0 (Kd.S k42 42 w66 w.heap.size (fun k_ => some k_ ≠ (v169 : Value).ownBlock ∧ some k_ ≠ (.slice Ao22 x152001_1.length co22 : Value).ownBlock) (.slice Ao28 t154.length co28) t154) := ⟨h2_⟩
                   have n3_ : Aside0 (w66.heap[gb151]? = some (.cells #[.int .i64 x152000_1, .slice Ao22 x152001_1.length co22] 24 (0, 0))) := ⟨h3_⟩
                   have n4_ : Aside0 (w66.heap[gb158]? = some (.cells #[.int .i64 t153, .slice Ao28 t154.length co28] 24 (0, 0))) := ⟨h4_⟩
                   have n5_ : Aside0 (w66.heap[gb172]? = some (.cells #[.int .i64 0, .slice none 0 0] 24 (0, 0))) := ⟨h5_⟩
                   have n6_ : Aside0 (w.heap.size ≤ gb172) := ⟨h6_⟩
                   have n7_ : Aside0 (w.heap.size ≤ gb172) := ⟨h7_⟩
                   have n8_ : Aside0 (gb151 ≠ gb172) := ⟨h8_⟩
                   have n9_ : Aside0 (gb172 ≠ gb151) := ⟨h9_⟩
                   have n10_ : Aside0 (gb158 ≠ gb172) := ⟨h10_⟩
                   have n11_ : Aside0 (gb172 ≠ gb158) := ⟨h11_⟩
                   have n12_ : Aside0 (Below w.heap.size w w66) := ⟨h12_⟩
                   clear HO_152001
                   clear HO_159001
                   clear BK151
                   clear BK158
                   clear HB
                   clear h0_ h1_ h2_ h3_ h4_ h5_ h6_ h7_ h8_ h9_ h10_ h11_ h12_
                   have HO170 := n0_
                   have HO_152001 := n1_
                   have HO_159001 := n2_
                   have BK151 := n3_
                   have BK158 := n4_
                   have BK172 := n5_
                   have GW172 := n6_
                   have GE172 := n7_
                   have NB151_172 := n8_
                   have NB172_151 := n9_
                   have NB158_172 := n10_
                   have NB172_158 := n11_
                   have HB := n12_
                   clear n0_ n1_ n2_ n3_ n4_ n5_ n6_ n7_ n8_ n9_ n10_ n11_ n12_
                   have hHeld : w66.cell? ⟨gb158, 0, none⟩ = some (.int .i64 t153) ∧ w66.cell? ⟨gb158, 1, none⟩ = some (.slice Ao28 t154.length co28) ∧ w66.cell? (ad152.add ((x12_1).toNat * 4)) = some (.int .u8 ((rd_T39 l3 x12_1).f0)) ∧ w66.cell? ⟨(ad152.add ((x12_1).toNat * 4)).block, (ad152.add ((x12_1).toNat * 4)).off + 1, none⟩ = some (.int .i64 ((rd_T39 l3 x12_1).f1)) ∧ w66.cell? ⟨(ad152.add ((x12_1).toNat * 4)).block, (ad152.add ((x12_1).toNat * 4)).off + 2, none⟩ = some (.int .i64 ((rd_T39 l3 x12_1).f2)) ∧ w66.cell? ⟨(ad152.add ((x12_1).toNat * 4)).block, (ad152.add ((x12_1).toNat * 4)).off + 3, none⟩ = some (.int .u64 ((rd_T39 l3 x12_1).f3)) := hS_
                   obtain ⟨Ao68, co68, eo68⟩ := Kd.S_slice HO170.out
                   (first | subst eo68 | (injection eo68 with f1_ f2_ f3_; have f4_ := f1_.symm; have f5_ := f3_.symm; clear f1_ f2_ f3_; subst f4_; subst f5_))
                   refine norm_ (a' := ?_) ?_ ?_
                   rotate_left
                   ·simp only [putAll, Act.put, List.setIfInBounds_toArray, List.set_cons_zero, List.set_cons_succ]
                    rfl
                   refine one_ (i := 10) (N := none) #[true, true, true, true, true, true, true, true, true, true, true, false] rfl rfl (one_of HT_.out (by kernel_rfl)) (by decide) (fun K hK => ?_)
                   have hs67 : w66.cell? ⟨gb172, 0, none⟩ = some (.int .i64 0) := (blk_cell BK172.out 0).trans rfl
                   have hfs67 := blk_frozen BK172.out 0
                   have hns67_0 := NB151_172.out
                   have hns67_1 := NB158_172.out
                   have hms67_0 := NB172_151.out
                   have hms67_1 := NB172_158.out
                   have hs69 : w66.cell? ⟨gb172, 1, none⟩ = some (.slice none 0 0) := (blk_cell BK172.out 1).trans rfl
                   have hfs69 := blk_frozen BK172.out 1
                   have hns69_0 := NB151_172.out
                   have hns69_1 := NB158_172.out
                   have hms69_0 := NB172_151.out
                   have hms69_1 := NB172_158.out
                   refine skip_ (w1 := ?_) (by rfl) rfl ?_ ?_
                   rotate_left
                   ·go_simp
                    rfl
                   refine hK.out _ _ ⟨((cell_far (p := ⟨gb172, _, none⟩) NB158_172.out _).trans (((cell_far (p := ⟨gb172, _, none⟩) NB158_172.out _).trans (hHeld.1)))), ((cell_far (p := ⟨gb172, _, none⟩) NB158_172.out _).trans (((cell_far (p := ⟨gb172, _, none⟩) NB158_172.out _).trans (hHeld.2.1)))), ((cell_far (p := ⟨gb172, _, none⟩) (by first | exact Nat.ne_of_lt (Nat.lt_of_lt_of_le (by have := World.block_lt_of_cell? _ _ hw166_0; first | rwa [add_block] at this | exact this) GW172.out) | (rw [add_block]; exact Nat.ne_of_lt (Nat.lt_of_lt_of_le (by have := World.block_lt_of_cell? _ _ hw166_0; first | rwa [add_block] at this | exact this) GW172.out)) | (show (Addr.add _ _).block ≠ _; rw [add_block]; exact Nat.ne_of_lt (Nat.lt_of_lt_of_le (by have := World.block_lt_of_cell? _ _ hw166_0; first | rwa [add_block] at this | exact this) GW172.out)) | (dsimp only; exact Nat.ne_of_lt (Nat.lt_of_lt_of_le (by have := World.block_lt_of_cell? _ _ hw166_0; first | rwa [add_block] at this | exact this) GW172.out))) _).trans (((cell_far (p := ⟨gb172, _, none⟩) (by first | exact Nat.ne_of_lt (Nat.lt_of_lt_of_le (by have := World.block_lt_of_cell? _ _ hw166_0; first | rwa [add_block] at this | exact this) GW172.out) | (rw [add_block]; exact Nat.ne_of_lt (Nat.lt_of_lt_of_le (by have := World.block_lt_of_cell? _ _ hw166_0; first | rwa [add_block] at this | exact this) GW172.out)) | (show (Addr.add _ _).block ≠ _; rw [add_block]; exact Nat.ne_of_lt (Nat.lt_of_lt_of_le (by have := World.block_lt_of_cell? _ _ hw166_0; first | rwa [add_block] at this | exact this) GW172.out)) | (dsimp only; exact Nat.ne_of_lt (Nat.lt_of_lt_of_le (by have := World.block_lt_of_cell? _ _ hw166_0; first | rwa [add_block] at this | exact this) GW172.out))) _).trans (hHeld.2.2.1)))), ((cell_far (p := ⟨gb172, _, none⟩) (by first | exact Nat.ne_of_lt (Nat.lt_of_lt_of_le (by have := World.block_lt_of_cell? _ _ hw166_1; first | rwa [add_block] at this | exact this) GW172.out) | (rw [add_block]; exact Nat.ne_of_lt (Nat.lt_of_lt_of_le (by have := World.block_lt_of_cell? _ _ hw166_1; first | rwa [add_block] at this | exact this) GW172.out)) | (show (Addr.add _ _).block ≠ _; rw [add_block]; exact Nat.ne_of_lt (Nat.lt_of_lt_of_le (by have := World.block_lt_of_cell? _ _ hw166_1; first | rwa [add_block] at this | exact this) GW172.out)) | (dsimp only; exact Nat.ne_of_lt (Nat.lt_of_lt_of_le (by have := World.block_lt_of_cell? _ _ hw166_1; first | rwa [add_block] at this | exact this) GW172.out))) _).trans (((cell_far (p := ⟨gb172, _, none⟩) (by first | exact Nat.ne_of_lt (Nat.lt_of_lt_of_le (by have := World.block_lt_of_cell? _ _ hw166_1; first | rwa [add_block] at this | exact this) GW172.out) | (rw [add_block]; exact Nat.ne_of_lt (Nat.lt_of_lt_of_le (by have := World.block_lt_of_cell? _ _ hw166_1; first | rwa [add_block] at this | exact this) GW172.out)) | (show (Addr.add _ _).block ≠ _; rw [add_block]; exact Nat.ne_of_lt (Nat.lt_of_lt_of_le (by have := World.block_lt_of_cell? _ _ hw166_1; first | rwa [add_block] at this | exact this) GW172.out)) | (dsimp only; exact Nat.ne_of_lt (Nat.lt_of_lt_of_le (by have := World.block_lt_of_cell? _ _ hw166_1; first | rwa [add_block] at this | exact this) GW172.out))) _).trans (hHeld.2.2.2.1)))), ((cell_far (p := ⟨gb172, _, none⟩) (by first | exact Nat.ne_of_lt (Nat.lt_of_lt_of_le (by have := World.block_lt_of_cell? _ _ hw166_2; first | rwa [add_block] at this | exact this) GW172.out) | (rw [add_block]; exact Nat.ne_of_lt (Nat.lt_of_lt_of_le (by have := World.block_lt_of_cell? _ _ hw166_2; first | rwa [add_block] at this | exact this) GW172.out)) | (show (Addr.add _ _).block ≠ _; rw [add_block]; exact Nat.ne_of_lt (Nat.lt_of_lt_of_le (by have := World.block_lt_of_cell? _ _ hw166_2; first | rwa [add_block] at this | exact this) GW172.out)) | (dsimp only; exact Nat.ne_of_lt (Nat.lt_of_lt_of_le (by have := World.block_lt_of_cell? _ _ hw166_2; first | rwa [add_block] at this | exact this) GW172.out))) _).trans (((cell_far (p := ⟨gb172, _, none⟩) (by first | exact Nat.ne_of_lt (Nat.lt_of_lt_of_le (by have := World.block_lt_of_cell? _ _ hw166_2; first | rwa [add_block] at this | exact this) GW172.out) | (rw [add_block]; exact Nat.ne_of_lt (Nat.lt_of_lt_of_le (by have := World.block_lt_of_cell? _ _ hw166_2; first | rwa [add_block] at this | exact this) GW172.out)) | (show (Addr.add _ _).block ≠ _; rw [add_block]; exact Nat.ne_of_lt (Nat.lt_of_lt_of_le (by have := World.block_lt_of_cell? _ _ hw166_2; first | rwa [add_block] at this | exact this) GW172.out)) | (dsimp only; exact Nat.ne_of_lt (Nat.lt_of_lt_of_le (by have := World.block_lt_of_cell? _ _ hw166_2; first | rwa [add_block] at this | exact this) GW172.out))) _).trans (hHeld.2.2.2.2.1)))), ((cell_far (p := ⟨gb172, _, none⟩) (by first | exact Nat.ne_of_lt (Nat.lt_of_lt_of_le (by have := World.block_lt_of_cell? _ _ hw166_3; first | rwa [add_block] at this | exact this) GW172.out) | (rw [add_block]; exact Nat.ne_of_lt (Nat.lt_of_lt_of_le (by have := World.block_lt_of_cell? _ _ hw166_3; first | rwa [add_block] at this | exact this) GW172.out)) | (show (Addr.add _ _).block ≠ _; rw [add_block]; exact Nat.ne_of_lt (Nat.lt_of_lt_of_le (by have := World.block_lt_of_cell? _ _ hw166_3; first | rwa [add_block] at this | exact this) GW172.out)) | (dsimp only; exact Nat.ne_of_lt (Nat.lt_of_lt_of_le (by have := World.block_lt_of_cell? _ _ hw166_3; first | rwa [add_block] at this | exact this) GW172.out))) _).trans (((cell_far (p := ⟨gb172, _, none⟩) (by first | exact Nat.ne_of_lt (Nat.lt_of_lt_of_le (by have := World.block_lt_of_cell? _ _ hw166_3; first | rwa [add_block] at this | exact this) GW172.out) | (rw [add_block]; exact Nat.ne_of_lt (Nat.lt_of_lt_of_le (by have := World.block_lt_of_cell? _ _ hw166_3; first | rwa [add_block] at this | exact this) GW172.out)) | (show (Addr.add _ _).block ≠ _; rw [add_block]; exact Nat.ne_of_lt (Nat.lt_of_lt_of_le (by have := World.block_lt_of_cell? _ _ hw166_3; first | rwa [add_block] at this | exact this) GW172.out)) | (dsimp only; exact Nat.ne_of_lt (Nat.lt_of_lt_of_le (by have := World.block_lt_of_cell? _ _ hw166_3; first | rwa [add_block] at this | exact this) GW172.out))) _).trans (hHeld.2.2.2.2.2))))⟩ (fun hHeld => ?_)
                   clear hK K
                   refine pure_ (i := 11) (N := some 18) (v := ?_) (a' := ?_) #[true, true, true, true, true, true, true, true, true, true, true, true] rfl rfl (any_of HT_.out (by kernel_rfl)) (fun _ _ _ h => h) (Or.inl ⟨by rfl, ?_⟩) ?_ ?_
                   rotate_left
                   ·intro w'
                    go_simp
                    with_reducible rfl
                   rotate_left
                   ·simp only [Act.put, List.setIfInBounds_toArray, List.set_cons_zero, List.set_cons_succ, i64_w, i32_w]
                    rfl
                   refine done_ (done_of HT_.out (by kernel_rfl)) ?_
                   go_upto_region 22 with (fail)
                   go_cut [148] (fun v148 wc => ∃ (kq : Nat) (x148_59 : Bool), v148 = .bool x148_59 ∧ Aside0 (fascinelaw14_MetaStays.j5 kq l3 x12_1 x148_59 t153 t154 = some r) ∧ Aside0 (kq ≤ k4) ∧ Aside0 (Kd.S k42 42 wc w.heap.size (fun k_ => some k_ ≠ ((.slice Ao28 t154.length co28) : Value).ownBlock ∧ some k_ ≠ ((.slice Ao68 t168.length co68) : Value).ownBlock) (.slice Ao22 x152001_1.length co22) x152001_1) ∧ Aside0 (Kd.S k42 42 wc w.heap.size (fun k_ => some k_ ≠ ((.slice Ao22 x152001_1.length co22) : Value).ownBlock ∧ some k_ ≠ ((.slice Ao68 t168.length co68) : Value).ownBlock) (.slice Ao28 t154.length co28) t154) ∧ Aside0 (Kd.S k42 42 wc w.heap.size (fun k_ => some k_ ≠ ((.slice Ao22 x152001_1.length co22) : Value).ownBlock ∧ some k_ ≠ ((.slice Ao28 t154.length co28) : Value).ownBlock) (.slice Ao68 t168.length co68) t168) ∧ Aside0 (wc.heap[gb151]? = some (.cells #[.int .i64 x152000_1, (.slice Ao22 x152001_1.length co22)] 24 (0, 0))) ∧ Aside0 (wc.heap[gb158]? = some (.cells #[.int .i64 t153, (.slice Ao28 t154.length co28)] 24 (0, 0))) ∧ Aside0 (wc.heap[gb172]? = some (.cells #[.int .i64 t167, (.slice Ao68 t168.length co68)] 24 (0, 0))) ∧ Aside0 (Below w.heap.size w wc))
                   case first =>
                    have H := HC60.out
                    clear HC60
                    by_cases c70 : (t157 != (x15_4 == 1)) = true
                    ·rw [if_pos c70] at H
                     have c70b0 : (t157 != (x15_4 == 1)) = true := c70
                     (try (have c70b1 : decide (t157 = (x15_4 == 1)) = false := by simpa using c70))
                     (try (have c70b2 : (t157 == (x15_4 == 1)) = false := by simpa using c70))
                     (try (have c70b3 : ¬ (t157 = (x15_4 == 1)) := by simpa using c70))
                     clear c70
                     (first | rw [c70b0] | (simp only [i64_w, i32_w]; rw [c70b0]) | skip)
                     have H' := Aside0.mk H
                     clear H
                     go_wp2
                     go_meet
                     case rel => exact ⟨_, (true), (by first | rfl | (simp; done) | (simp [*]; done)), H', ⟨by have := HK1.out; have := HJ14.out; have := HJ20.out; have := HK4.out; first | omega | exact Nat.le_refl _⟩, ⟨by (with_reducible repeat (first | apply Kd.S_alloc | apply Kd.S_drewN | apply Kd.S_drew)); exact Kd.S_mono (Kd.S_far (p := ⟨gb172, 1, none⟩) (Kd.S_far (p := ⟨gb172, 0, none⟩) (Kd.S_types HO_152001.out BK172.out (by decide)) (fun _ hk => hk.2) (.int .i64 t167)) (fun _ hk => hk.2) (.slice Ao68 t168.length co68)) (fun _ hk => ⟨hk.1.2, hk.1.1⟩)⟩, ⟨by (with_reducible repeat (first | apply Kd.S_alloc | apply Kd.S_drewN | apply Kd.S_drew)); exact Kd.S_mono (Kd.S_far (p := ⟨gb172, 1, none⟩) (Kd.S_far (p := ⟨gb172, 0, none⟩) (Kd.S_types HO_159001.out BK172.out (by decide)) (fun _ hk => hk.2) (.int .i64 t167)) (fun _ hk => hk.2) (.slice Ao68 t168.length co68)) (fun _ hk => ⟨hk.1.2, hk.1.1⟩)⟩, ⟨by (with_reducible repeat (first | apply Kd.S_alloc | apply Kd.S_drewN | apply Kd.S_drew)); exact Kd.S_mono (Kd.S_far (p := ⟨gb172, 1, none⟩) (Kd.S_far (p := ⟨gb172, 0, none⟩) (Kd.S_types HO170.out BK172.out (by decide)) (fun _ hk => hk.2) (.int .i64 t167)) (fun _ hk => hk.2) (.slice Ao68 t168.length co68)) (fun _ hk => ⟨hk.1.1, hk.1.2⟩)⟩, ⟨by (with_reducible repeat (first | refine blk_drewN ?_ _ | refine blk_drew ?_ | refine blk_alloc ?_ _)); refine blk_far ?_ NB151_172.out _; (with_reducible repeat (first | refine blk_drewN ?_ _ | refine blk_drew ?_ | refine blk_alloc ?_ _)); refine blk_far ?_ NB151_172.out _; (with_reducible repeat (first | refine blk_drewN ?_ _ | refine blk_drew ?_ | refine blk_alloc ?_ _)); exact BK151.out⟩, ⟨by (with_reducible repeat (first | refine blk_drewN ?_ _ | refine blk_drew ?_ | refine blk_alloc ?_ _)); refine blk_far ?_ NB158_172.out _; (with_reducible repeat (first | refine blk_drewN ?_ _ | refine blk_drew ?_ | refine blk_alloc ?_ _)); refine blk_far ?_ NB158_172.out _; (with_reducible repeat (first | refine blk_drewN ?_ _ | refine blk_drew ?_ | refine blk_alloc ?_ _)); exact BK158.out⟩, ⟨by (with_reducible repeat (first | refine blk_drewN ?_ _ | refine blk_drew ?_ | refine blk_alloc ?_ _)); refine blk_put (cs := #[.int .i64 t167, .slice none 0 0]) ?_ 1 _ rfl; (with_reducible repeat (first | refine blk_drewN ?_ _ | refine blk_drew ?_ | refine blk_alloc ?_ _)); refine blk_put (cs := #[.int .i64 0, .slice none 0 0]) ?_ 0 _ rfl; (with_reducible repeat (first | refine blk_drewN ?_ _ | refine blk_drew ?_ | refine blk_alloc ?_ _)); exact BK172.out⟩, ⟨by repeat (first | (with_reducible first | exact HB.out | apply below_alloc | apply pw_below_drewN | apply below_drew1 | refine below_set ?_ GE151.out | refine below_set ?_ GE158.out | refine below_set ?_ GE172.out) | exact HB.out)⟩⟩
                    ·rw [if_neg c70] at H
                     have c70b0 : (t157 != (x15_4 == 1)) = false := (by first | exact Bool.eq_false_iff.mpr c70 | simpa using c70)
                     (try (have c70b1 : decide (t157 = (x15_4 == 1)) = true := by simpa using c70))
                     (try (have c70b2 : (t157 == (x15_4 == 1)) = true := by simpa using c70))
                     clear c70
                     (first | rw [c70b0] | (simp only [i64_w, i32_w]; rw [c70b0]) | skip)
                     by_cases c71 : t157 = true
                     ·subst c71
                      have H1 : (fascinelaw14_MetaStays.j5 k4 l3 x12_1 t171 t153 t154) = some r := by rw [if_pos rfl] at H; exact H
                      clear H
                      have H := H1
                      clear H1
                      have H' := Aside0.mk H
                      clear H
                      go_wp2
                      go_meet
                      case rel => exact ⟨_, (t171), (by first | rfl | (simp; done) | (simp [*]; done)), H', ⟨by have := HK1.out; have := HJ14.out; have := HJ20.out; have := HK4.out; first | omega | exact Nat.le_refl _⟩, ⟨by (with_reducible repeat (first | apply Kd.S_alloc | apply Kd.S_drewN | apply Kd.S_drew)); exact Kd.S_mono (Kd.S_far (p := ⟨gb172, 1, none⟩) (Kd.S_far (p := ⟨gb172, 0, none⟩) (Kd.S_types HO_152001.out BK172.out (by decide)) (fun _ hk => hk.2) (.int .i64 t167)) (fun _ hk => hk.2) (.slice Ao68 t168.length co68)) (fun _ hk => ⟨hk.1.2, hk.1.1⟩)⟩, ⟨by (with_reducible repeat (first | apply Kd.S_alloc | apply Kd.S_drewN | apply Kd.S_drew)); exact Kd.S_mono (Kd.S_far (p := ⟨gb172, 1, none⟩) (Kd.S_far (p := ⟨gb172, 0, none⟩) (Kd.S_types HO_159001.out BK172.out (by decide)) (fun _ hk => hk.2) (.int .i64 t167)) (fun _ hk => hk.2) (.slice Ao68 t168.length co68)) (fun _ hk => ⟨hk.1.2, hk.1.1⟩)⟩, ⟨by (with_reducible repeat (first | apply Kd.S_alloc | apply Kd.S_drewN | apply Kd.S_drew)); exact Kd.S_mono (Kd.S_far (p := ⟨gb172, 1, none⟩) (Kd.S_far (p := ⟨gb172, 0, none⟩) (Kd.S_types HO170.out BK172.out (by decide)) (fun _ hk => hk.2) (.int .i64 t167)) (fun _ hk => hk.2) (.slice Ao68 t168.length co68)) (fun _ hk => ⟨hk.1.1, hk.1.2⟩)⟩, ⟨by (with_reducible repeat (first | refine blk_drewN ?_ _ | refine blk_drew ?_ | refine blk_alloc ?_ _)); refine blk_far ?_ NB151_172.out _; (with_reducible repeat (first | refine blk_drewN ?_ _ | refine blk_drew ?_ | refine blk_alloc ?_ _)); refine blk_far ?_ NB151_172.out _; (with_reducible repeat (first | refine blk_drewN ?_ _ | refine blk_drew ?_ | refine blk_alloc ?_ _)); exact BK151.out⟩, ⟨by (with_reducible repeat (first | refine blk_drewN ?_ _ | refine blk_drew ?_ | refine blk_alloc ?_ _)); refine blk_far ?_ NB158_172.out _; (with_reducible repeat (first | refine blk_drewN ?_ _ | refine blk_drew ?_ | refine blk_alloc ?_ _)); refine blk_far ?_ NB158_172.out _; (with_reducible repeat (first | refine blk_drewN ?_ _ | refine blk_drew ?_ | refine blk_alloc ?_ _)); exact BK158.out⟩, ⟨by (with_reducible repeat (first | refine blk_drewN ?_ _ | refine blk_drew ?_ | refine blk_alloc ?_ _)); refine blk_put (cs := #[.int .i64 t167, .slice none 0 0]) ?_ 1 _ rfl; (with_reducible repeat (first | refine blk_drewN ?_ _ | refine blk_drew ?_ | refine blk_alloc ?_ _)); refine blk_put (cs := #[.int .i64 0, .slice none 0 0]) ?_ 0 _ rfl; (with_reducible repeat (first | refine blk_drewN ?_ _ | refine blk_drew ?_ | refine blk_alloc ?_ _)); exact BK172.out⟩, ⟨by repeat (first | (with_reducible first | exact HB.out | apply below_alloc | apply pw_below_drewN | apply below_drew1 | refine below_set ?_ GE151.out | refine below_set ?_ GE158.out | refine below_set ?_ GE172.out) | exact HB.out)⟩⟩
                     ·replace c71 := Bool.eq_false_iff.mpr c71
                      subst c71
                      have H1 : (if x15_4 > 0 then (fascinelaw14_MetaStays.j5 k4 l3 x12_1 true t153 t154) else (fascinelaw14_MetaStays.j5 k4 l3 x12_1 false t153 t154)) = some r := by rw [if_neg (show ¬ (false = true) by decide)] at H; exact H
                      clear H
                      have H := H1
                      clear H1
                      by_cases c72 : x15_4 > 0
                      ·rw [if_pos c72] at H
                       have c72b0 : decide (0 < x15_4) = true := decide_eq_true c72
                       clear c72
                       have H' := Aside0.mk H
                       clear H
                       go_wp2
                       go_meet
                       case rel => exact ⟨_, (true), (by first | rfl | (simp; done) | (simp [*]; done)), H', ⟨by have := HK1.out; have := HJ14.out; have := HJ20.out; have := HK4.out; first | omega | exact Nat.le_refl _⟩, ⟨by (with_reducible repeat (first | apply Kd.S_alloc | apply Kd.S_drewN | apply Kd.S_drew)); exact Kd.S_mono (Kd.S_far (p := ⟨gb172, 1, none⟩) (Kd.S_far (p := ⟨gb172, 0, none⟩) (Kd.S_types HO_152001.out BK172.out (by decide)) (fun _ hk => hk.2) (.int .i64 t167)) (fun _ hk => hk.2) (.slice Ao68 t168.length co68)) (fun _ hk => ⟨hk.1.2, hk.1.1⟩)⟩, ⟨by (with_reducible repeat (first | apply Kd.S_alloc | apply Kd.S_drewN | apply Kd.S_drew)); exact Kd.S_mono (Kd.S_far (p := ⟨gb172, 1, none⟩) (Kd.S_far (p := ⟨gb172, 0, none⟩) (Kd.S_types HO_159001.out BK172.out (by decide)) (fun _ hk => hk.2) (.int .i64 t167)) (fun _ hk => hk.2) (.slice Ao68 t168.length co68)) (fun _ hk => ⟨hk.1.2, hk.1.1⟩)⟩, ⟨by (with_reducible repeat (first | apply Kd.S_alloc | apply Kd.S_drewN | apply Kd.S_drew)); exact Kd.S_mono (Kd.S_far (p := ⟨gb172, 1, none⟩) (Kd.S_far (p := ⟨gb172, 0, none⟩) (Kd.S_types HO170.out BK172.out (by decide)) (fun _ hk => hk.2) (.int .i64 t167)) (fun _ hk => hk.2) (.slice Ao68 t168.length co68)) (fun _ hk => ⟨hk.1.1, hk.1.2⟩)⟩, ⟨by (with_reducible repeat (first | refine blk_drewN ?_ _ | refine blk_drew ?_ | refine blk_alloc ?_ _)); refine blk_far ?_ NB151_172.out _; (with_reducible repeat (first | refine blk_drewN ?_ _ | refine blk_drew ?_ | refine blk_alloc ?_ _)); refine blk_far ?_ NB151_172.out _; (with_reducible repeat (first | refine blk_drewN ?_ _ | refine blk_drew ?_ | refine blk_alloc ?_ _)); exact BK151.out⟩, ⟨by (with_reducible repeat (first | refine blk_drewN ?_ _ | refine blk_drew ?_ | refine blk_alloc ?_ _)); refine blk_far ?_ NB158_172.out _; (with_reducible repeat (first | refine blk_drewN ?_ _ | refine blk_drew ?_ | refine blk_alloc ?_ _)); refine blk_far ?_ NB158_172.out _; (with_reducible repeat (first | refine blk_drewN ?_ _ | refine blk_drew ?_ | refine blk_alloc ?_ _)); exact BK158.out⟩, ⟨by (with_reducible repeat (first | refine blk_drewN ?_ _ | refine blk_drew ?_ | refine blk_alloc ?_ _)); refine blk_put (cs := #[.int .i64 t167, .slice none 0 0]) ?_ 1 _ rfl; (with_reducible repeat (first | refine blk_drewN ?_ _ | refine blk_drew ?_ | refine blk_alloc ?_ _)); refine blk_put (cs := #[.int .i64 0, .slice none 0 0]) ?_ 0 _ rfl; (with_reducible repeat (first | refine blk_drewN ?_ _ | refine blk_drew ?_ | refine blk_alloc ?_ _)); exact BK172.out⟩, ⟨by repeat (first | (with_reducible first | exact HB.out | apply below_alloc | apply pw_below_drewN | apply below_drew1 | refine below_set ?_ GE151.out | refine below_set ?_ GE158.out | refine below_set ?_ GE172.out) | exact HB.out)⟩⟩
                      ·rw [if_neg c72] at H
                       have c72b0 : decide (0 < x15_4) = false := decide_eq_false c72
                       clear c72
                       have H' := Aside0.mk H
                       clear H
                       go_wp2
                       go_meet
                       case rel => exact ⟨_, (false), (by first | rfl | (simp; done) | (simp [*]; done)), H', ⟨by have := HK1.out; have := HJ14.out; have := HJ20.out; have := HK4.out; first | omega | exact Nat.le_refl _⟩, ⟨by (with_reducible repeat (first | apply Kd.S_alloc | apply Kd.S_drewN | apply Kd.S_drew)); exact Kd.S_mono (Kd.S_far (p := ⟨gb172, 1, none⟩) (Kd.S_far (p := ⟨gb172, 0, none⟩) (Kd.S_types HO_152001.out BK172.out (by decide)) (fun _ hk => hk.2) (.int .i64 t167)) (fun _ hk => hk.2) (.slice Ao68 t168.length co68)) (fun _ hk => ⟨hk.1.2, hk.1.1⟩)⟩, ⟨by (with_reducible repeat (first | apply Kd.S_alloc | apply Kd.S_drewN | apply Kd.S_drew)); exact Kd.S_mono (Kd.S_far (p := ⟨gb172, 1, none⟩) (Kd.S_far (p := ⟨gb172, 0, none⟩) (Kd.S_types HO_159001.out BK172.out (by decide)) (fun _ hk => hk.2) (.int .i64 t167)) (fun _ hk => hk.2) (.slice Ao68 t168.length co68)) (fun _ hk => ⟨hk.1.2, hk.1.1⟩)⟩, ⟨by (with_reducible repeat (first | apply Kd.S_alloc | apply Kd.S_drewN | apply Kd.S_drew)); exact Kd.S_mono (Kd.S_far (p := ⟨gb172, 1, none⟩) (Kd.S_far (p := ⟨gb172, 0, none⟩) (Kd.S_types HO170.out BK172.out (by decide)) (fun _ hk => hk.2) (.int .i64 t167)) (fun _ hk => hk.2) (.slice Ao68 t168.length co68)) (fun _ hk => ⟨hk.1.1, hk.1.2⟩)⟩, ⟨by (with_reducible repeat (first | refine blk_drewN ?_ _ | refine blk_drew ?_ | refine blk_alloc ?_ _)); refine blk_far ?_ NB151_172.out _; (with_reducible repeat (first | refine blk_drewN ?_ _ | refine blk_drew ?_ | refine blk_alloc ?_ _)); refine blk_far ?_ NB151_172.out _; (with_reducible repeat (first | refine blk_drewN ?_ _ | refine blk_drew ?_ | refine blk_alloc ?_ _)); exact BK151.out⟩, ⟨by (with_reducible repeat (first | refine blk_drewN ?_ _ | refine blk_drew ?_ | refine blk_alloc ?_ _)); refine blk_far ?_ NB158_172.out _; (with_reducible repeat (first | refine blk_drewN ?_ _ | refine blk_drew ?_ | refine blk_alloc ?_ _)); refine blk_far ?_ NB158_172.out _; (with_reducible repeat (first | refine blk_drewN ?_ _ | refine blk_drew ?_ | refine blk_alloc ?_ _)); exact BK158.out⟩, ⟨by (with_reducible repeat (first | refine blk_drewN ?_ _ | refine blk_drew ?_ | refine blk_alloc ?_ _)); refine blk_put (cs := #[.int .i64 t167, .slice none 0 0]) ?_ 1 _ rfl; (with_reducible repeat (first | refine blk_drewN ?_ _ | refine blk_drew ?_ | refine blk_alloc ?_ _)); refine blk_put (cs := #[.int .i64 0, .slice none 0 0]) ?_ 0 _ rfl; (with_reducible repeat (first | refine blk_drewN ?_ _ | refine blk_drew ?_ | refine blk_alloc ?_ _)); exact BK172.out⟩, ⟨by repeat (first | (with_reducible first | exact HB.out | apply below_alloc | apply pw_below_drewN | apply below_drew1 | refine below_set ?_ GE151.out | refine below_set ?_ GE158.out | refine below_set ?_ GE172.out) | exact HB.out)⟩⟩
                   case rest =>
                    clear HC60
                    try clear c1
                    try clear p1
                    try clear q1
                    try clear hx1
                    try clear c2
                    try clear p2
                    try clear c4
                    try clear c5
                    try clear c6
                    try clear p6
                    try clear c7
                    try clear c16
                    try clear p16
                    try clear q16
                    try clear hx16
                    try clear c22
                    try clear c41
                    try clear c41b0
                    try clear c51
                    try clear c52
                    try clear c53
                    try clear c57
                    try clear c57b0
                    try clear c58
                    try clear c58b0
                    try clear c61
                    try clear p64
                    try clear c70
                    try clear c70b0
                    try clear c70b1
                    try clear c70b2
                    try clear c71
                    try clear c72
                    try clear c72b0
                    try clear hcz62_0
                    try clear hcz62_1
                    try clear hfz62_0
                    try clear hfz62_1
                    try clear hx164_0
                    try clear hx164_1
                    try clear hx164_2
                    try clear hx164_3
                    try clear hx165_0
                    try clear hx165_1
                    try clear hx165_2
                    try clear hx165_3
                    try clear hx166_0
                    try clear hx166_1
                    try clear hx166_2
                    try clear hx166_3
                    try clear p164
                    try clear p165
                    try clear p166
                    try clear q164
                    try clear q165
                    try clear q166
                    obtain ⟨kq, x148_59, rfl, HA, HJ59, HO_152001, HO_159001, HO_173001, BK151, BK158, BK172, HB⟩ := hcut
                    cases kq with
                    | zero => exact absurd HA.out (by simp [fascinelaw14_MetaStays.j5])
                    | succ kj59 =>
                     have H := HA.out
                     clear HA
                     simp only [fascinelaw14_MetaStays.j5] at H
                     by_cases c73 : x148_59 = true
                     ·subst c73
                      have H1 : (some false) = some r := by rw [if_pos rfl] at H; exact H
                      clear H
                      have H := H1
                      clear H1
                      exact absurd (HR_.out.symm.trans (Option.some.inj H).symm) (by decide)
                     ·replace c73 := Bool.eq_false_iff.mpr c73
                      subst c73
                      have H1 : (fascinelaw14_MetaStays.l0 kj59 l3 (wrap64 (x12_1 + 1)) t153 t154) = some r := by rw [if_neg (show ¬ (false = true) by decide)] at H; exact H
                      clear H
                      have H := H1
                      clear H1
                      have H' := Aside0.mk H
                      clear H
                      have hnb74 := NB158_151.out
                      have hnc74 := NB151_158.out
                      have hnb75 := NB158_172.out
                      have hnc75 := NB172_158.out
                      have hcz76_0 : wc.cell? ⟨gb158, 0, none⟩ = some (.int .i64 t153) := (blk_cell BK158.out 0).trans rfl
                      have hcz76_1 : wc.cell? ⟨gb158, 1, none⟩ = some (.slice Ao28 t154.length co28) := (blk_cell BK158.out 1).trans rfl
                      have hfz76_0 := blk_frozen BK158.out 0
                      have hfz76_1 := blk_frozen BK158.out 1
                      have hnb77 := NB151_172.out
                      have hnc77 := NB172_151.out
                      have hcz78_0 : wc.cell? ⟨gb151, 0, none⟩ = some (.int .i64 x152000_1) := (blk_cell BK151.out 0).trans rfl
                      have hcz78_1 : wc.cell? ⟨gb151, 1, none⟩ = some (.slice Ao22 x152001_1.length co22) := (blk_cell BK151.out 1).trans rfl
                      have hfz78_0 := blk_frozen BK151.out 0
                      have hfz78_1 := blk_frozen BK151.out 1
                      go_wp2
                      go_roundg kj59
                      case measure => have := HK1.out; have := HJ14.out; have := HJ20.out; have := HK4.out; have := HJ59.out; omega
                      case rel => exact ⟨(wrap64 (x12_1 + 1)), (t153), (t154), (.slice Ao28 t154.length co28), (by first | rfl | (simp; done) | (simp [*]; done)), H', ⟨by have := HK1.out; have := HJ14.out; have := HJ20.out; have := HK4.out; have := HJ59.out; omega⟩, ⟨by (with_reducible repeat (first | apply Kd.S_alloc | apply Kd.S_drewN | apply Kd.S_drew)); exact Kd.S_mono (Kd.S_far (p := ⟨gb151, 1, none⟩) (Kd.S_far (p := ⟨gb151, 0, none⟩) (Kd.S_types HO_159001.out BK151.out (by decide)) (fun _ hk => hk.2) (.int .i64 t153)) (fun _ hk => hk.2) (.slice Ao28 t154.length co28)) (fun _ hk => trivial)⟩, ⟨by (with_reducible repeat (first | refine blk_drewN ?_ _ | refine blk_drew ?_ | refine blk_alloc ?_ _)); refine blk_put (cs := #[.int .i64 t153, .slice Ao22 x152001_1.length co22]) ?_ 1 _ rfl; (with_reducible repeat (first | refine blk_drewN ?_ _ | refine blk_drew ?_ | refine blk_alloc ?_ _)); refine blk_put (cs := #[.int .i64 x152000_1, .slice Ao22 x152001_1.length co22]) ?_ 0 _ rfl; (with_reducible repeat (first | refine blk_drewN ?_ _ | refine blk_drew ?_ | refine blk_alloc ?_ _)); exact BK151.out⟩, ⟨by repeat (first | (with_reducible first | exact HB.out | apply below_alloc | apply pw_below_drewN | apply below_drew1 | refine below_set ?_ GE151.out | refine below_set ?_ GE158.out | refine below_set ?_ GE172.out) | exact HB.out)⟩⟩
                  ·rw [if_neg c58] at H
                   exact absurd H (by simp)
                 ·rw [if_neg c57] at H
                  exact absurd H (by simp)
          ·rw [if_neg c19] at H
           exact absurd H (by simp)
         ·rw [if_neg c18] at H
          exact absurd H (by simp)
        ·replace c17 := Bool.eq_false_iff.mpr c17
         subst c17
         have H1 : (some true) = some r := by rw [if_neg (show ¬ (false = true) by decide)] at H; exact H
         clear H
         have H := H1
         clear H1
         obtain rfl := Option.some.inj H
         go_wp2
         go_ret
         exact ⟨by first | rfl | (simp [errW_none, errW_some] <;> rfl) | (simp [*, errW_none, errW_some] <;> rfl), by repeat (first | (with_reducible first | exact HB.out | apply below_alloc | apply pw_below_drewN | apply below_drew1 | refine below_set ?_ GE151.out) | exact HB.out)⟩
   ·rw [if_neg c9] at H
    have c9b0 : (t150 == 0) = false := beq_eq_false_iff_ne.mpr c9
    have c9b1 : (t150 != 0) = true := bne_iff_ne.mpr c9
    exact absurd (HR_.out.symm.trans (Option.some.inj H).symm) (by decide)
 ·replace c6 := Bool.eq_false_iff.mpr c6
  subst c6
  have H1 : (some false) = some r := by rw [if_neg (show ¬ (false = true) by decide)] at H; exact H
  clear H
  have H := H1
  clear H1
  exact absurd (HR_.out.symm.trans (Option.some.inj H).symm) (by decide)

end Go.Proofs.Ytkoaeiiaagipeaa.PMetaStays
