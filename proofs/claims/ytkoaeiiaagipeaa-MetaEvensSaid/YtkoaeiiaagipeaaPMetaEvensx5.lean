-- WRITTEN BY A PROGRAM OF THIS SESSION (wip/patch_print.py: the kit's printer with rules of this session's own); Lean checks it.
import Derived.Test.YtkoaeiiaagipeaaPMetaEvensx0
import Derived.Test.YtkoaeiiaagipeaaPMetaEvensx1
import Derived.Test.YtkoaeiiaagipeaaPMetaEvensx3
import Derived.Test.YtkoaeiiaagipeaaPMetaEvensx4
namespace Go.Proofs.Ytkoaeiiaagipeaa.PMetaEvens
open Go.RowKit Go.Proofs.YtkoaeiiaagipeaaW.PrintWords Go.Proofs.YtkoaeiiaagipeaaW.PrintLast Go.Proofs.YtkoaeiiaagipeaaW.PrintMore
open Go.Proofs.Ytkoaeiiaagipeaa.G
attribute [local go_sem] max2_int min2_int max_two min_two max_three min_three max_four min_four   -- for this text's walks alone
set_option linter.unusedVariables false
set_option linter.unusedSimpArgs false

/-! ### fascinelaw14_MetaEvens: function 11 -/
mutual
def fascinelaw14_MetaEvens.j1 : Nat → Int → List (S42) → Option (Bool)
  | 0, _, _ => none
  | k + 1, x174000, x174001 => fascinelaw14_MetaEvens.l1 k 0 x174000 x174001
def fascinelaw14_MetaEvens.l1 : Nat → Int → Int → List (S42) → Option (Bool)
  | 0, _, _, _ => none
  | k + 1, x13, x174000, x174001 => if x13 < 60 then ((meta_Plan.f k x174000 x174001).bind fun bt180 => (if bt180.2.2.2 = true then (if bt180.1 < 0 then (fascinelaw14_MetaEvens.j3 k x13 bt180.1 bt180.2.1 bt180.2.2.1 true x174000 x174001) else (fascinelaw14_MetaEvens.j3 k x13 bt180.1 bt180.2.1 bt180.2.2.1 (decide (bt180.1 ≥ (x174001.length : Int))) x174000 x174001)) else (some true))) else (some false)
def fascinelaw14_MetaEvens.j3 : Nat → Int → Int → Int → Int → Bool → Int → List (S42) → Option (Bool)
  | 0, _, _, _, _, _, _, _ => none
  | k + 1, x13, x14, x15, x16, x82, x174000, x174001 => if x82 = true then (some false) else (if 0 ≤ x14 then (if x14 < (x174001.length : Int) then ((meta_Apply.f k x174000 x174001 2 x14 x16 ((rd_T42 x174001 x14).f0)).bind fun bt185 => (if bt185.2.2 = true then (if x14 < (bt185.2.1.length : Int) then (if ((rd_T42 bt185.2.1 x14).f2) = x15 then ((meta_Apply.f k bt185.1 bt185.2.1 1 x14 x16 ((rd_T42 bt185.2.1 x14).f0)).bind fun bt193 => (if bt193.2.2 = true then (if x14 < (bt193.2.1.length : Int) then ((meta_Apply.f k bt193.1 bt193.2.1 3 x14 x15 ((rd_T42 bt193.2.1 x14).f0)).bind fun bt199 => (if bt199.2.2 = true then (fascinelaw14_MetaEvens.l1 k (wrap64 (x13 + 1)) bt199.1 bt199.2.1) else (some false))) else (none)) else (some false))) else ((meta_Apply.f k bt185.1 bt185.2.1 3 x14 x15 ((rd_T42 bt185.2.1 x14).f0)).bind fun bt205 => (if bt205.2.2 = true then (fascinelaw14_MetaEvens.l1 k (wrap64 (x13 + 1)) bt205.1 bt205.2.1) else (some false)))) else (none)) else (some false))) else (none)) else (none))
def fascinelaw14_MetaEvens.l0 : Nat → List (S39) → Int → Int → List (S42) → Option (Bool)
  | 0, _, _, _, _ => none
  | k + 1, x3, x12, x174000, x174001 => if x12 < (x3.length : Int) then (if x12 < 40 then (if 0 ≤ x12 then ((meta_Apply.f k x174000 x174001 ((rd_T39 x3 x12).f0) ((rd_T39 x3 x12).f1) ((rd_T39 x3 x12).f2) ((rd_T39 x3 x12).f3)).bind fun bt175 => (fascinelaw14_MetaEvens.l0 k x3 (wrap64 (x12 + 1)) bt175.1 bt175.2.1)) else (none)) else (fascinelaw14_MetaEvens.j1 k x174000 x174001)) else (fascinelaw14_MetaEvens.j1 k x174000 x174001)
end
def fascinelaw14_MetaEvens.f (k : Nat) (a0 : Int) (a1 : Int) (a2 : Int) (l3 : List (S39)) : Option (Bool) := (fascinelaw14_awake.f k).bind fun t167 => (if t167 = true then (if (wrap64 (1 + (Int.tmod (wrap64 (a0)) 5))) = 0 then (none) else ((meta_New.f k (wrap64 (1 + (Int.tmod (wrap64 (a0)) 5))) (wrap64 (1 + (Int.tmod (wrap64 (a1)) 8))) (wrap64 (1 + (Int.tmod (wrap64 (a2)) (wrap64 (1 + (Int.tmod (wrap64 (a0)) 5))))))).bind fun bt168 => (if bt168.2.2 = 0 then (fascinelaw14_MetaEvens.l0 k l3 0 bt168.1 bt168.2.1) else (some false)))) else (some false))
theorem fascinelaw14_MetaEvens.mono_l : ∀ k, (∀ y0 y1, LeO (fascinelaw14_MetaEvens.j1 k y0 y1) (fascinelaw14_MetaEvens.j1 (k + 1) y0 y1)) ∧ (∀ y0 y1 y2, LeO (fascinelaw14_MetaEvens.l1 k y0 y1 y2) (fascinelaw14_MetaEvens.l1 (k + 1) y0 y1 y2)) ∧ (∀ y0 y1 y2 y3 y4 y5 y6, LeO (fascinelaw14_MetaEvens.j3 k y0 y1 y2 y3 y4 y5 y6) (fascinelaw14_MetaEvens.j3 (k + 1) y0 y1 y2 y3 y4 y5 y6)) ∧ (∀ y0 y1 y2 y3, LeO (fascinelaw14_MetaEvens.l0 k y0 y1 y2 y3) (fascinelaw14_MetaEvens.l0 (k + 1) y0 y1 y2 y3))
  | 0 => ⟨fun _ _ r h => by simp [fascinelaw14_MetaEvens.j1] at h, fun _ _ _ r h => by simp [fascinelaw14_MetaEvens.l1] at h, fun _ _ _ _ _ _ _ r h => by simp [fascinelaw14_MetaEvens.j3] at h, fun _ _ _ _ r h => by simp [fascinelaw14_MetaEvens.l0] at h⟩
  | k + 1 => by
    obtain ⟨ih0, ih1, ih2, ih3⟩ := fascinelaw14_MetaEvens.mono_l k
    refine ⟨?_, ?_, ?_, ?_⟩
    · intro y0 y1
      unfold fascinelaw14_MetaEvens.j1
      repeat' first
      | (with_reducible exact ih0 _ _)
      | (with_reducible exact ih1 _ _ _)
      | (with_reducible exact ih2 _ _ _ _ _ _ _)
      | (with_reducible exact ih3 _ _ _ _)
      | (with_reducible exact fascinelaw14_awake.mono _)
      | (with_reducible exact meta_Apply.mono _ _ _ _ _ _ _)
      | (with_reducible exact meta_New.mono _ _ _ _)
      | (with_reducible exact meta_Plan.mono _ _ _)
      | (with_reducible exact LeO.refl _)
      | (with_reducible exact LeO.none _)
      | (with_reducible refine LeO.ite ?_ ?_)
      | (with_reducible refine LeO.bind ?_ (fun _ => ?_))
      | exact ih0 _ _
      | exact ih1 _ _ _
      | exact ih2 _ _ _ _ _ _ _
      | exact ih3 _ _ _ _
      | exact fascinelaw14_awake.mono _
      | exact meta_Apply.mono _ _ _ _ _ _ _
      | exact meta_New.mono _ _ _ _
      | exact meta_Plan.mono _ _ _
      | exact LeO.none _
      | refine LeO.ite ?_ ?_
      | refine LeO.bind ?_ (fun _ => ?_)
    · intro y0 y1 y2
      unfold fascinelaw14_MetaEvens.l1
      repeat' first
      | (with_reducible exact ih0 _ _)
      | (with_reducible exact ih1 _ _ _)
      | (with_reducible exact ih2 _ _ _ _ _ _ _)
      | (with_reducible exact ih3 _ _ _ _)
      | (with_reducible exact fascinelaw14_awake.mono _)
      | (with_reducible exact meta_Apply.mono _ _ _ _ _ _ _)
      | (with_reducible exact meta_New.mono _ _ _ _)
      | (with_reducible exact meta_Plan.mono _ _ _)
      | (with_reducible exact LeO.refl _)
      | (with_reducible exact LeO.none _)
      | (with_reducible refine LeO.ite ?_ ?_)
      | (with_reducible refine LeO.bind ?_ (fun _ => ?_))
      | exact ih0 _ _
      | exact ih1 _ _ _
      | exact ih2 _ _ _ _ _ _ _
      | exact ih3 _ _ _ _
      | exact fascinelaw14_awake.mono _
      | exact meta_Apply.mono _ _ _ _ _ _ _
      | exact meta_New.mono _ _ _ _
      | exact meta_Plan.mono _ _ _
      | exact LeO.none _
      | refine LeO.ite ?_ ?_
      | refine LeO.bind ?_ (fun _ => ?_)
    · intro y0 y1 y2 y3 y4 y5 y6
      unfold fascinelaw14_MetaEvens.j3
      repeat' first
      | (with_reducible exact ih0 _ _)
      | (with_reducible exact ih1 _ _ _)
      | (with_reducible exact ih2 _ _ _ _ _ _ _)
      | (with_reducible exact ih3 _ _ _ _)
      | (with_reducible exact fascinelaw14_awake.mono _)
      | (with_reducible exact meta_Apply.mono _ _ _ _ _ _ _)
      | (with_reducible exact meta_New.mono _ _ _ _)
      | (with_reducible exact meta_Plan.mono _ _ _)
      | (with_reducible exact LeO.refl _)
      | (with_reducible exact LeO.none _)
      | (with_reducible refine LeO.ite ?_ ?_)
      | (with_reducible refine LeO.bind ?_ (fun _ => ?_))
      | exact ih0 _ _
      | exact ih1 _ _ _
      | exact ih2 _ _ _ _ _ _ _
      | exact ih3 _ _ _ _
      | exact fascinelaw14_awake.mono _
      | exact meta_Apply.mono _ _ _ _ _ _ _
      | exact meta_New.mono _ _ _ _
      | exact meta_Plan.mono _ _ _
      | exact LeO.none _
      | refine LeO.ite ?_ ?_
      | refine LeO.bind ?_ (fun _ => ?_)
    · intro y0 y1 y2 y3
      unfold fascinelaw14_MetaEvens.l0
      repeat' first
      | (with_reducible exact ih0 _ _)
      | (with_reducible exact ih1 _ _ _)
      | (with_reducible exact ih2 _ _ _ _ _ _ _)
      | (with_reducible exact ih3 _ _ _ _)
      | (with_reducible exact fascinelaw14_awake.mono _)
      | (with_reducible exact meta_Apply.mono _ _ _ _ _ _ _)
      | (with_reducible exact meta_New.mono _ _ _ _)
      | (with_reducible exact meta_Plan.mono _ _ _)
      | (with_reducible exact LeO.refl _)
      | (with_reducible exact LeO.none _)
      | (with_reducible refine LeO.ite ?_ ?_)
      | (with_reducible refine LeO.bind ?_ (fun _ => ?_))
      | exact ih0 _ _
      | exact ih1 _ _ _
      | exact ih2 _ _ _ _ _ _ _
      | exact ih3 _ _ _ _
      | exact fascinelaw14_awake.mono _
      | exact meta_Apply.mono _ _ _ _ _ _ _
      | exact meta_New.mono _ _ _ _
      | exact meta_Plan.mono _ _ _
      | exact LeO.none _
      | refine LeO.ite ?_ ?_
      | refine LeO.bind ?_ (fun _ => ?_)
theorem fascinelaw14_MetaEvens.mono : ∀ a0 a1 a2 a3 k, LeO (fascinelaw14_MetaEvens.f k a0 a1 a2 a3) (fascinelaw14_MetaEvens.f (k + 1) a0 a1 a2 a3) := by
  intro a0 a1 a2 a3 k
  obtain ⟨ih0, ih1, ih2, ih3⟩ := fascinelaw14_MetaEvens.mono_l k
  unfold fascinelaw14_MetaEvens.f
  repeat' first
      | (with_reducible exact ih0 _ _)
      | (with_reducible exact ih1 _ _ _)
      | (with_reducible exact ih2 _ _ _ _ _ _ _)
      | (with_reducible exact ih3 _ _ _ _)
      | (with_reducible exact fascinelaw14_awake.mono _)
      | (with_reducible exact meta_Apply.mono _ _ _ _ _ _ _)
      | (with_reducible exact meta_New.mono _ _ _ _)
      | (with_reducible exact meta_Plan.mono _ _ _)
      | (with_reducible exact LeO.refl _)
      | (with_reducible exact LeO.none _)
      | (with_reducible refine LeO.ite ?_ ?_)
      | (with_reducible refine LeO.bind ?_ (fun _ => ?_))
      | exact ih0 _ _
      | exact ih1 _ _ _
      | exact ih2 _ _ _ _ _ _ _
      | exact ih3 _ _ _ _
      | exact fascinelaw14_awake.mono _
      | exact meta_Apply.mono _ _ _ _ _ _ _
      | exact meta_New.mono _ _ _ _
      | exact meta_Plan.mono _ _ _
      | exact LeO.none _
      | refine LeO.ite ?_ ?_
      | refine LeO.bind ?_ (fun _ => ?_)
def fascinelaw14_MetaEvens.T10 : Bool × List (List Nat × List Nat) := (true, [([], []), ([], []), ([], []), ([1, 2], [1, 2]), ([3], [3]), ([0, 4], [0, 4]), ([5], [5]), ([6], [6]), ([6], [6]), ([7, 5, 0, 1, 2, 3, 4, 5, 6, 7], [7])])
def fascinelaw14_MetaEvens.B10 : List Nat := [0, 0, 0, 6, 14, 31, 63, 127, 127, 255]
theorem fascinelaw14_MetaEvens.tab10 : rtab .any (opsOf Try.f11 10) = fascinelaw14_MetaEvens.T10 := by kernel_rfl
theorem fascinelaw14_MetaEvens.bits10 : waitsOk fascinelaw14_MetaEvens.T10.2 fascinelaw14_MetaEvens.B10 = true := by kernel_rfl
def fascinelaw14_MetaEvens.T19 : Bool × List (List Nat × List Nat) := (true, [([], []), ([], []), ([], []), ([], []), ([3], [3]), ([], []), ([4, 5], [4, 5]), ([6], [6]), ([7], [7]), ([1, 2, 8], [1, 2, 8]), ([0, 9], [0, 9]), ([10], [10]), ([11], [11]), ([11], [11]), ([], []), ([14, 12, 10, 0, 1, 2, 3, 4, 5, 6, 7, 8, 9, 10, 11, 12, 14], [12, 14]), ([13, 15, 0, 1, 2, 3, 4, 5, 6, 7, 8, 9, 10, 11, 12, 13, 14, 15], [13])])
def fascinelaw14_MetaEvens.B19 : List Nat := [0, 0, 0, 0, 8, 0, 56, 120, 248, 510, 1023, 2047, 4095, 4095, 0, 24575, 65535]
theorem fascinelaw14_MetaEvens.tab19 : rtab .any (opsOf Try.f11 19) = fascinelaw14_MetaEvens.T19 := by kernel_rfl
theorem fascinelaw14_MetaEvens.bits19 : waitsOk fascinelaw14_MetaEvens.T19.2 fascinelaw14_MetaEvens.B19 = true := by kernel_rfl
def fascinelaw14_MetaEvens.T23 : Bool × List (List Nat × List Nat) := (true, [([], []), ([], []), ([], []), ([], []), ([3], [3]), ([], []), ([4, 5], [4, 5]), ([6], [6]), ([7], [7]), ([1, 2, 8], [1, 2, 8]), ([0, 9], [0, 9]), ([10], [10]), ([11], [11]), ([11], [11]), ([12, 10, 0, 1, 2, 3, 4, 5, 6, 7, 8, 9, 10, 11, 12], [12]), ([13, 14, 0, 1, 2, 3, 4, 5, 6, 7, 8, 9, 10, 11, 12, 13, 14], [13])])
def fascinelaw14_MetaEvens.B23 : List Nat := [0, 0, 0, 0, 8, 0, 56, 120, 248, 510, 1023, 2047, 4095, 4095, 8191, 32767]
theorem fascinelaw14_MetaEvens.tab23 : rtab .any (opsOf Try.f11 23) = fascinelaw14_MetaEvens.T23 := by kernel_rfl
theorem fascinelaw14_MetaEvens.bits23 : waitsOk fascinelaw14_MetaEvens.T23.2 fascinelaw14_MetaEvens.B23 = true := by kernel_rfl
def fascinelaw14_MetaEvens.T26 : Bool × List (List Nat × List Nat) := (true, [([], []), ([], []), ([], []), ([], []), ([3], [3]), ([], []), ([4, 5], [4, 5]), ([6], [6]), ([7], [7]), ([1, 2, 8], [1, 2, 8]), ([0, 9], [0, 9]), ([10], [10]), ([11], [11]), ([11], [11]), ([12, 10, 0, 1, 2, 3, 4, 5, 6, 7, 8, 9, 10, 11, 12], [12]), ([13, 14, 0, 1, 2, 3, 4, 5, 6, 7, 8, 9, 10, 11, 12, 13, 14], [13])])
def fascinelaw14_MetaEvens.B26 : List Nat := [0, 0, 0, 0, 8, 0, 56, 120, 248, 510, 1023, 2047, 4095, 4095, 8191, 32767]
theorem fascinelaw14_MetaEvens.tab26 : rtab .any (opsOf Try.f11 26) = fascinelaw14_MetaEvens.T26 := by kernel_rfl
theorem fascinelaw14_MetaEvens.bits26 : waitsOk fascinelaw14_MetaEvens.T26.2 fascinelaw14_MetaEvens.B26 = true := by kernel_rfl
set_option maxHeartbeats 8000000 in
set_option maxRecDepth 100000 in
theorem fascinelaw14_MetaEvens.calls (k : Nat) (a0 : Int) (a1 : Int) (a2 : Int) (A3 : Option Addr) (c3 : Nat) (l3 : List (S39)) (r : Bool) (w : World) (hr3 : Kd.C k39 w A3 l3.length l3) (hc3 : l3.length ≤ c3) (h : fascinelaw14_MetaEvens.f k a0 a1 a2 l3 = some r) (hr_ : r = true) :
    Calls Try.prog 11 #[.int .u8 a0, .int .u8 a1, .int .u8 a2, .slice A3 l3.length c3] w fun e w' => e = .returned (.bool r) ∧ Below w.heap.size w w' := by
  have HR_ := Aside0.mk hr_
  clear hr_
  have hu24 := Try.underlying24
  have hu39 := Try.underlying39
  have HR3 := Aside0.mk hr3
  have HC3 := Aside0.mk hc3
  clear hr3 hc3
  have HB := Aside0.mk (Below.refl w.heap.size w)
  have H : ((fascinelaw14_awake.f k).bind fun t167 => (if t167 = true then (if (wrap64 (1 + (Int.tmod (wrap64 (a0)) 5))) = 0 then (none) else ((meta_New.f k (wrap64 (1 + (Int.tmod (wrap64 (a0)) 5))) (wrap64 (1 + (Int.tmod (wrap64 (a1)) 8))) (wrap64 (1 + (Int.tmod (wrap64 (a2)) (wrap64 (1 + (Int.tmod (wrap64 (a0)) 5))))))).bind fun bt168 => (if bt168.2.2 = 0 then (fascinelaw14_MetaEvens.l0 k l3 0 bt168.1 bt168.2.1) else (some false)))) else (some false))) = some r := h
  clear h
  replace H := Option.bind_eq_some_iff.mp H
  obtain ⟨t167, A50, H⟩ := H
  replace H : (if t167 = true then (if (wrap64 (1 + (Int.tmod (wrap64 (a0)) 5))) = 0 then (none) else ((meta_New.f k (wrap64 (1 + (Int.tmod (wrap64 (a0)) 5))) (wrap64 (1 + (Int.tmod (wrap64 (a1)) 8))) (wrap64 (1 + (Int.tmod (wrap64 (a2)) (wrap64 (1 + (Int.tmod (wrap64 (a0)) 5))))))).bind fun bt168 => (if bt168.2.2 = 0 then (fascinelaw14_MetaEvens.l0 k l3 0 bt168.1 bt168.2.1) else (some false)))) else (some false)) = some r := H
  have A5 := Aside0.mk A50
  clear A50
  by_cases c6 : t167 = true
  · subst c6
    have H1 : (if (wrap64 (1 + (Int.tmod (wrap64 (a0)) 5))) = 0 then (none) else ((meta_New.f k (wrap64 (1 + (Int.tmod (wrap64 (a0)) 5))) (wrap64 (1 + (Int.tmod (wrap64 (a1)) 8))) (wrap64 (1 + (Int.tmod (wrap64 (a2)) (wrap64 (1 + (Int.tmod (wrap64 (a0)) 5))))))).bind fun bt168 => (if bt168.2.2 = 0 then (fascinelaw14_MetaEvens.l0 k l3 0 bt168.1 bt168.2.1) else (some false)))) = some r := by rw [if_pos rfl] at H; exact H
    clear H
    have H := H1
    clear H1
    by_cases c7 : (wrap64 (1 + (Int.tmod (wrap64 (a0)) 5))) = 0
    · rw [if_pos c7] at H
      exact absurd H (by simp)
    · rw [if_neg c7] at H
      have c7b0 : ((wrap64 (1 + (Int.tmod (wrap64 (a0)) 5))) == 0) = false := beq_eq_false_iff_ne.mpr c7
      have c7b1 : ((wrap64 (1 + (Int.tmod (wrap64 (a0)) 5))) != 0) = true := bne_iff_ne.mpr c7
      replace H := Option.bind_eq_some_iff.mp H
      obtain ⟨⟨t168, t169, t172⟩, A80, H⟩ := H
      replace H : (if t172 = 0 then (fascinelaw14_MetaEvens.l0 k l3 0 t168 t169) else (some false)) = some r := H
      have A8 := Aside0.mk A80
      clear A80
      by_cases c9 : t172 = 0
      · rw [if_pos c9] at H
        have c9b0 : (t172 == 0) = true := beq_iff_eq.mpr c9
        have c9b1 : (t172 != 0) = false := bne_eq_false_iff_eq.mpr c9
        clear c9
        have HC10 := Aside0.mk H
        clear H
        go_enter Try.func11, Try.ntmps11
        go_upto_block 0 with (first | ((with_reducible refine gate_callee (f := 15) rfl ?_); refine goesL_ (some 20) rfl rfl Try.func15 (by kernel_rfl) rfl #[] rfl (by (try simp only [List.map_toArray, List.map_cons, List.map_nil]); first | done | rfl | (simp only [List.length_drop, List.length_take]; rfl)) ?_; (with_reducible refine (fascinelaw14_awake.calls k  true _ A5.out).mono ?_); rintro e w11 ⟨rfl, hb⟩; refine ⟨_, rfl, ?_⟩; have n0_ := Aside0.mk (below_step (by repeat (first | (with_reducible first | exact HB.out | apply below_alloc | apply pw_below_drewN | apply below_drew1) | exact HB.out)) hb); clear HB; have HB := n0_; clear n0_; (try clear hb); (try clear hb2); (try clear hk); (try clear hi)) | ((with_reducible refine gate_callee (f := 16) rfl ?_); refine goesL_ (some 37) rfl rfl Try.func16 (by kernel_rfl) rfl #[.int .i64 (wrap64 (1 + (Int.tmod (wrap64 (a0)) 5))), .int .i64 (wrap64 (1 + (Int.tmod (wrap64 (a1)) 8))), .int .i64 (wrap64 (1 + (Int.tmod (wrap64 (a2)) (wrap64 (1 + (Int.tmod (wrap64 (a0)) 5))))))] rfl (by (try simp only [List.map_toArray, List.map_cons, List.map_nil]); first | done | rfl | (simp only [List.length_drop, List.length_take]; rfl)) ?_; (with_reducible refine (meta_New.calls k (wrap64 (1 + (Int.tmod (wrap64 (a0)) 5))) (wrap64 (1 + (Int.tmod (wrap64 (a1)) 8))) (wrap64 (1 + (Int.tmod (wrap64 (a2)) (wrap64 (1 + (Int.tmod (wrap64 (a0)) 5)))))) t168 t169 t172 _ A8.out).mono ?_); rintro e w12 ⟨v170, rfl, ho0, hb⟩; refine ⟨_, rfl, ?_⟩; have n0_ := Aside0.mk (Kd.S_lower ho0 (below_size (by repeat (first | (with_reducible first | exact HB.out | apply below_alloc | apply pw_below_drewN | apply below_drew1) | exact HB.out)))); have n1_ := Aside0.mk (below_step (by repeat (first | (with_reducible first | exact HB.out | apply below_alloc | apply pw_below_drewN | apply below_drew1) | exact HB.out)) hb); clear HB; have HO171 := n0_; have HB := n1_; clear n0_ n1_; (try clear hb); (try clear hb2); (try clear hk); (try clear hi); (try clear ho0)) | ((with_reducible refine gate_dst (N := 10) rfl ?_); (try (refine gate_guard (by rfl) ?_; dsimp only)); refine box_event ?hg (N := 10) ?hd (cs := #[.int .i64 0, .slice none 0 0]) (t := 24) ?hr ?_; (case hd => rfl); (case hg => rfl); (case hr => first | (go_simp; done) | (go_simp; rfl)); intro gb173 hg w13 hbox hb; have n0_ := Aside0.mk (Kd.S_below (by (with_reducible repeat (first | apply Kd.S_alloc | apply Kd.S_drewN | apply Kd.S_drew)); exact HO171.out) hb); have n1_ := Aside0.mk (below_step (by repeat (first | (with_reducible first | exact HB.out | apply below_alloc | apply pw_below_drewN | apply below_drew1) | exact HB.out)) hb); have n2_ := Aside0.mk (hbox); have n3_ := Aside0.mk ((by rw [hg]; exact (below_size (by repeat (first | (with_reducible first | exact HB.out | apply below_alloc | apply pw_below_drewN | apply below_drew1) | exact HB.out))) : w.heap.size ≤ gb173)); have n4_ := Aside0.mk ((by rw [hg]; exact (below_size (by repeat (first | (with_reducible first | exact HB.out | apply below_alloc | apply pw_below_drewN | apply below_drew1) | exact HB.out))) : w.heap.size ≤ gb173)); clear HO171; clear HB; have HO171 := n0_; have HB := n1_; have BK173 := n2_; have GW173 := n3_; have GE173 := n4_; clear n0_ n1_ n2_ n3_ n4_; clear hb hbox hg; have hcz14_0 : w13.cell? ⟨gb173, 0, none⟩ = some (.int .i64 0) := (blk_cell BK173.out 0).trans rfl; have hcz14_1 : w13.cell? ⟨gb173, 1, none⟩ = some (.slice none 0 0) := (blk_cell BK173.out 1).trans rfl; have hfz14_0 := blk_frozen BK173.out 0; have hfz14_1 := blk_frozen BK173.out 1; obtain ⟨Ao15, co15, eo15⟩ := Kd.S_slice HO171.out; subst eo15))
        (try simp only [Act.put, List.setIfInBounds_toArray, List.set_cons_zero, List.set_cons_succ])
        go_cut [] (fun wc => ∃ (kq : Nat) (x174000_9 : Int) (x174001_9 : List (S42)) (u174001 : Value), Aside0 (fascinelaw14_MetaEvens.j1 kq x174000_9 x174001_9 = some r) ∧ Aside0 (kq ≤ k) ∧ Aside0 (Kd.S k42 42 wc w.heap.size (fun _ => True) u174001 x174001_9) ∧ Aside0 (wc.heap[gb173]? = some (.cells #[.int .i64 x174000_9, u174001] 24 (0, 0))) ∧ Aside0 (Below w.heap.size w wc))
        case first =>
          have H := HC10.out
          clear HC10
          have H' := Aside0.mk H
          clear H
          go_wp2
          go_loopg [12] k (fun kq v12 w' => ∃ (x12_1 : Int) (x174000_1 : Int) (x174001_1 : List (S42)) (u174001 : Value), v12 = .int .i64 x12_1 ∧ Aside0 (fascinelaw14_MetaEvens.l0 kq l3 x12_1 x174000_1 x174001_1 = some r) ∧ Aside0 (kq ≤ k) ∧ Aside0 (Kd.S k42 42 w' w.heap.size (fun _ => True) u174001 x174001_1) ∧ Aside0 (w'.heap[gb173]? = some (.cells #[.int .i64 x174000_1, u174001] 24 (0, 0))) ∧ Aside0 (Below w.heap.size w w'))
          case atStart => exact ⟨(0), (t168), (t169), (.slice Ao15 t169.length co15), (by first | rfl | (simp; done) | (simp [*]; done)), H', ⟨Nat.le_refl _⟩, ⟨by (with_reducible repeat (first | apply Kd.S_alloc | apply Kd.S_drewN | apply Kd.S_drew)); exact Kd.S_mono (Kd.S_far (p := ⟨gb173, 1, none⟩) (Kd.S_far (p := ⟨gb173, 0, none⟩) (Kd.S_types HO171.out BK173.out (by decide)) (fun _ hk => hk.2) (.int .i64 t168)) (fun _ hk => hk.2) (.slice Ao15 t169.length co15)) (fun _ hk => trivial)⟩, ⟨by (with_reducible repeat (first | refine blk_drewN ?_ _ | refine blk_drew ?_ | refine blk_alloc ?_ _)); refine blk_put (cs := #[.int .i64 t168, .slice none 0 0]) ?_ 1 _ rfl; (with_reducible repeat (first | refine blk_drewN ?_ _ | refine blk_drew ?_ | refine blk_alloc ?_ _)); refine blk_put (cs := #[.int .i64 0, .slice none 0 0]) ?_ 0 _ rfl; (with_reducible repeat (first | refine blk_drewN ?_ _ | refine blk_drew ?_ | refine blk_alloc ?_ _)); exact BK173.out⟩, ⟨by repeat (first | (with_reducible first | exact HB.out | apply below_alloc | apply pw_below_drewN | apply below_drew1 | refine below_set ?_ GE173.out) | exact HB.out)⟩⟩
          case round =>
            clear H'
            try clear c1
            try clear p2
            try clear c3
            try clear c6
            try clear p6
            try clear c7
            try clear c7b0
            try clear c7b1
            try clear c9
            try clear c9b0
            try clear c9b1
            try clear c11
            try clear c15
            try clear hcz14_0
            try clear hcz14_1
            try clear hfz14_0
            try clear hfz14_1
            obtain ⟨x12_1, x174000_1, x174001_1, u174001, rfl, HA, HK1, HO_174001, BK173, HB⟩ := hrel
            cases gk with
            | zero => exact absurd HA.out (by simp [fascinelaw14_MetaEvens.l0])
            | succ k1 =>
              have H := HA.out
              clear HA
              simp only [fascinelaw14_MetaEvens.l0] at H
              by_cases c16 : x12_1 < (l3.length : Int)
              · rw [if_pos c16] at H
                have c16b0 : decide (x12_1 < (l3.length : Int)) = true := decide_eq_true c16
                clear c16
                (first | rw [c16b0] | (simp only [i64_w, i32_w]; rw [c16b0]) | skip)
                by_cases c17 : x12_1 < 40
                · rw [if_pos c17] at H
                  have c17b0 : decide (x12_1 < 40) = true := decide_eq_true c17
                  clear c17
                  by_cases c18 : 0 ≤ x12_1
                  · rw [if_pos c18] at H
                    have c18b0 : decide (0 ≤ x12_1) = true := decide_eq_true c18
                    clear c18
                    replace H := Option.bind_eq_some_iff.mp H
                    obtain ⟨⟨t175, t176, t179⟩, A190, H⟩ := H
                    replace H : (fascinelaw14_MetaEvens.l0 k1 l3 (wrap64 (x12_1 + 1)) t175 t176) = some r := H
                    have A19 := Aside0.mk A190
                    clear A190
                    have H' := Aside0.mk H
                    clear H
                    try go_wp2
                    (try (rw [drewN_self wr]; generalize hq_ : World.drewN wr _ = wr; have n0_ : Aside0 (Kd.S k42 42 wr w.heap.size (fun _ => True) u174001 x174001_1) := ⟨by rw [← hq_]; exact (by (with_reducible repeat (first | apply Kd.S_alloc | apply Kd.S_drewN | apply Kd.S_drew)); exact HO_174001.out)⟩; have n1_ : Aside0 (wr.heap[gb173]? = some (.cells #[.int .i64 x174000_1, u174001] 24 (0, 0))) := ⟨by rw [← hq_]; exact (by (with_reducible repeat (first | refine blk_drewN ?_ _ | refine blk_drew ?_ | refine blk_alloc ?_ _)); exact BK173.out)⟩; have n2_ : Aside0 (Below w.heap.size w wr) := ⟨by rw [← hq_]; exact (by repeat (first | (with_reducible first | exact HB.out | apply below_alloc | apply pw_below_drewN | apply below_drew1 | refine below_set ?_ GE173.out) | exact HB.out))⟩; clear HO_174001 BK173 HB hq_; have HO_174001 := n0_; have BK173 := n1_; have HB := n2_; clear n0_ n1_ n2_))
                    have n0_ := Aside0.mk (Kd.S_drew HO_174001.out)
                    have n1_ := Aside0.mk (blk_drew BK173.out)
                    have n2_ := Aside0.mk (below_drew1 HB.out)
                    clear HO_174001
                    clear BK173
                    clear HB
                    have HO_174001 := n0_
                    have BK173 := n1_
                    have HB := n2_
                    clear n0_ n1_ n2_
                    have p174 : 0 ≤ (x12_1 : Int) := of_decide_eq_true (by first | (with_reducible assumption) | assumption)
                    have q174 : x12_1 < (l3.length : Int) := of_decide_eq_true (by first | (with_reducible assumption) | assumption)
                    obtain ⟨ad174, e174, hx174_0, hx174_1, hx174_2, hx174_3⟩ := at_T39 HR3.out x12_1 p174 q174
                    have hw174_3 := hx174_3
                    have hw174_2 := hx174_2
                    have hw174_1 := hx174_1
                    have hw174_0 := hx174_0
                    cases e174
                    replace hx174_0 := (HB.out.cell (World.block_lt_of_cell? w _ hx174_0)).trans hx174_0
                    replace hx174_1 := (HB.out.cell (World.block_lt_of_cell? w _ hx174_1)).trans hx174_1
                    replace hx174_2 := (HB.out.cell (World.block_lt_of_cell? w _ hx174_2)).trans hx174_2
                    replace hx174_3 := (HB.out.cell (World.block_lt_of_cell? w _ hx174_3)).trans hx174_3
                    replace p174 := eq_true p174
                    replace q174 := eq_true q174
                    obtain ⟨Ao21, co21, eo21⟩ := Kd.S_slice HO_174001.out
                    (first | subst eo21 | (injection eo21 with f1_ f2_ f3_; have f4_ := f1_.symm; have f5_ := f3_.symm; clear f1_ f2_ f3_; subst f4_; subst f5_))
                    refine start_ (n := 10) (S := fun w' => w'.cell? ⟨gb173, 0, none⟩ = some (.int .i64 x174000_1) ∧ w'.cell? ⟨gb173, 1, none⟩ = some (.slice Ao21 x174001_1.length co21) ∧ w'.cell? (ad174.add ((x12_1).toNat * 4)) = some (.int .u8 ((rd_T39 l3 x12_1).f0)) ∧ w'.cell? ⟨(ad174.add ((x12_1).toNat * 4)).block, (ad174.add ((x12_1).toNat * 4)).off + 1, none⟩ = some (.int .i64 ((rd_T39 l3 x12_1).f1)) ∧ w'.cell? ⟨(ad174.add ((x12_1).toNat * 4)).block, (ad174.add ((x12_1).toNat * 4)).off + 2, none⟩ = some (.int .i64 ((rd_T39 l3 x12_1).f2)) ∧ w'.cell? ⟨(ad174.add ((x12_1).toNat * 4)).block, (ad174.add ((x12_1).toNat * 4)).off + 3, none⟩ = some (.int .u64 ((rd_T39 l3 x12_1).f3))) (ds := [9]) #[false, false, false, false, false, false, false, false, false, false] (by kernel_rfl) rfl rfl ⟨(blk_cell BK173.out 0).trans rfl, (blk_cell BK173.out 1).trans rfl, ((HB.out.cell (World.block_lt_of_cell? w _ hw174_0)).trans hw174_0), ((HB.out.cell (World.block_lt_of_cell? w _ hw174_1)).trans hw174_1), ((HB.out.cell (World.block_lt_of_cell? w _ hw174_2)).trans hw174_2), ((HB.out.cell (World.block_lt_of_cell? w _ hw174_3)).trans hw174_3)⟩ (fun hHeld => ?_); refine with_tabW fascinelaw14_MetaEvens.tab10 fascinelaw14_MetaEvens.bits10 (fun HT_ HW_ => ?_)
                    generalize wr.drew = w20 at HO_174001 BK173 HB hx174_0 hx174_1 hx174_2 hx174_3 hHeld ⊢
                    refine pure_ (i := 1) (N := some 54) (v := ?_) (a' := ?_) #[false, true, false, false, false, false, false, false, false, false] rfl rfl (any_of HT_.out (by kernel_rfl)) (fun _ _ _ h => h) (Or.inl ⟨by rfl, ?_⟩) ?_ ?_
                    rotate_left
                    · intro w'
                      go_simp
                      with_reducible rfl
                    rotate_left
                    · simp only [Act.put, List.setIfInBounds_toArray, List.set_cons_zero, List.set_cons_succ, i64_w, i32_w]
                      rfl
                    refine pure_ (i := 2) (N := some 55) (v := ?_) (a' := ?_) #[false, true, true, false, false, false, false, false, false, false] rfl rfl (any_of HT_.out (by kernel_rfl)) (fun _ _ _ h => h) (Or.inl ⟨by rfl, ?_⟩) ?_ ?_
                    rotate_left
                    · intro w'
                      go_simp
                      with_reducible rfl
                    rotate_left
                    · simp only [Act.put, List.setIfInBounds_toArray, List.set_cons_zero, List.set_cons_succ, i64_w, i32_w]
                      rfl
                    refine pure_ (i := 3) (N := some 56) (v := ?_) (a' := ?_) #[false, true, true, true, false, false, false, false, false, false] rfl rfl (any_of HT_.out (by kernel_rfl)) (fun _ _ _ h => h) (Or.inl ⟨by rfl, ?_⟩) ?_ ?_
                    rotate_left
                    · intro w'
                      go_simp
                      with_reducible rfl
                    rotate_left
                    · simp only [Act.put, List.setIfInBounds_toArray, List.set_cons_zero, List.set_cons_succ, i64_w, i32_w]
                      rfl
                    refine take_ (i := 0) (N := some 53) (v := ?_) (a' := ?_) #[true, true, true, true, false, false, false, false, false, false] rfl rfl (take_ofW HT_.out HW_.out (by kernel_rfl)) (fun _ _ _ h => h) (Or.inl ⟨by rfl, ?_⟩) hHeld ?_ ?_
                    rotate_left
                    · rintro w' ⟨s0, s1, s2, s3, s4, s5⟩
                      go_simp
                      with_reducible rfl
                    rotate_left
                    · simp only [Act.put, List.setIfInBounds_toArray, List.set_cons_zero, List.set_cons_succ, i64_w, i32_w]
                      rfl
                    refine take_ (i := 4) (N := some 57) (v := ?_) (a' := ?_) #[true, true, true, true, true, false, false, false, false, false] rfl rfl (take_ofW HT_.out HW_.out (by kernel_rfl)) (fun _ _ _ h => h) (Or.inl ⟨by rfl, ?_⟩) hHeld ?_ ?_
                    rotate_left
                    · rintro w' ⟨s0, s1, s2, s3, s4, s5⟩
                      go_simp
                      with_reducible rfl
                    rotate_left
                    · simp only [Act.put, List.setIfInBounds_toArray, List.set_cons_zero, List.set_cons_succ, i64_w, i32_w]
                      rfl
                    refine one_ (i := 5) (N := some 58) #[true, true, true, true, true, true, false, false, false, false] rfl rfl (one_of HT_.out (by kernel_rfl)) (by decide) (fun K hK => ?_)
                    refine goes_ Try.func22 (by kernel_rfl) rfl #[.agg #[.int .i64 x174000_1, .slice Ao21 x174001_1.length co21], .agg #[.int .u8 ((rd_T39 l3 x12_1).f0), .int .i64 ((rd_T39 l3 x12_1).f1), .int .i64 ((rd_T39 l3 x12_1).f2), .int .u64 ((rd_T39 l3 x12_1).f3)]] (by rfl) rfl rfl (by (try simp only [List.map_toArray, List.map_cons, List.map_nil]); first | done | rfl | (simp only [List.length_drop, List.length_take]; rfl)) ?_
                    with_reducible refine (meta_Apply.calls k1 x174000_1 _ _ x174001_1 ((rd_T39 l3 x12_1).f0) ((rd_T39 l3 x12_1).f1) ((rd_T39 l3 x12_1).f2) ((rd_T39 l3 x12_1).f3) t175 t176 t179 _ ?side1 ?side2 A19.out).mono ?_
                    (case side1 => repeat (first | exact (Kd.S_reads' HO_174001.out).2.2 | (with_reducible refine Kd.C_alloc ?_ _) | (with_reducible refine Kd.C_drewN ?_ _) | (with_reducible refine Kd.C_drew ?_)))
                    (case side2 => exact (Kd.S_reads' HO_174001.out).2.1)
                    rintro e w22 ⟨v177, rfl, ho0, hb⟩
                    refine ⟨_, rfl, ?_⟩
                    have n0_ := Aside0.mk (Kd.S_elder' (by (with_reducible repeat (first | apply Kd.S_alloc | apply Kd.S_drewN | apply Kd.S_drew)); exact HO_174001.out) (Kd.S_base ho0) hb)
                    have n1_ := Aside0.mk (Kd.S_lower (Kd.S_new' ho0 (Kd.S_lt (by (with_reducible repeat (first | apply Kd.S_alloc | apply Kd.S_drewN | apply Kd.S_drew)); exact HO_174001.out))) (below_size (by repeat (first | (with_reducible first | exact HB.out | apply below_alloc | apply pw_below_drewN | apply below_drew1 | refine below_set ?_ GE173.out) | exact HB.out))))
                    have n2_ := Aside0.mk (blk_below (g := gb173) (o := .cells #[.int .i64 x174000_1, .slice Ao21 x174001_1.length co21] 24 (0, 0)) (by (with_reducible repeat (first | refine blk_drewN ?_ _ | refine blk_drew ?_ | refine blk_alloc ?_ _)); exact BK173.out) hb)
                    have n3_ := Aside0.mk (below_step (by repeat (first | (with_reducible first | exact HB.out | apply below_alloc | apply pw_below_drewN | apply below_drew1 | refine below_set ?_ GE173.out) | exact HB.out)) hb)
                    clear HO_174001
                    clear BK173
                    clear HB
                    have HO_174001 := n0_
                    have HO178 := n1_
                    have BK173 := n2_
                    have HB := n3_
                    clear n0_ n1_ n2_ n3_
                    (try clear hb)
                    (try clear hb2)
                    (try clear hk)
                    (try clear hi)
                    (try clear ho0)
                    obtain ⟨Ao24, co24, eo24⟩ := Kd.S_slice HO178.out
                    (first | subst eo24 | (injection eo24 with f1_ f2_ f3_; have f4_ := f1_.symm; have f5_ := f3_.symm; clear f1_ f2_ f3_; subst f4_; subst f5_))
                    refine hK.out _ _ ⟨(blk_cell BK173.out 0).trans rfl, (blk_cell BK173.out 1).trans rfl, ((HB.out.cell (World.block_lt_of_cell? w _ hw174_0)).trans hw174_0), ((HB.out.cell (World.block_lt_of_cell? w _ hw174_1)).trans hw174_1), ((HB.out.cell (World.block_lt_of_cell? w _ hw174_2)).trans hw174_2), ((HB.out.cell (World.block_lt_of_cell? w _ hw174_3)).trans hw174_3)⟩ (fun hHeld => ?_)
                    clear hK K
                    refine norm_ (a' := ?_) ?_ ?_
                    rotate_left
                    · show Act.put _ (some 58) _ = _
                      simp only [Act.put, List.setIfInBounds_toArray, List.set_cons_zero, List.set_cons_succ, i64_w, i32_w]
                      rfl
                    refine pure_ (i := 6) (N := some 52) (v := ?_) (a' := ?_) #[true, true, true, true, true, true, true, false, false, false] rfl rfl (any_of HT_.out (by kernel_rfl)) (fun _ _ _ h => h) (Or.inl ⟨by rfl, ?_⟩) ?_ ?_
                    rotate_left
                    · intro w'
                      go_simp
                      with_reducible rfl
                    rotate_left
                    · simp only [Act.put, List.setIfInBounds_toArray, List.set_cons_zero, List.set_cons_succ, i64_w, i32_w]
                      rfl
                    refine pure_ (i := 7) (N := some 59) (v := ?_) (a' := ?_) #[true, true, true, true, true, true, true, true, false, false] rfl rfl (any_of HT_.out (by kernel_rfl)) (fun _ _ _ h => h) (Or.inl ⟨by rfl, ?_⟩) ?_ ?_
                    rotate_left
                    · intro w'
                      go_simp
                      with_reducible rfl
                    rotate_left
                    · simp only [Act.put, List.setIfInBounds_toArray, List.set_cons_zero, List.set_cons_succ, i64_w, i32_w]
                      rfl
                    refine pure_ (i := 8) (N := some 60) (v := ?_) (a' := ?_) #[true, true, true, true, true, true, true, true, true, false] rfl rfl (any_of HT_.out (by kernel_rfl)) (fun _ _ _ h => h) (Or.inl ⟨by rfl, ?_⟩) ?_ ?_
                    rotate_left
                    · intro w'
                      go_simp
                      with_reducible rfl
                    rotate_left
                    · simp only [Act.put, List.setIfInBounds_toArray, List.set_cons_zero, List.set_cons_succ, i64_w, i32_w]
                      rfl
                    refine last_ (i := 9) (N := none) #[true, true, true, true, true, true, true, true, true, true] rfl rfl (one_of HT_.out (by kernel_rfl)) (by decide) (fun K hK => ?_)
                    have hs23 : w22.cell? ⟨gb173, 0, none⟩ = some (.int .i64 x174000_1) := (blk_cell BK173.out 0).trans rfl
                    have hfs23 := blk_frozen BK173.out 0
                    have hs25 : w22.cell? ⟨gb173, 1, none⟩ = some (.slice Ao21 x174001_1.length co21) := (blk_cell BK173.out 1).trans rfl
                    have hfs25 := blk_frozen BK173.out 1
                    refine skip_ (w1 := ?_) (by rfl) rfl ?_ ?_
                    rotate_left
                    · go_simp
                      rfl
                    refine hK.out _ _ ?_
                    clear hK K
                    refine done_ (done_of HT_.out (by kernel_rfl)) ?_
                    try go_wp2
                    go_roundg k1
                    case measure => have := HK1.out; omega
                    case rel => exact ⟨(wrap64 (x12_1 + 1)), (t175), (t176), (.slice Ao24 t176.length co24), (by first | rfl | (simp; done) | (simp [*]; done)), H', ⟨by have := HK1.out; omega⟩, ⟨by (with_reducible repeat (first | apply Kd.S_alloc | apply Kd.S_drewN | apply Kd.S_drew)); exact Kd.S_mono (Kd.S_far (p := ⟨gb173, 1, none⟩) (Kd.S_far (p := ⟨gb173, 0, none⟩) (Kd.S_types HO178.out BK173.out (by decide)) (fun _ hk => hk.2) (.int .i64 t175)) (fun _ hk => hk.2) (.slice Ao24 t176.length co24)) (fun _ hk => trivial)⟩, ⟨by (with_reducible repeat (first | refine blk_drewN ?_ _ | refine blk_drew ?_ | refine blk_alloc ?_ _)); refine blk_put (cs := #[.int .i64 t175, .slice Ao21 x174001_1.length co21]) ?_ 1 _ rfl; (with_reducible repeat (first | refine blk_drewN ?_ _ | refine blk_drew ?_ | refine blk_alloc ?_ _)); refine blk_put (cs := #[.int .i64 x174000_1, .slice Ao21 x174001_1.length co21]) ?_ 0 _ rfl; (with_reducible repeat (first | refine blk_drewN ?_ _ | refine blk_drew ?_ | refine blk_alloc ?_ _)); exact BK173.out⟩, ⟨by repeat (first | (with_reducible first | exact HB.out | apply below_alloc | apply pw_below_drewN | apply below_drew1 | refine below_set ?_ GE173.out) | exact HB.out)⟩⟩
                  · rw [if_neg c18] at H
                    exact absurd H (by simp)
                · rw [if_neg c17] at H
                  have c17b0 : decide (x12_1 < 40) = false := decide_eq_false c17
                  clear c17
                  have H' := Aside0.mk H
                  clear H
                  go_wp2
                  go_meet
                  case rel => exact ⟨_, (x174000_1), (x174001_1), (u174001), H', ⟨by have := HK1.out; first | omega | exact Nat.le_refl _⟩, ⟨by (with_reducible repeat (first | apply Kd.S_alloc | apply Kd.S_drewN | apply Kd.S_drew)); exact HO_174001.out⟩, ⟨by (with_reducible repeat (first | refine blk_drewN ?_ _ | refine blk_drew ?_ | refine blk_alloc ?_ _)); exact BK173.out⟩, ⟨by repeat (first | (with_reducible first | exact HB.out | apply below_alloc | apply pw_below_drewN | apply below_drew1 | refine below_set ?_ GE173.out) | exact HB.out)⟩⟩
              · rw [if_neg c16] at H
                have c16b0 : decide (x12_1 < (l3.length : Int)) = false := decide_eq_false c16
                clear c16
                (first | rw [c16b0] | (simp only [i64_w, i32_w]; rw [c16b0]) | skip)
                have H' := Aside0.mk H
                clear H
                go_wp2
                go_meet
                case rel => exact ⟨_, (x174000_1), (x174001_1), (u174001), H', ⟨by have := HK1.out; first | omega | exact Nat.le_refl _⟩, ⟨by (with_reducible repeat (first | apply Kd.S_alloc | apply Kd.S_drewN | apply Kd.S_drew)); exact HO_174001.out⟩, ⟨by (with_reducible repeat (first | refine blk_drewN ?_ _ | refine blk_drew ?_ | refine blk_alloc ?_ _)); exact BK173.out⟩, ⟨by repeat (first | (with_reducible first | exact HB.out | apply below_alloc | apply pw_below_drewN | apply below_drew1 | refine below_set ?_ GE173.out) | exact HB.out)⟩⟩
        case rest =>
          clear HC10
          try clear c1
          try clear p1
          try clear q1
          try clear hx1
          try clear c2
          try clear p2
          try clear c3
          try clear c6
          try clear p6
          try clear c7
          try clear c7b0
          try clear c7b1
          try clear c9
          try clear c9b0
          try clear c9b1
          try clear c11
          try clear c15
          try clear c16
          try clear c16b0
          try clear c17
          try clear c17b0
          try clear p17
          try clear q17
          try clear hx17
          try clear c18
          try clear c18b0
          try clear c22
          try clear hcz14_0
          try clear hcz14_1
          try clear hfz14_0
          try clear hfz14_1
          try clear hx174_0
          try clear hx174_1
          try clear hx174_2
          try clear hx174_3
          try clear p174
          try clear p2
          try clear p6
          try clear q174
          obtain ⟨kq, x174000_9, x174001_9, u174001, HA, HJ9, HO_174001, BK173, HB⟩ := hcut
          cases kq with
          | zero => exact absurd HA.out (by simp [fascinelaw14_MetaEvens.j1])
          | succ kj9 =>
            have H := HA.out
            clear HA
            simp only [fascinelaw14_MetaEvens.j1] at H
            have H' := Aside0.mk H
            clear H
            go_wp2
            go_loopg [13] kj9 (fun kq v13 w' => ∃ (x13_2 : Int) (x174000_2 : Int) (x174001_2 : List (S42)) (u174001 : Value), v13 = .int .i64 x13_2 ∧ Aside0 (fascinelaw14_MetaEvens.l1 kq x13_2 x174000_2 x174001_2 = some r) ∧ Aside0 (kq ≤ kj9) ∧ Aside0 (Kd.S k42 42 w' w.heap.size (fun _ => True) u174001 x174001_2) ∧ Aside0 (w'.heap[gb173]? = some (.cells #[.int .i64 x174000_2, u174001] 24 (0, 0))) ∧ Aside0 (Below w.heap.size w w'))
            case atStart => exact ⟨(0), (x174000_9), (x174001_9), (u174001), (by first | rfl | (simp; done) | (simp [*]; done)), H', ⟨Nat.le_refl _⟩, ⟨by (with_reducible repeat (first | apply Kd.S_alloc | apply Kd.S_drewN | apply Kd.S_drew)); exact HO_174001.out⟩, ⟨by (with_reducible repeat (first | refine blk_drewN ?_ _ | refine blk_drew ?_ | refine blk_alloc ?_ _)); exact BK173.out⟩, ⟨by repeat (first | (with_reducible first | exact HB.out | apply below_alloc | apply pw_below_drewN | apply below_drew1 | refine below_set ?_ GE173.out) | exact HB.out)⟩⟩
            case round =>
              clear H'
              try clear c1
              try clear p1
              try clear q1
              try clear hx1
              try clear c2
              try clear p2
              try clear c3
              try clear c6
              try clear p6
              try clear c7
              try clear c7b0
              try clear c7b1
              try clear c9
              try clear c9b0
              try clear c9b1
              try clear c11
              try clear c15
              try clear c16
              try clear c16b0
              try clear c17
              try clear c17b0
              try clear p17
              try clear q17
              try clear hx17
              try clear c18
              try clear c18b0
              try clear c22
              try clear hcz14_0
              try clear hcz14_1
              try clear hfz14_0
              try clear hfz14_1
              try clear hx174_0
              try clear hx174_1
              try clear hx174_2
              try clear hx174_3
              try clear p1
              try clear p17
              try clear p174
              try clear p2
              try clear p6
              try clear q1
              try clear q17
              try clear q174
              obtain ⟨x13_2, x174000_2, x174001_2, u174001, rfl, HA, HK2, HO_174001, BK173, HB⟩ := hrel
              cases gk with
              | zero => exact absurd HA.out (by simp [fascinelaw14_MetaEvens.l1])
              | succ k2 =>
                have H := HA.out
                clear HA
                simp only [fascinelaw14_MetaEvens.l1] at H
                by_cases c26 : x13_2 < 60
                · rw [if_pos c26] at H
                  have c26b0 : decide (x13_2 < 60) = true := decide_eq_true c26
                  clear c26
                  replace H := Option.bind_eq_some_iff.mp H
                  obtain ⟨⟨t180, t181, t182, t183⟩, A270, H⟩ := H
                  replace H : (if t183 = true then (if t180 < 0 then (fascinelaw14_MetaEvens.j3 k2 x13_2 t180 t181 t182 true x174000_2 x174001_2) else (fascinelaw14_MetaEvens.j3 k2 x13_2 t180 t181 t182 (decide (t180 ≥ (x174001_2.length : Int))) x174000_2 x174001_2)) else (some true)) = some r := H
                  have A27 := Aside0.mk A270
                  clear A270
                  by_cases c28 : t183 = true
                  · subst c28
                    have H1 : (if t180 < 0 then (fascinelaw14_MetaEvens.j3 k2 x13_2 t180 t181 t182 true x174000_2 x174001_2) else (fascinelaw14_MetaEvens.j3 k2 x13_2 t180 t181 t182 (decide (t180 ≥ (x174001_2.length : Int))) x174000_2 x174001_2)) = some r := by rw [if_pos rfl] at H; exact H
                    clear H
                    have H := H1
                    clear H1
                    have HC29 := Aside0.mk H
                    clear H
                    have hcz30_0 : wr.cell? ⟨gb173, 0, none⟩ = some (.int .i64 x174000_2) := (blk_cell BK173.out 0).trans rfl
                    have hcz30_1 : wr.cell? ⟨gb173, 1, none⟩ = some (u174001) := (blk_cell BK173.out 1).trans rfl
                    have hfz30_0 := blk_frozen BK173.out 0
                    have hfz30_1 := blk_frozen BK173.out 1
                    obtain ⟨Ao31, co31, eo31⟩ := Kd.S_slice HO_174001.out
                    subst eo31
                    go_upto_region 17 with (first | ((with_reducible refine gate_callee (f := 36) rfl ?_); refine goesL_ (some 67) rfl rfl Try.func36 (by kernel_rfl) rfl #[.agg #[.int .i64 x174000_2, .slice Ao31 x174001_2.length co31]] rfl (by (try simp only [List.map_toArray, List.map_cons, List.map_nil]); first | done | rfl | (simp only [List.length_drop, List.length_take]; rfl)) ?_; (with_reducible refine (meta_Plan.calls k2 x174000_2 _ _ x174001_2 t180 t181 t182 true _ ?side1 ?side2 A27.out).mono ?_); (case side1 => repeat (first | exact (Kd.S_reads' HO_174001.out).2.2 | (with_reducible refine Kd.C_alloc ?_ _) | (with_reducible refine Kd.C_drewN ?_ _) | (with_reducible refine Kd.C_drew ?_))); (case side2 => exact (Kd.S_reads' HO_174001.out).2.1); rintro e w32 ⟨rfl, hb⟩; refine ⟨_, rfl, ?_⟩; have n0_ := Aside0.mk (Kd.S_below (by (with_reducible repeat (first | apply Kd.S_alloc | apply Kd.S_drewN | apply Kd.S_drew)); exact HO_174001.out) hb); have n1_ := Aside0.mk (blk_below (g := gb173) (o := .cells #[.int .i64 x174000_2, .slice Ao31 x174001_2.length co31] 24 (0, 0)) (by (with_reducible repeat (first | refine blk_drewN ?_ _ | refine blk_drew ?_ | refine blk_alloc ?_ _)); exact BK173.out) hb); have n2_ := Aside0.mk (below_step (by repeat (first | (with_reducible first | exact HB.out | apply below_alloc | apply pw_below_drewN | apply below_drew1 | refine below_set ?_ GE173.out) | exact HB.out)) hb); clear HO_174001; clear BK173; clear HB; have HO_174001 := n0_; have BK173 := n1_; have HB := n2_; clear n0_ n1_ n2_; (try clear hb); (try clear hb2); (try clear hk); (try clear hi)))
                    (try simp only [Act.put, List.setIfInBounds_toArray, List.set_cons_zero, List.set_cons_succ])
                    go_cut [82] (fun v82 wc => ∃ (kq : Nat) (x82_28 : Bool), v82 = .bool x82_28 ∧ Aside0 (fascinelaw14_MetaEvens.j3 kq x13_2 t180 t181 t182 x82_28 x174000_2 x174001_2 = some r) ∧ Aside0 (kq ≤ k2) ∧ Aside0 (Kd.S k42 42 wc w.heap.size (fun _ => True) (.slice Ao31 x174001_2.length co31) x174001_2) ∧ Aside0 (wc.heap[gb173]? = some (.cells #[.int .i64 x174000_2, (.slice Ao31 x174001_2.length co31)] 24 (0, 0))) ∧ Aside0 (Below w.heap.size w wc))
                    case first =>
                      have H := HC29.out
                      clear HC29
                      by_cases c33 : t180 < 0
                      · rw [if_pos c33] at H
                        have c33b0 : decide (t180 < 0) = true := decide_eq_true c33
                        clear c33
                        (first | rw [c33b0] | (simp only [i64_w, i32_w]; rw [c33b0]) | skip)
                        have H' := Aside0.mk H
                        clear H
                        go_wp2
                        go_meet
                        case rel => exact ⟨_, (true), (by first | rfl | (simp; done) | (simp [*]; done)), H', ⟨by have := HJ9.out; have := HK2.out; first | omega | exact Nat.le_refl _⟩, ⟨by (with_reducible repeat (first | apply Kd.S_alloc | apply Kd.S_drewN | apply Kd.S_drew)); exact HO_174001.out⟩, ⟨by (with_reducible repeat (first | refine blk_drewN ?_ _ | refine blk_drew ?_ | refine blk_alloc ?_ _)); exact BK173.out⟩, ⟨by repeat (first | (with_reducible first | exact HB.out | apply below_alloc | apply pw_below_drewN | apply below_drew1 | refine below_set ?_ GE173.out) | exact HB.out)⟩⟩
                      · rw [if_neg c33] at H
                        have c33b0 : decide (t180 < 0) = false := decide_eq_false c33
                        clear c33
                        (first | rw [c33b0] | (simp only [i64_w, i32_w]; rw [c33b0]) | skip)
                        have H' := Aside0.mk H
                        clear H
                        have hcz34_0 : w32.cell? ⟨gb173, 0, none⟩ = some (.int .i64 x174000_2) := (blk_cell BK173.out 0).trans rfl
                        have hcz34_1 : w32.cell? ⟨gb173, 1, none⟩ = some (.slice Ao31 x174001_2.length co31) := (blk_cell BK173.out 1).trans rfl
                        have hfz34_0 := blk_frozen BK173.out 0
                        have hfz34_1 := blk_frozen BK173.out 1
                        go_wp2
                        go_meet
                        case rel => exact ⟨_, (decide (t180 ≥ (x174001_2.length : Int))), (by first | rfl | (simp; done) | (simp [*]; done)), H', ⟨by have := HJ9.out; have := HK2.out; first | omega | exact Nat.le_refl _⟩, ⟨by (with_reducible repeat (first | apply Kd.S_alloc | apply Kd.S_drewN | apply Kd.S_drew)); exact HO_174001.out⟩, ⟨by (with_reducible repeat (first | refine blk_drewN ?_ _ | refine blk_drew ?_ | refine blk_alloc ?_ _)); exact BK173.out⟩, ⟨by repeat (first | (with_reducible first | exact HB.out | apply below_alloc | apply pw_below_drewN | apply below_drew1 | refine below_set ?_ GE173.out) | exact HB.out)⟩⟩
                    case rest =>
                      clear HC29
                      try clear c1
                      try clear p1
                      try clear q1
                      try clear hx1
                      try clear c2
                      try clear p2
                      try clear c3
                      try clear c6
                      try clear p6
                      try clear c7
                      try clear c7b0
                      try clear c7b1
                      try clear c9
                      try clear c9b0
                      try clear c9b1
                      try clear c11
                      try clear c15
                      try clear c16
                      try clear c16b0
                      try clear c17
                      try clear c17b0
                      try clear p17
                      try clear q17
                      try clear hx17
                      try clear c18
                      try clear c18b0
                      try clear c22
                      try clear c26
                      try clear c26b0
                      try clear c28
                      try clear c33
                      try clear c33b0
                      try clear hcz14_0
                      try clear hcz14_1
                      try clear hcz30_0
                      try clear hcz30_1
                      try clear hcz34_0
                      try clear hcz34_1
                      try clear hfz14_0
                      try clear hfz14_1
                      try clear hfz30_0
                      try clear hfz30_1
                      try clear hfz34_0
                      try clear hfz34_1
                      try clear hx174_0
                      try clear hx174_1
                      try clear hx174_2
                      try clear hx174_3
                      try clear p1
                      try clear p17
                      try clear p174
                      try clear p2
                      try clear p6
                      try clear q1
                      try clear q17
                      try clear q174
                      obtain ⟨kq, x82_28, rfl, HA, HJ28, HO_174001, BK173, HB⟩ := hcut
                      cases kq with
                      | zero => exact absurd HA.out (by simp [fascinelaw14_MetaEvens.j3])
                      | succ kj28 =>
                        have H := HA.out
                        clear HA
                        simp only [fascinelaw14_MetaEvens.j3] at H
                        by_cases c35 : x82_28 = true
                        · subst c35
                          have H1 : (some false) = some r := by rw [if_pos rfl] at H; exact H
                          clear H
                          have H := H1
                          clear H1
                          exact absurd (HR_.out.symm.trans (Option.some.inj H).symm) (by decide)
                        · replace c35 := Bool.eq_false_iff.mpr c35
                          subst c35
                          have H1 : (if 0 ≤ t180 then (if t180 < (x174001_2.length : Int) then ((meta_Apply.f kj28 x174000_2 x174001_2 2 t180 t182 ((rd_T42 x174001_2 t180).f0)).bind fun bt185 => (if bt185.2.2 = true then (if t180 < (bt185.2.1.length : Int) then (if ((rd_T42 bt185.2.1 t180).f2) = t181 then ((meta_Apply.f kj28 bt185.1 bt185.2.1 1 t180 t182 ((rd_T42 bt185.2.1 t180).f0)).bind fun bt193 => (if bt193.2.2 = true then (if t180 < (bt193.2.1.length : Int) then ((meta_Apply.f kj28 bt193.1 bt193.2.1 3 t180 t181 ((rd_T42 bt193.2.1 t180).f0)).bind fun bt199 => (if bt199.2.2 = true then (fascinelaw14_MetaEvens.l1 kj28 (wrap64 (x13_2 + 1)) bt199.1 bt199.2.1) else (some false))) else (none)) else (some false))) else ((meta_Apply.f kj28 bt185.1 bt185.2.1 3 t180 t181 ((rd_T42 bt185.2.1 t180).f0)).bind fun bt205 => (if bt205.2.2 = true then (fascinelaw14_MetaEvens.l1 kj28 (wrap64 (x13_2 + 1)) bt205.1 bt205.2.1) else (some false)))) else (none)) else (some false))) else (none)) else (none)) = some r := by rw [if_neg (show ¬ (false = true) by decide)] at H; exact H
                          clear H
                          have H := H1
                          clear H1
                          by_cases c36 : 0 ≤ t180
                          · rw [if_pos c36] at H
                            have c36b0 : decide (0 ≤ t180) = true := decide_eq_true c36
                            clear c36
                            by_cases c37 : t180 < (x174001_2.length : Int)
                            · rw [if_pos c37] at H
                              have c37b0 : decide (t180 < (x174001_2.length : Int)) = true := decide_eq_true c37
                              clear c37
                              replace H := Option.bind_eq_some_iff.mp H
                              obtain ⟨⟨t185, t186, t189⟩, A380, H⟩ := H
                              replace H : (if t189 = true then (if t180 < (t186.length : Int) then (if ((rd_T42 t186 t180).f2) = t181 then ((meta_Apply.f kj28 t185 t186 1 t180 t182 ((rd_T42 t186 t180).f0)).bind fun bt193 => (if bt193.2.2 = true then (if t180 < (bt193.2.1.length : Int) then ((meta_Apply.f kj28 bt193.1 bt193.2.1 3 t180 t181 ((rd_T42 bt193.2.1 t180).f0)).bind fun bt199 => (if bt199.2.2 = true then (fascinelaw14_MetaEvens.l1 kj28 (wrap64 (x13_2 + 1)) bt199.1 bt199.2.1) else (some false))) else (none)) else (some false))) else ((meta_Apply.f kj28 t185 t186 3 t180 t181 ((rd_T42 t186 t180).f0)).bind fun bt205 => (if bt205.2.2 = true then (fascinelaw14_MetaEvens.l1 kj28 (wrap64 (x13_2 + 1)) bt205.1 bt205.2.1) else (some false)))) else (none)) else (some false)) = some r := H
                              have A38 := Aside0.mk A380
                              clear A380
                              by_cases c39 : t189 = true
                              · subst c39
                                have H1 : (if t180 < (t186.length : Int) then (if ((rd_T42 t186 t180).f2) = t181 then ((meta_Apply.f kj28 t185 t186 1 t180 t182 ((rd_T42 t186 t180).f0)).bind fun bt193 => (if bt193.2.2 = true then (if t180 < (bt193.2.1.length : Int) then ((meta_Apply.f kj28 bt193.1 bt193.2.1 3 t180 t181 ((rd_T42 bt193.2.1 t180).f0)).bind fun bt199 => (if bt199.2.2 = true then (fascinelaw14_MetaEvens.l1 kj28 (wrap64 (x13_2 + 1)) bt199.1 bt199.2.1) else (some false))) else (none)) else (some false))) else ((meta_Apply.f kj28 t185 t186 3 t180 t181 ((rd_T42 t186 t180).f0)).bind fun bt205 => (if bt205.2.2 = true then (fascinelaw14_MetaEvens.l1 kj28 (wrap64 (x13_2 + 1)) bt205.1 bt205.2.1) else (some false)))) else (none)) = some r := by rw [if_pos rfl] at H; exact H
                                clear H
                                have H := H1
                                clear H1
                                by_cases c40 : t180 < (t186.length : Int)
                                · rw [if_pos c40] at H
                                  have c40b0 : decide (t180 < (t186.length : Int)) = true := decide_eq_true c40
                                  clear c40
                                  by_cases c41 : ((rd_T42 t186 t180).f2) = t181
                                  · rw [if_pos c41] at H
                                    have c41b0 : (((rd_T42 t186 t180).f2) == t181) = true := beq_iff_eq.mpr c41
                                    have c41b1 : (((rd_T42 t186 t180).f2) != t181) = false := bne_eq_false_iff_eq.mpr c41
                                    clear c41
                                    replace H := Option.bind_eq_some_iff.mp H
                                    obtain ⟨⟨t193, t194, t197⟩, A420, H⟩ := H
                                    replace H : (if t197 = true then (if t180 < (t194.length : Int) then ((meta_Apply.f kj28 t193 t194 3 t180 t181 ((rd_T42 t194 t180).f0)).bind fun bt199 => (if bt199.2.2 = true then (fascinelaw14_MetaEvens.l1 kj28 (wrap64 (x13_2 + 1)) bt199.1 bt199.2.1) else (some false))) else (none)) else (some false)) = some r := H
                                    have A42 := Aside0.mk A420
                                    clear A420
                                    by_cases c43 : t197 = true
                                    · subst c43
                                      have H1 : (if t180 < (t194.length : Int) then ((meta_Apply.f kj28 t193 t194 3 t180 t181 ((rd_T42 t194 t180).f0)).bind fun bt199 => (if bt199.2.2 = true then (fascinelaw14_MetaEvens.l1 kj28 (wrap64 (x13_2 + 1)) bt199.1 bt199.2.1) else (some false))) else (none)) = some r := by rw [if_pos rfl] at H; exact H
                                      clear H
                                      have H := H1
                                      clear H1
                                      by_cases c44 : t180 < (t194.length : Int)
                                      · rw [if_pos c44] at H
                                        have c44b0 : decide (t180 < (t194.length : Int)) = true := decide_eq_true c44
                                        clear c44
                                        replace H := Option.bind_eq_some_iff.mp H
                                        obtain ⟨⟨t199, t200, t203⟩, A450, H⟩ := H
                                        replace H : (if t203 = true then (fascinelaw14_MetaEvens.l1 kj28 (wrap64 (x13_2 + 1)) t199 t200) else (some false)) = some r := H
                                        have A45 := Aside0.mk A450
                                        clear A450
                                        by_cases c46 : t203 = true
                                        · subst c46
                                          have H1 : (fascinelaw14_MetaEvens.l1 kj28 (wrap64 (x13_2 + 1)) t199 t200) = some r := by rw [if_pos rfl] at H; exact H
                                          clear H
                                          have H := H1
                                          clear H1
                                          have H' := Aside0.mk H
                                          clear H
                                          try go_wp2
                                          (try (rw [drewN_self wc]; generalize hq_ : World.drewN wc _ = wc; have n0_ : Aside0 (Kd.S k42 42 wc w.heap.size (fun _ => True) (.slice Ao31 x174001_2.length co31) x174001_2) := ⟨by rw [← hq_]; exact (by (with_reducible repeat (first | apply Kd.S_alloc | apply Kd.S_drewN | apply Kd.S_drew)); exact HO_174001.out)⟩; have n1_ : Aside0 (wc.heap[gb173]? = some (.cells #[.int .i64 x174000_2, .slice Ao31 x174001_2.length co31] 24 (0, 0))) := ⟨by rw [← hq_]; exact (by (with_reducible repeat (first | refine blk_drewN ?_ _ | refine blk_drew ?_ | refine blk_alloc ?_ _)); exact BK173.out)⟩; have n2_ : Aside0 (Below w.heap.size w wc) := ⟨by rw [← hq_]; exact (by repeat (first | (with_reducible first | exact HB.out | apply below_alloc | apply pw_below_drewN | apply below_drew1 | refine below_set ?_ GE173.out) | exact HB.out))⟩; clear HO_174001 BK173 HB hq_; have HO_174001 := n0_; have BK173 := n1_; have HB := n2_; clear n0_ n1_ n2_))
                                          have n0_ := Aside0.mk (Kd.S_drew HO_174001.out)
                                          have n1_ := Aside0.mk (blk_drew BK173.out)
                                          have n2_ := Aside0.mk (below_drew1 HB.out)
                                          clear HO_174001
                                          clear BK173
                                          clear HB
                                          have HO_174001 := n0_
                                          have BK173 := n1_
                                          have HB := n2_
                                          clear n0_ n1_ n2_
                                          have p184 : 0 ≤ (t180 : Int) := of_decide_eq_true (by first | (with_reducible assumption) | assumption)
                                          have q184 : t180 < (x174001_2.length : Int) := of_decide_eq_true (by first | (with_reducible assumption) | assumption)
                                          obtain ⟨ad184, A184_3, c184_3, e184, hx184_0, hx184_1, hx184_2, hx184_3, hl184_3, hi184_3⟩ := at_T42 (Kd.S_reads' HO_174001.out).2.2 t180 p184 q184
                                          cases e184
                                          obtain ⟨ce184, hce184, hMe184, hcc184⟩ := Kd.S_get HO_174001.out z42 t180 p184 (by first | exact q184 | exact of_decide_eq_true (by first | (with_reducible assumption) | assumption) | (have e_ := (Kd.S_reads' HO_174001.out).1; omega))
                                          obtain ⟨ve184_3, rfl, ge184_3⟩ := k42_openM hMe184
                                          have hv184_3 := hcc184 3 _ rfl
                                          rw [add_field _ _ 3 (by omega)] at hv184_3
                                          replace hv184_3 := Option.some.inj (hv184_3.symm.trans hx184_3)
                                          rw [hv184_3] at ge184_3
                                          have HL184_3 := Aside0.mk (show Kd.R (Kd.int .i64) 3 _ _ _ _ ((rd_T42 x174001_2 t180).f3) from ge184_3)
                                          clear hv184_3 ge184_3
                                          clear hcc184 hce184
                                          have HR184_3 := Aside0.mk hi184_3
                                          have HC184_3 := Aside0.mk hl184_3
                                          clear hi184_3 hl184_3
                                          replace p184 := eq_true p184
                                          replace q184 := eq_true q184
                                          refine start_ (n := 17) (S := fun w' => w'.cell? ⟨gb173, 0, none⟩ = some (.int .i64 x174000_2) ∧ w'.cell? ⟨gb173, 1, none⟩ = some (.slice (some ad184) x174001_2.length co31) ∧ w'.cell? (ad184.add ((t180).toNat * 4)) = some (.int .u64 ((rd_T42 x174001_2 t180).f0)) ∧ w'.cell? ⟨(ad184.add ((t180).toNat * 4)).block, (ad184.add ((t180).toNat * 4)).off + 1, none⟩ = some (.int .u64 ((rd_T42 x174001_2 t180).f1)) ∧ w'.cell? ⟨(ad184.add ((t180).toNat * 4)).block, (ad184.add ((t180).toNat * 4)).off + 2, none⟩ = some (.int .i64 ((rd_T42 x174001_2 t180).f2)) ∧ w'.cell? ⟨(ad184.add ((t180).toNat * 4)).block, (ad184.add ((t180).toNat * 4)).off + 3, none⟩ = some (.slice A184_3 ((rd_T42 x174001_2 t180).f3).length c184_3)) (ds := []) #[false, false, false, false, false, false, false, false, false, false, false, false, false, false, false, false, false] (by kernel_rfl) rfl rfl ⟨(blk_cell BK173.out 0).trans rfl, (blk_cell BK173.out 1).trans rfl, hx184_0, hx184_1, hx184_2, hx184_3⟩ (fun hHeld => ?_); refine with_tabW fascinelaw14_MetaEvens.tab19 fascinelaw14_MetaEvens.bits19 (fun HT_ HW_ => ?_)
                                          generalize wc.drew = w47 at HO_174001 BK173 HB HL184_3 HR184_3 hx184_0 hx184_1 hx184_2 hx184_3 hHeld ⊢
                                          refine pure_ (i := 1) (N := some 85) (v := ?_) (a' := ?_) #[false, true, false, false, false, false, false, false, false, false, false, false, false, false, false, false, false] rfl rfl (any_of HT_.out (by kernel_rfl)) (fun _ _ _ h => h) (Or.inl ⟨by rfl, ?_⟩) ?_ ?_
                                          rotate_left
                                          · intro w'
                                            go_simp
                                            with_reducible rfl
                                          rotate_left
                                          · simp only [Act.put, List.setIfInBounds_toArray, List.set_cons_zero, List.set_cons_succ, i64_w, i32_w]
                                            rfl
                                          refine pure_ (i := 2) (N := some 86) (v := ?_) (a' := ?_) #[false, true, true, false, false, false, false, false, false, false, false, false, false, false, false, false, false] rfl rfl (any_of HT_.out (by kernel_rfl)) (fun _ _ _ h => h) (Or.inl ⟨by rfl, ?_⟩) ?_ ?_
                                          rotate_left
                                          · intro w'
                                            go_simp
                                            with_reducible rfl
                                          rotate_left
                                          · simp only [Act.put, List.setIfInBounds_toArray, List.set_cons_zero, List.set_cons_succ, i64_w, i32_w]
                                            rfl
                                          refine pure_ (i := 3) (N := some 87) (v := ?_) (a' := ?_) #[false, true, true, true, false, false, false, false, false, false, false, false, false, false, false, false, false] rfl rfl (any_of HT_.out (by kernel_rfl)) (fun _ _ _ h => h) (Or.inl ⟨by rfl, ?_⟩) ?_ ?_
                                          rotate_left
                                          · intro w'
                                            go_simp
                                            with_reducible rfl
                                          rotate_left
                                          · simp only [Act.put, List.setIfInBounds_toArray, List.set_cons_zero, List.set_cons_succ, i64_w, i32_w]
                                            rfl
                                          refine pure_ (i := 5) (N := some 89) (v := ?_) (a' := ?_) #[false, true, true, true, false, true, false, false, false, false, false, false, false, false, false, false, false] rfl rfl (any_of HT_.out (by kernel_rfl)) (fun _ _ _ h => h) (Or.inl ⟨by rfl, ?_⟩) ?_ ?_
                                          rotate_left
                                          · intro w'
                                            go_simp
                                            with_reducible rfl
                                          rotate_left
                                          · simp only [Act.put, List.setIfInBounds_toArray, List.set_cons_zero, List.set_cons_succ, i64_w, i32_w]
                                            rfl
                                          refine take_ (i := 0) (N := some 84) (v := ?_) (a' := ?_) #[true, true, true, true, false, true, false, false, false, false, false, false, false, false, false, false, false] rfl rfl (take_ofW HT_.out HW_.out (by kernel_rfl)) (fun _ _ _ h => h) (Or.inl ⟨by rfl, ?_⟩) hHeld ?_ ?_
                                          rotate_left
                                          · rintro w' ⟨s0, s1, s2, s3, s4, s5⟩
                                            go_simp
                                            with_reducible rfl
                                          rotate_left
                                          · simp only [Act.put, List.setIfInBounds_toArray, List.set_cons_zero, List.set_cons_succ, i64_w, i32_w]
                                            rfl
                                          refine take_ (i := 4) (N := some 88) (v := ?_) (a' := ?_) #[true, true, true, true, true, true, false, false, false, false, false, false, false, false, false, false, false] rfl rfl (take_ofW HT_.out HW_.out (by kernel_rfl)) (fun _ _ _ h => h) (Or.inl ⟨by rfl, ?_⟩) hHeld ?_ ?_
                                          rotate_left
                                          · rintro w' ⟨s0, s1, s2, s3, s4, s5⟩
                                            go_simp
                                            with_reducible rfl
                                          rotate_left
                                          · simp only [Act.put, List.setIfInBounds_toArray, List.set_cons_zero, List.set_cons_succ, i64_w, i32_w]
                                            rfl
                                          refine pure_ (i := 6) (N := some 90) (v := ?_) (a' := ?_) #[true, true, true, true, true, true, true, false, false, false, false, false, false, false, false, false, false] rfl rfl (any_of HT_.out (by kernel_rfl)) (fun _ _ _ h => h) (Or.inl ⟨by rfl, ?_⟩) ?_ ?_
                                          rotate_left
                                          · intro w'
                                            go_simp
                                            with_reducible rfl
                                          rotate_left
                                          · simp only [Act.put, List.setIfInBounds_toArray, List.set_cons_zero, List.set_cons_succ, i64_w, i32_w]
                                            rfl
                                          refine pure_ (i := 7) (N := some 91) (v := ?_) (a' := ?_) #[true, true, true, true, true, true, true, true, false, false, false, false, false, false, false, false, false] rfl rfl (any_of HT_.out (by kernel_rfl)) (fun _ _ _ h => h) (Or.inl ⟨by rfl, ?_⟩) ?_ ?_
                                          rotate_left
                                          · intro w'
                                            go_simp
                                            with_reducible rfl
                                          rotate_left
                                          · simp only [Act.put, List.setIfInBounds_toArray, List.set_cons_zero, List.set_cons_succ, i64_w, i32_w]
                                            rfl
                                          refine take_ (i := 8) (N := some 92) (v := ?_) (a' := ?_) #[true, true, true, true, true, true, true, true, true, false, false, false, false, false, false, false, false] rfl rfl (take_ofW HT_.out HW_.out (by kernel_rfl)) (fun _ _ _ h => h) (Or.inl ⟨by rfl, ?_⟩) hHeld ?_ ?_
                                          rotate_left
                                          · rintro w' ⟨s0, s1, s2, s3, s4, s5⟩
                                            go_simp
                                            with_reducible rfl
                                          rotate_left
                                          · simp only [Act.put, List.setIfInBounds_toArray, List.set_cons_zero, List.set_cons_succ, i64_w, i32_w]
                                            rfl
                                          refine pure_ (i := 9) (N := some 93) (v := ?_) (a' := ?_) #[true, true, true, true, true, true, true, true, true, true, false, false, false, false, false, false, false] rfl rfl (any_of HT_.out (by kernel_rfl)) (fun _ _ _ h => h) (Or.inl ⟨by rfl, ?_⟩) ?_ ?_
                                          rotate_left
                                          · intro w'
                                            go_simp
                                            with_reducible rfl
                                          rotate_left
                                          · simp only [Act.put, List.setIfInBounds_toArray, List.set_cons_zero, List.set_cons_succ, i64_w, i32_w]
                                            rfl
                                          refine join_ (σ := Value × Nat) 2 #[true, true, true, true, true, true, true, true, true, true, true, true, true, true, true, false, false] (fun s_ => [(94, .tuple #[.agg #[.int .i64 t185, s_.1], .bool true]), (18, .pointer (some ⟨s_.2, 0, none⟩)), (83, .tuple #[.agg #[.int .i64 t185, s_.1], .bool true]), (95, .agg #[.int .i64 t185, s_.1]), (96, .bool true)]) (fun s_ w' => (w'.cell? ⟨gb173, 0, none⟩ = some (.int .i64 x174000_2) ∧ w'.cell? ⟨gb173, 1, none⟩ = some (.slice (some ad184) x174001_2.length co31) ∧ w'.cell? (ad184.add ((t180).toNat * 4)) = some (.int .u64 ((rd_T42 x174001_2 t180).f0)) ∧ w'.cell? ⟨(ad184.add ((t180).toNat * 4)).block, (ad184.add ((t180).toNat * 4)).off + 1, none⟩ = some (.int .u64 ((rd_T42 x174001_2 t180).f1)) ∧ w'.cell? ⟨(ad184.add ((t180).toNat * 4)).block, (ad184.add ((t180).toNat * 4)).off + 2, none⟩ = some (.int .i64 ((rd_T42 x174001_2 t180).f2)) ∧ w'.cell? ⟨(ad184.add ((t180).toNat * 4)).block, (ad184.add ((t180).toNat * 4)).off + 3, none⟩ = some (.slice A184_3 ((rd_T42 x174001_2 t180).f3).length c184_3)) ∧ (Kd.R (Kd.int .i64) 3 w' w.heap.size (fun k_ => some k_ ≠ (.slice (some ad184) x174001_2.length co31 : Value).ownBlock) (.slice A184_3 ((rd_T42 x174001_2 t180).f3).length c184_3) ((rd_T42 x174001_2 t180).f3)) ∧ (Kd.S k42 42 w' w.heap.size (fun k_ => some k_ ≠ (.slice A184_3 ((rd_T42 x174001_2 t180).f3).length c184_3 : Value).ownBlock ∧ some k_ ≠ (.slice (some ad184) x174001_2.length co31 : Value).ownBlock) s_.1 t186) ∧ (Kd.S k42 42 w' w.heap.size (fun k_ => some k_ ≠ (s_.1 : Value).ownBlock) (.slice (some ad184) x174001_2.length co31) x174001_2) ∧ (w'.heap[gb173]? = some (.cells #[.int .i64 x174000_2, .slice (some ad184) x174001_2.length co31] 24 (0, 0))) ∧ (w'.heap[s_.2]? = some (.cells #[.int .i64 0, .slice none 0 0] 24 (0, 0))) ∧ (w.heap.size ≤ s_.2) ∧ (w.heap.size ≤ s_.2) ∧ (gb173 ≠ s_.2) ∧ (s_.2 ≠ gb173) ∧ (Below w.heap.size w w')) ?_ ?_
                                          rotate_left
                                          · intro hCont
                                            refine two_ (i := 10) (j := 14) (Ni := some 94) (Nj := some 18) #[true, true, true, true, true, true, true, true, true, true, true, false, false, false, false, false, false] #[true, true, true, true, true, true, true, true, true, true, false, false, false, false, true, false, false] rfl rfl rfl rfl (two_of HT_.out (by kernel_rfl)) (by decide) (by decide) (fun K hK => ?_) (fun K hK => ?_)
                                            · skip
                                              refine goes_ Try.func22 (by kernel_rfl) rfl #[.agg #[.int .i64 x174000_2, .slice (some ad184) x174001_2.length co31], .agg #[.int .u8 2, .int .i64 t180, .int .i64 t182, .int .u64 ((rd_T42 x174001_2 t180).f0)]] (by rfl) rfl rfl (by (try simp only [List.map_toArray, List.map_cons, List.map_nil]); first | done | rfl | (simp only [List.length_drop, List.length_take]; rfl)) ?_
                                              with_reducible refine (meta_Apply.calls kj28 x174000_2 _ _ x174001_2 2 t180 t182 ((rd_T42 x174001_2 t180).f0) t185 t186 true _ ?side1 ?side2 A38.out).mono ?_
                                              (case side1 => repeat (first | exact (Kd.S_reads' HO_174001.out).2.2 | (with_reducible refine Kd.C_alloc ?_ _) | (with_reducible refine Kd.C_drewN ?_ _) | (with_reducible refine Kd.C_drew ?_)))
                                              (case side2 => exact (Kd.S_reads' HO_174001.out).2.1)
                                              rintro e w48 ⟨v187, rfl, ho0, hb⟩
                                              have HS2_ := (hb.cell (World.block_lt_of_cell? _ _ (hHeld.2.2.1))).trans (hHeld.2.2.1)
                                              have HS3_ := (hb.cell (World.block_lt_of_cell? _ _ (hHeld.2.2.2.1))).trans (hHeld.2.2.2.1)
                                              have HS4_ := (hb.cell (World.block_lt_of_cell? _ _ (hHeld.2.2.2.2.1))).trans (hHeld.2.2.2.2.1)
                                              have HS5_ := (hb.cell (World.block_lt_of_cell? _ _ (hHeld.2.2.2.2.2))).trans (hHeld.2.2.2.2.2)
                                              refine ⟨_, rfl, ?_⟩
                                              have n0_ := Aside0.mk (Kd.S_elder' (by (with_reducible repeat (first | apply Kd.S_alloc | apply Kd.S_drewN | apply Kd.S_drew)); exact HO_174001.out) (Kd.S_base ho0) hb)
                                              have n1_ := Aside0.mk (Kd.R_below (by (with_reducible repeat (first | apply Kd.R_alloc | apply Kd.R_drewN | apply Kd.R_drew)); exact HL184_3.out) hb)
                                              have n2_ := Aside0.mk (Kd.S_lower (Kd.S_new' (Kd.S_new' ho0 (Kd.S_lt (by (with_reducible repeat (first | apply Kd.S_alloc | apply Kd.S_drewN | apply Kd.S_drew)); exact HO_174001.out))) (Kd.R_lt (by (with_reducible repeat (first | apply Kd.R_alloc | apply Kd.R_drewN | apply Kd.R_drew)); exact HL184_3.out))) (below_size (by repeat (first | (with_reducible first | exact HB.out | apply below_alloc | apply pw_below_drewN | apply below_drew1 | refine below_set ?_ GE173.out) | exact HB.out))))
                                              have n3_ := Aside0.mk (blk_below (g := gb173) (o := .cells #[.int .i64 x174000_2, .slice (some ad184) x174001_2.length co31] 24 (0, 0)) (by (with_reducible repeat (first | refine blk_drewN ?_ _ | refine blk_drew ?_ | refine blk_alloc ?_ _)); exact BK173.out) hb)
                                              have n4_ := Aside0.mk (Kd.C_below (by repeat (first | (with_reducible exact HR184_3.out) | (with_reducible refine Kd.C_alloc ?_ _) | (with_reducible refine Kd.C_drewN ?_ _) | (with_reducible refine Kd.C_drew ?_) | exact HR184_3.out)) hb)
                                              have n5_ := Aside0.mk (below_step (by repeat (first | (with_reducible first | exact HB.out | apply below_alloc | apply pw_below_drewN | apply below_drew1 | refine below_set ?_ GE173.out) | exact HB.out)) hb)
                                              clear HO_174001
                                              clear HL184_3
                                              clear BK173
                                              clear HR184_3
                                              clear HB
                                              have HO_174001 := n0_
                                              have HL184_3 := n1_
                                              have HO188 := n2_
                                              have BK173 := n3_
                                              have HR184_3 := n4_
                                              have HB := n5_
                                              clear n0_ n1_ n2_ n3_ n4_ n5_
                                              (try clear hb)
                                              (try clear hb2)
                                              (try clear hk)
                                              (try clear hi)
                                              (try clear ho0)
                                              refine hK.out _ _ ⟨(blk_cell BK173.out 0).trans rfl, (blk_cell BK173.out 1).trans rfl, HS2_, HS3_, HS4_, HS5_⟩ (fun hHeld => ?_)
                                              clear hK K
                                              refine norm_ (a' := ?_) ?_ ?_
                                              rotate_left
                                              · show Act.put _ (some 94) _ = _
                                                simp only [Act.put, List.setIfInBounds_toArray, List.set_cons_zero, List.set_cons_succ, i64_w, i32_w]
                                                rfl
                                              refine pure_ (i := 11) (N := some 83) (v := ?_) (a' := ?_) #[true, true, true, true, true, true, true, true, true, true, true, true, false, false, false, false, false] rfl rfl (any_of HT_.out (by kernel_rfl)) (fun _ _ _ h => h) (Or.inl ⟨by rfl, ?_⟩) ?_ ?_
                                              rotate_left
                                              · intro w'
                                                go_simp
                                                with_reducible rfl
                                              rotate_left
                                              · simp only [Act.put, List.setIfInBounds_toArray, List.set_cons_zero, List.set_cons_succ, i64_w, i32_w]
                                                rfl
                                              refine pure_ (i := 12) (N := some 95) (v := ?_) (a' := ?_) #[true, true, true, true, true, true, true, true, true, true, true, true, true, false, false, false, false] rfl rfl (any_of HT_.out (by kernel_rfl)) (fun _ _ _ h => h) (Or.inl ⟨by rfl, ?_⟩) ?_ ?_
                                              rotate_left
                                              · intro w'
                                                go_simp
                                                with_reducible rfl
                                              rotate_left
                                              · simp only [Act.put, List.setIfInBounds_toArray, List.set_cons_zero, List.set_cons_succ, i64_w, i32_w]
                                                rfl
                                              refine pure_ (i := 13) (N := some 96) (v := ?_) (a' := ?_) #[true, true, true, true, true, true, true, true, true, true, true, true, true, true, false, false, false] rfl rfl (any_of HT_.out (by kernel_rfl)) (fun _ _ _ h => h) (Or.inl ⟨by rfl, ?_⟩) ?_ ?_
                                              rotate_left
                                              · intro w'
                                                go_simp
                                                with_reducible rfl
                                              rotate_left
                                              · simp only [Act.put, List.setIfInBounds_toArray, List.set_cons_zero, List.set_cons_succ, i64_w, i32_w]
                                                rfl
                                              refine one_ (i := 14) (N := some 18) #[true, true, true, true, true, true, true, true, true, true, true, true, true, true, true, false, false] rfl rfl (one_of HT_.out (by kernel_rfl)) (by decide) (fun K hK => ?_)
                                              refine box_step ?hg (N := 18) ?hd (cs := #[.int .i64 0, .slice none 0 0]) (t := 24) ?hr ?_; (case hd => rfl); (case hg => rfl); (case hr => first | (go_simp; done) | (go_simp; rfl))
                                              intro gb190 hg w49 hbox hb
                                              have HS2_ := (hb.cell (World.block_lt_of_cell? _ _ (hHeld.2.2.1))).trans (hHeld.2.2.1)
                                              have HS3_ := (hb.cell (World.block_lt_of_cell? _ _ (hHeld.2.2.2.1))).trans (hHeld.2.2.2.1)
                                              have HS4_ := (hb.cell (World.block_lt_of_cell? _ _ (hHeld.2.2.2.2.1))).trans (hHeld.2.2.2.2.1)
                                              have HS5_ := (hb.cell (World.block_lt_of_cell? _ _ (hHeld.2.2.2.2.2))).trans (hHeld.2.2.2.2.2)
                                              have n0_ := Aside0.mk (Kd.S_below (by (with_reducible repeat (first | apply Kd.S_alloc | apply Kd.S_drewN | apply Kd.S_drew)); exact HO_174001.out) hb)
                                              have n1_ := Aside0.mk (Kd.R_below (by (with_reducible repeat (first | apply Kd.R_alloc | apply Kd.R_drewN | apply Kd.R_drew)); exact HL184_3.out) hb)
                                              have n2_ := Aside0.mk (Kd.S_below (by (with_reducible repeat (first | apply Kd.S_alloc | apply Kd.S_drewN | apply Kd.S_drew)); exact HO188.out) hb)
                                              have n3_ := Aside0.mk (blk_below (g := gb173) (o := .cells #[.int .i64 x174000_2, .slice (some ad184) x174001_2.length co31] 24 (0, 0)) (by (with_reducible repeat (first | refine blk_drewN ?_ _ | refine blk_drew ?_ | refine blk_alloc ?_ _)); exact BK173.out) hb)
                                              have n4_ := Aside0.mk (Kd.C_below (by repeat (first | (with_reducible exact HR184_3.out) | (with_reducible refine Kd.C_alloc ?_ _) | (with_reducible refine Kd.C_drewN ?_ _) | (with_reducible refine Kd.C_drew ?_) | exact HR184_3.out)) hb)
                                              have n5_ := Aside0.mk (below_step (by repeat (first | (with_reducible first | exact HB.out | apply below_alloc | apply pw_below_drewN | apply below_drew1 | refine below_set ?_ GE173.out) | exact HB.out)) hb)
                                              have n6_ := Aside0.mk (hbox)
                                              have n7_ := Aside0.mk ((by rw [hg]; exact (below_size (by repeat (first | (with_reducible first | exact HB.out | apply below_alloc | apply pw_below_drewN | apply below_drew1 | refine below_set ?_ GE173.out) | exact HB.out))) : w.heap.size ≤ gb190))
                                              have n8_ := Aside0.mk ((by rw [hg]; exact (below_size (by repeat (first | (with_reducible first | exact HB.out | apply below_alloc | apply pw_below_drewN | apply below_drew1 | refine below_set ?_ GE173.out) | exact HB.out))) : w.heap.size ≤ gb190))
                                              have n9_ := Aside0.mk ((by rw [hg]; exact Nat.ne_of_lt (blk_lt (g := gb173) (o := .cells #[.int .i64 x174000_2, .slice (some ad184) x174001_2.length co31] 24 (0, 0)) (by (with_reducible repeat (first | refine blk_drewN ?_ _ | refine blk_drew ?_ | refine blk_alloc ?_ _)); exact BK173.out)) : gb173 ≠ gb190))
                                              have n10_ := Aside0.mk ((by rw [hg]; exact Nat.ne_of_gt (blk_lt (g := gb173) (o := .cells #[.int .i64 x174000_2, .slice (some ad184) x174001_2.length co31] 24 (0, 0)) (by (with_reducible repeat (first | refine blk_drewN ?_ _ | refine blk_drew ?_ | refine blk_alloc ?_ _)); exact BK173.out)) : gb190 ≠ gb173))
                                              clear HO_174001
                                              clear HL184_3
                                              clear HO188
                                              clear BK173
                                              clear HR184_3
                                              clear HB
                                              have HO_174001 := n0_
                                              have HL184_3 := n1_
                                              have HO188 := n2_
                                              have BK173 := n3_
                                              have HR184_3 := n4_
                                              have HB := n5_
                                              have BK190 := n6_
                                              have GW190 := n7_
                                              have GE190 := n8_
                                              have NB173_190 := n9_
                                              have NB190_173 := n10_
                                              clear n0_ n1_ n2_ n3_ n4_ n5_ n6_ n7_ n8_ n9_ n10_
                                              clear hb hbox hg
                                              refine hK.out _ _ ⟨(blk_cell BK173.out 0).trans rfl, (blk_cell BK173.out 1).trans rfl, HS2_, HS3_, HS4_, HS5_⟩ (fun hHeld => ?_)
                                              clear hK K
                                              refine norm_ (a' := ?_) ?_ ?_
                                              rotate_left
                                              · show Act.put _ (some 18) _ = _
                                                simp only [Act.put, List.setIfInBounds_toArray, List.set_cons_zero, List.set_cons_succ, i64_w, i32_w]
                                                rfl
                                              exact norm_ (by simp only [putAll, Act.put, List.setIfInBounds_toArray, List.set_cons_zero, List.set_cons_succ]) (hCont (v187, gb190) _ ⟨hHeld, (by (with_reducible repeat (first | apply Kd.R_alloc | apply Kd.R_drewN | apply Kd.R_drew)); exact Kd.R_mono HL184_3.out (fun _ hk => hk.2)), (by (with_reducible repeat (first | apply Kd.S_alloc | apply Kd.S_drewN | apply Kd.S_drew)); exact Kd.S_mono HO188.out (fun _ hk => ⟨hk.2, hk.1.2⟩)), (by (with_reducible repeat (first | apply Kd.S_alloc | apply Kd.S_drewN | apply Kd.S_drew)); exact Kd.S_mono HO_174001.out (fun _ hk => hk.2)), (by (with_reducible repeat (first | refine blk_drewN ?_ _ | refine blk_drew ?_ | refine blk_alloc ?_ _)); exact BK173.out), (by (with_reducible repeat (first | refine blk_drewN ?_ _ | refine blk_drew ?_ | refine blk_alloc ?_ _)); exact BK190.out), GW190.out, GE190.out, NB173_190.out, NB190_173.out, (by repeat (first | (with_reducible first | exact HB.out | apply below_alloc | apply pw_below_drewN | apply below_drew1 | refine below_set ?_ GE173.out | refine below_set ?_ GE190.out) | exact HB.out))⟩)
                                            · skip
                                              refine box_step ?hg (N := 18) ?hd (cs := #[.int .i64 0, .slice none 0 0]) (t := 24) ?hr ?_; (case hd => rfl); (case hg => rfl); (case hr => first | (go_simp; done) | (go_simp; rfl))
                                              intro gb190 hg w48 hbox hb
                                              have HS2_ := (hb.cell (World.block_lt_of_cell? _ _ (hHeld.2.2.1))).trans (hHeld.2.2.1)
                                              have HS3_ := (hb.cell (World.block_lt_of_cell? _ _ (hHeld.2.2.2.1))).trans (hHeld.2.2.2.1)
                                              have HS4_ := (hb.cell (World.block_lt_of_cell? _ _ (hHeld.2.2.2.2.1))).trans (hHeld.2.2.2.2.1)
                                              have HS5_ := (hb.cell (World.block_lt_of_cell? _ _ (hHeld.2.2.2.2.2))).trans (hHeld.2.2.2.2.2)
                                              have n0_ := Aside0.mk (Kd.S_below (by (with_reducible repeat (first | apply Kd.S_alloc | apply Kd.S_drewN | apply Kd.S_drew)); exact HO_174001.out) hb)
                                              have n1_ := Aside0.mk (Kd.R_below (by (with_reducible repeat (first | apply Kd.R_alloc | apply Kd.R_drewN | apply Kd.R_drew)); exact HL184_3.out) hb)
                                              have n2_ := Aside0.mk (blk_below (g := gb173) (o := .cells #[.int .i64 x174000_2, .slice (some ad184) x174001_2.length co31] 24 (0, 0)) (by (with_reducible repeat (first | refine blk_drewN ?_ _ | refine blk_drew ?_ | refine blk_alloc ?_ _)); exact BK173.out) hb)
                                              have n3_ := Aside0.mk (Kd.C_below (by repeat (first | (with_reducible exact HR184_3.out) | (with_reducible refine Kd.C_alloc ?_ _) | (with_reducible refine Kd.C_drewN ?_ _) | (with_reducible refine Kd.C_drew ?_) | exact HR184_3.out)) hb)
                                              have n4_ := Aside0.mk (below_step (by repeat (first | (with_reducible first | exact HB.out | apply below_alloc | apply pw_below_drewN | apply below_drew1 | refine below_set ?_ GE173.out) | exact HB.out)) hb)
                                              have n5_ := Aside0.mk (hbox)
                                              have n6_ := Aside0.mk ((by rw [hg]; exact (below_size (by repeat (first | (with_reducible first | exact HB.out | apply below_alloc | apply pw_below_drewN | apply below_drew1 | refine below_set ?_ GE173.out) | exact HB.out))) : w.heap.size ≤ gb190))
                                              have n7_ := Aside0.mk ((by rw [hg]; exact (below_size (by repeat (first | (with_reducible first | exact HB.out | apply below_alloc | apply pw_below_drewN | apply below_drew1 | refine below_set ?_ GE173.out) | exact HB.out))) : w.heap.size ≤ gb190))
                                              have n8_ := Aside0.mk ((by rw [hg]; exact Nat.ne_of_lt (blk_lt (g := gb173) (o := .cells #[.int .i64 x174000_2, .slice (some ad184) x174001_2.length co31] 24 (0, 0)) (by (with_reducible repeat (first | refine blk_drewN ?_ _ | refine blk_drew ?_ | refine blk_alloc ?_ _)); exact BK173.out)) : gb173 ≠ gb190))
                                              have n9_ := Aside0.mk ((by rw [hg]; exact Nat.ne_of_gt (blk_lt (g := gb173) (o := .cells #[.int .i64 x174000_2, .slice (some ad184) x174001_2.length co31] 24 (0, 0)) (by (with_reducible repeat (first | refine blk_drewN ?_ _ | refine blk_drew ?_ | refine blk_alloc ?_ _)); exact BK173.out)) : gb190 ≠ gb173))
                                              clear HO_174001
                                              clear HL184_3
                                              clear BK173
                                              clear HR184_3
                                              clear HB
                                              have HO_174001 := n0_
                                              have HL184_3 := n1_
                                              have BK173 := n2_
                                              have HR184_3 := n3_
                                              have HB := n4_
                                              have BK190 := n5_
                                              have GW190 := n6_
                                              have GE190 := n7_
                                              have NB173_190 := n8_
                                              have NB190_173 := n9_
                                              clear n0_ n1_ n2_ n3_ n4_ n5_ n6_ n7_ n8_ n9_
                                              clear hb hbox hg
                                              refine hK.out _ _ ⟨(blk_cell BK173.out 0).trans rfl, (blk_cell BK173.out 1).trans rfl, HS2_, HS3_, HS4_, HS5_⟩ (fun hHeld => ?_)
                                              clear hK K
                                              refine norm_ (a' := ?_) ?_ ?_
                                              rotate_left
                                              · show Act.put _ (some 18) _ = _
                                                simp only [Act.put, List.setIfInBounds_toArray, List.set_cons_zero, List.set_cons_succ, i64_w, i32_w]
                                                rfl
                                              refine one_ (i := 10) (N := some 94) #[true, true, true, true, true, true, true, true, true, true, true, false, false, false, true, false, false] rfl rfl (one_of HT_.out (by kernel_rfl)) (by decide) (fun K hK => ?_)
                                              refine goes_ Try.func22 (by kernel_rfl) rfl #[.agg #[.int .i64 x174000_2, .slice (some ad184) x174001_2.length co31], .agg #[.int .u8 2, .int .i64 t180, .int .i64 t182, .int .u64 ((rd_T42 x174001_2 t180).f0)]] (by rfl) rfl rfl (by (try simp only [List.map_toArray, List.map_cons, List.map_nil]); first | done | rfl | (simp only [List.length_drop, List.length_take]; rfl)) ?_
                                              with_reducible refine (meta_Apply.calls kj28 x174000_2 _ _ x174001_2 2 t180 t182 ((rd_T42 x174001_2 t180).f0) t185 t186 true _ ?side1 ?side2 A38.out).mono ?_
                                              (case side1 => repeat (first | exact (Kd.S_reads' HO_174001.out).2.2 | (with_reducible refine Kd.C_alloc ?_ _) | (with_reducible refine Kd.C_drewN ?_ _) | (with_reducible refine Kd.C_drew ?_)))
                                              (case side2 => exact (Kd.S_reads' HO_174001.out).2.1)
                                              rintro e w49 ⟨v187, rfl, ho0, hb⟩
                                              have HS2_ := (hb.cell (World.block_lt_of_cell? _ _ (hHeld.2.2.1))).trans (hHeld.2.2.1)
                                              have HS3_ := (hb.cell (World.block_lt_of_cell? _ _ (hHeld.2.2.2.1))).trans (hHeld.2.2.2.1)
                                              have HS4_ := (hb.cell (World.block_lt_of_cell? _ _ (hHeld.2.2.2.2.1))).trans (hHeld.2.2.2.2.1)
                                              have HS5_ := (hb.cell (World.block_lt_of_cell? _ _ (hHeld.2.2.2.2.2))).trans (hHeld.2.2.2.2.2)
                                              refine ⟨_, rfl, ?_⟩
                                              have n0_ := Aside0.mk (Kd.S_elder' (by (with_reducible repeat (first | apply Kd.S_alloc | apply Kd.S_drewN | apply Kd.S_drew)); exact HO_174001.out) (Kd.S_base ho0) hb)
                                              have n1_ := Aside0.mk (Kd.R_below (by (with_reducible repeat (first | apply Kd.R_alloc | apply Kd.R_drewN | apply Kd.R_drew)); exact HL184_3.out) hb)
                                              have n2_ := Aside0.mk (Kd.S_lower (Kd.S_new' (Kd.S_new' ho0 (Kd.S_lt (by (with_reducible repeat (first | apply Kd.S_alloc | apply Kd.S_drewN | apply Kd.S_drew)); exact HO_174001.out))) (Kd.R_lt (by (with_reducible repeat (first | apply Kd.R_alloc | apply Kd.R_drewN | apply Kd.R_drew)); exact HL184_3.out))) (below_size (by repeat (first | (with_reducible first | exact HB.out | apply below_alloc | apply pw_below_drewN | apply below_drew1 | refine below_set ?_ GE173.out | refine below_set ?_ GE190.out) | exact HB.out))))
                                              have n3_ := Aside0.mk (blk_below (g := gb173) (o := .cells #[.int .i64 x174000_2, .slice (some ad184) x174001_2.length co31] 24 (0, 0)) (by (with_reducible repeat (first | refine blk_drewN ?_ _ | refine blk_drew ?_ | refine blk_alloc ?_ _)); exact BK173.out) hb)
                                              have n4_ := Aside0.mk (Kd.C_below (by repeat (first | (with_reducible exact HR184_3.out) | (with_reducible refine Kd.C_alloc ?_ _) | (with_reducible refine Kd.C_drewN ?_ _) | (with_reducible refine Kd.C_drew ?_) | exact HR184_3.out)) hb)
                                              have n5_ := Aside0.mk (blk_below (g := gb190) (o := .cells #[.int .i64 0, .slice none 0 0] 24 (0, 0)) (by (with_reducible repeat (first | refine blk_drewN ?_ _ | refine blk_drew ?_ | refine blk_alloc ?_ _)); exact BK190.out) hb)
                                              have n6_ := Aside0.mk (below_step (by repeat (first | (with_reducible first | exact HB.out | apply below_alloc | apply pw_below_drewN | apply below_drew1 | refine below_set ?_ GE173.out | refine below_set ?_ GE190.out) | exact HB.out)) hb)
                                              clear HO_174001
                                              clear HL184_3
                                              clear BK173
                                              clear HR184_3
                                              clear BK190
                                              clear HB
                                              have HO_174001 := n0_
                                              have HL184_3 := n1_
                                              have HO188 := n2_
                                              have BK173 := n3_
                                              have HR184_3 := n4_
                                              have BK190 := n5_
                                              have HB := n6_
                                              clear n0_ n1_ n2_ n3_ n4_ n5_ n6_
                                              (try clear hb)
                                              (try clear hb2)
                                              (try clear hk)
                                              (try clear hi)
                                              (try clear ho0)
                                              refine hK.out _ _ ⟨(blk_cell BK173.out 0).trans rfl, (blk_cell BK173.out 1).trans rfl, HS2_, HS3_, HS4_, HS5_⟩ (fun hHeld => ?_)
                                              clear hK K
                                              refine norm_ (a' := ?_) ?_ ?_
                                              rotate_left
                                              · show Act.put _ (some 94) _ = _
                                                simp only [Act.put, List.setIfInBounds_toArray, List.set_cons_zero, List.set_cons_succ, i64_w, i32_w]
                                                rfl
                                              refine pure_ (i := 11) (N := some 83) (v := ?_) (a' := ?_) #[true, true, true, true, true, true, true, true, true, true, true, true, false, false, true, false, false] rfl rfl (any_of HT_.out (by kernel_rfl)) (fun _ _ _ h => h) (Or.inl ⟨by rfl, ?_⟩) ?_ ?_
                                              rotate_left
                                              · intro w'
                                                go_simp
                                                with_reducible rfl
                                              rotate_left
                                              · simp only [Act.put, List.setIfInBounds_toArray, List.set_cons_zero, List.set_cons_succ, i64_w, i32_w]
                                                rfl
                                              refine pure_ (i := 12) (N := some 95) (v := ?_) (a' := ?_) #[true, true, true, true, true, true, true, true, true, true, true, true, true, false, true, false, false] rfl rfl (any_of HT_.out (by kernel_rfl)) (fun _ _ _ h => h) (Or.inl ⟨by rfl, ?_⟩) ?_ ?_
                                              rotate_left
                                              · intro w'
                                                go_simp
                                                with_reducible rfl
                                              rotate_left
                                              · simp only [Act.put, List.setIfInBounds_toArray, List.set_cons_zero, List.set_cons_succ, i64_w, i32_w]
                                                rfl
                                              refine pure_ (i := 13) (N := some 96) (v := ?_) (a' := ?_) #[true, true, true, true, true, true, true, true, true, true, true, true, true, true, true, false, false] rfl rfl (any_of HT_.out (by kernel_rfl)) (fun _ _ _ h => h) (Or.inl ⟨by rfl, ?_⟩) ?_ ?_
                                              rotate_left
                                              · intro w'
                                                go_simp
                                                with_reducible rfl
                                              rotate_left
                                              · simp only [Act.put, List.setIfInBounds_toArray, List.set_cons_zero, List.set_cons_succ, i64_w, i32_w]
                                                rfl
                                              exact norm_ (by simp only [putAll, Act.put, List.setIfInBounds_toArray, List.set_cons_zero, List.set_cons_succ]) (hCont (v187, gb190) _ ⟨hHeld, (by (with_reducible repeat (first | apply Kd.R_alloc | apply Kd.R_drewN | apply Kd.R_drew)); exact Kd.R_mono HL184_3.out (fun _ hk => hk.2)), (by (with_reducible repeat (first | apply Kd.S_alloc | apply Kd.S_drewN | apply Kd.S_drew)); exact Kd.S_mono HO188.out (fun _ hk => ⟨hk.2, hk.1.2⟩)), (by (with_reducible repeat (first | apply Kd.S_alloc | apply Kd.S_drewN | apply Kd.S_drew)); exact Kd.S_mono HO_174001.out (fun _ hk => hk.2)), (by (with_reducible repeat (first | refine blk_drewN ?_ _ | refine blk_drew ?_ | refine blk_alloc ?_ _)); exact BK173.out), (by (with_reducible repeat (first | refine blk_drewN ?_ _ | refine blk_drew ?_ | refine blk_alloc ?_ _)); exact BK190.out), GW190.out, GE190.out, NB173_190.out, NB190_173.out, (by repeat (first | (with_reducible first | exact HB.out | apply below_alloc | apply pw_below_drewN | apply below_drew1 | refine below_set ?_ GE173.out | refine below_set ?_ GE190.out) | exact HB.out))⟩)
                                          rintro ⟨v187, gb190⟩ w50 ⟨hS_, h0_, h1_, h2_, h3_, h4_, h5_, h6_, h7_, h8_, h9_⟩
                                          have n0_ : Aside0 (Kd.R (Kd.int .i64) 3 w50 w.heap.size (fun k_ => some k_ ≠ (.slice (some ad184) x174001_2.length co31 : Value).ownBlock) (.slice A184_3 ((rd_T42 x174001_2 t180).f3).length c184_3) ((rd_T42 x174001_2 t180).f3)) := ⟨h0_⟩
                                          have n1_ : Aside0 (Kd.S k42 42 w50 w.heap.size (fun k_ => some k_ ≠ (.slice A184_3 ((rd_T42 x174001_2 t180).f3).length c184_3 : Value).ownBlock ∧ some k_ ≠ (.slice (some ad184) x174001_2.length co31 : Value).ownBlock) v187 t186) := ⟨h1_⟩
                                          have n2_ : Aside0 (Kd.S k42 42 w50 w.heap.size (fun k_ => some k_ ≠ (v187 : Value).ownBlock) (.slice (some ad184) x174001_2.length co31) x174001_2) := ⟨h2_⟩
                                          have n3_ : Aside0 (w50.heap[gb173]? = some (.cells #[.int .i64 x174000_2, .slice (some ad184) x174001_2.length co31] 24 (0, 0))) := ⟨h3_⟩
                                          have n4_ : Aside0 (w50.heap[gb190]? = some (.cells #[.int .i64 0, .slice none 0 0] 24 (0, 0))) := ⟨h4_⟩
                                          have n5_ : Aside0 (w.heap.size ≤ gb190) := ⟨h5_⟩
                                          have n6_ : Aside0 (w.heap.size ≤ gb190) := ⟨h6_⟩
                                          have n7_ : Aside0 (gb173 ≠ gb190) := ⟨h7_⟩
                                          have n8_ : Aside0 (gb190 ≠ gb173) := ⟨h8_⟩
                                          have n9_ : Aside0 (Below w.heap.size w w50) := ⟨h9_⟩
                                          clear HO_174001
                                          clear BK173
                                          clear HB
                                          clear h0_ h1_ h2_ h3_ h4_ h5_ h6_ h7_ h8_ h9_
                                          have HL184_3 := n0_
                                          have HO188 := n1_
                                          have HO_174001 := n2_
                                          have BK173 := n3_
                                          have BK190 := n4_
                                          have GW190 := n5_
                                          have GE190 := n6_
                                          have NB173_190 := n7_
                                          have NB190_173 := n8_
                                          have HB := n9_
                                          clear n0_ n1_ n2_ n3_ n4_ n5_ n6_ n7_ n8_ n9_
                                          have hHeld : w50.cell? ⟨gb173, 0, none⟩ = some (.int .i64 x174000_2) ∧ w50.cell? ⟨gb173, 1, none⟩ = some (.slice (some ad184) x174001_2.length co31) ∧ w50.cell? (ad184.add ((t180).toNat * 4)) = some (.int .u64 ((rd_T42 x174001_2 t180).f0)) ∧ w50.cell? ⟨(ad184.add ((t180).toNat * 4)).block, (ad184.add ((t180).toNat * 4)).off + 1, none⟩ = some (.int .u64 ((rd_T42 x174001_2 t180).f1)) ∧ w50.cell? ⟨(ad184.add ((t180).toNat * 4)).block, (ad184.add ((t180).toNat * 4)).off + 2, none⟩ = some (.int .i64 ((rd_T42 x174001_2 t180).f2)) ∧ w50.cell? ⟨(ad184.add ((t180).toNat * 4)).block, (ad184.add ((t180).toNat * 4)).off + 3, none⟩ = some (.slice A184_3 ((rd_T42 x174001_2 t180).f3).length c184_3) := hS_
                                          obtain ⟨Ao52, co52, eo52⟩ := Kd.S_slice HO188.out
                                          (first | subst eo52 | (injection eo52 with f1_ f2_ f3_; have f4_ := f1_.symm; have f5_ := f3_.symm; clear f1_ f2_ f3_; subst f4_; subst f5_))
                                          refine norm_ (a' := ?_) ?_ ?_
                                          rotate_left
                                          · simp only [putAll, Act.put, List.setIfInBounds_toArray, List.set_cons_zero, List.set_cons_succ]
                                            rfl
                                          refine one_ (i := 15) (N := none) #[true, true, true, true, true, true, true, true, true, true, true, true, true, true, true, true, false] rfl rfl (one_of HT_.out (by kernel_rfl)) (by decide) (fun K hK => ?_)
                                          have hs51 : w50.cell? ⟨gb190, 0, none⟩ = some (.int .i64 0) := (blk_cell BK190.out 0).trans rfl
                                          have hfs51 := blk_frozen BK190.out 0
                                          have hns51_0 := NB173_190.out
                                          have hms51_0 := NB190_173.out
                                          have hs53 : w50.cell? ⟨gb190, 1, none⟩ = some (.slice none 0 0) := (blk_cell BK190.out 1).trans rfl
                                          have hfs53 := blk_frozen BK190.out 1
                                          have hns53_0 := NB173_190.out
                                          have hms53_0 := NB190_173.out
                                          refine skip_ (w1 := ?_) (by rfl) rfl ?_ ?_
                                          rotate_left
                                          · go_simp
                                            rfl
                                          refine hK.out _ _ ⟨((cell_far (p := ⟨gb190, _, none⟩) NB173_190.out _).trans (((cell_far (p := ⟨gb190, _, none⟩) NB173_190.out _).trans (hHeld.1)))), ((cell_far (p := ⟨gb190, _, none⟩) NB173_190.out _).trans (((cell_far (p := ⟨gb190, _, none⟩) NB173_190.out _).trans (hHeld.2.1)))), ((cell_far (p := ⟨gb190, _, none⟩) (by first | exact Kd.own_blk (Kd.S_ne HO_174001.out BK190.out (by decide)) | (rw [add_block]; exact Kd.own_blk (Kd.S_ne HO_174001.out BK190.out (by decide))) | (show (Addr.add _ _).block ≠ _; rw [add_block]; exact Kd.own_blk (Kd.S_ne HO_174001.out BK190.out (by decide))) | (dsimp only; exact Kd.own_blk (Kd.S_ne HO_174001.out BK190.out (by decide)))) _).trans (((cell_far (p := ⟨gb190, _, none⟩) (by first | exact Kd.own_blk (Kd.S_ne HO_174001.out BK190.out (by decide)) | (rw [add_block]; exact Kd.own_blk (Kd.S_ne HO_174001.out BK190.out (by decide))) | (show (Addr.add _ _).block ≠ _; rw [add_block]; exact Kd.own_blk (Kd.S_ne HO_174001.out BK190.out (by decide))) | (dsimp only; exact Kd.own_blk (Kd.S_ne HO_174001.out BK190.out (by decide)))) _).trans (hHeld.2.2.1)))), ((cell_far (p := ⟨gb190, _, none⟩) (by first | exact Kd.own_blk (Kd.S_ne HO_174001.out BK190.out (by decide)) | (rw [add_block]; exact Kd.own_blk (Kd.S_ne HO_174001.out BK190.out (by decide))) | (show (Addr.add _ _).block ≠ _; rw [add_block]; exact Kd.own_blk (Kd.S_ne HO_174001.out BK190.out (by decide))) | (dsimp only; exact Kd.own_blk (Kd.S_ne HO_174001.out BK190.out (by decide)))) _).trans (((cell_far (p := ⟨gb190, _, none⟩) (by first | exact Kd.own_blk (Kd.S_ne HO_174001.out BK190.out (by decide)) | (rw [add_block]; exact Kd.own_blk (Kd.S_ne HO_174001.out BK190.out (by decide))) | (show (Addr.add _ _).block ≠ _; rw [add_block]; exact Kd.own_blk (Kd.S_ne HO_174001.out BK190.out (by decide))) | (dsimp only; exact Kd.own_blk (Kd.S_ne HO_174001.out BK190.out (by decide)))) _).trans (hHeld.2.2.2.1)))), ((cell_far (p := ⟨gb190, _, none⟩) (by first | exact Kd.own_blk (Kd.S_ne HO_174001.out BK190.out (by decide)) | (rw [add_block]; exact Kd.own_blk (Kd.S_ne HO_174001.out BK190.out (by decide))) | (show (Addr.add _ _).block ≠ _; rw [add_block]; exact Kd.own_blk (Kd.S_ne HO_174001.out BK190.out (by decide))) | (dsimp only; exact Kd.own_blk (Kd.S_ne HO_174001.out BK190.out (by decide)))) _).trans (((cell_far (p := ⟨gb190, _, none⟩) (by first | exact Kd.own_blk (Kd.S_ne HO_174001.out BK190.out (by decide)) | (rw [add_block]; exact Kd.own_blk (Kd.S_ne HO_174001.out BK190.out (by decide))) | (show (Addr.add _ _).block ≠ _; rw [add_block]; exact Kd.own_blk (Kd.S_ne HO_174001.out BK190.out (by decide))) | (dsimp only; exact Kd.own_blk (Kd.S_ne HO_174001.out BK190.out (by decide)))) _).trans (hHeld.2.2.2.2.1)))), ((cell_far (p := ⟨gb190, _, none⟩) (by first | exact Kd.own_blk (Kd.S_ne HO_174001.out BK190.out (by decide)) | (rw [add_block]; exact Kd.own_blk (Kd.S_ne HO_174001.out BK190.out (by decide))) | (show (Addr.add _ _).block ≠ _; rw [add_block]; exact Kd.own_blk (Kd.S_ne HO_174001.out BK190.out (by decide))) | (dsimp only; exact Kd.own_blk (Kd.S_ne HO_174001.out BK190.out (by decide)))) _).trans (((cell_far (p := ⟨gb190, _, none⟩) (by first | exact Kd.own_blk (Kd.S_ne HO_174001.out BK190.out (by decide)) | (rw [add_block]; exact Kd.own_blk (Kd.S_ne HO_174001.out BK190.out (by decide))) | (show (Addr.add _ _).block ≠ _; rw [add_block]; exact Kd.own_blk (Kd.S_ne HO_174001.out BK190.out (by decide))) | (dsimp only; exact Kd.own_blk (Kd.S_ne HO_174001.out BK190.out (by decide)))) _).trans (hHeld.2.2.2.2.2))))⟩ (fun hHeld => ?_)
                                          clear hK K
                                          refine pure_ (i := 16) (N := some 19) (v := ?_) (a' := ?_) #[true, true, true, true, true, true, true, true, true, true, true, true, true, true, true, true, true] rfl rfl (any_of HT_.out (by kernel_rfl)) (fun _ _ _ h => h) (Or.inl ⟨by rfl, ?_⟩) ?_ ?_
                                          rotate_left
                                          · intro w'
                                            go_simp
                                            with_reducible rfl
                                          rotate_left
                                          · simp only [Act.put, List.setIfInBounds_toArray, List.set_cons_zero, List.set_cons_succ, i64_w, i32_w]
                                            rfl
                                          refine done_ (done_of HT_.out (by kernel_rfl)) ?_
                                          have n0_ : Aside0 (Kd.S k42 42 ((w50.setCell ⟨gb190, 0, none⟩ (.int .i64 t185)).setCell ⟨gb190, 1, none⟩ (.slice Ao52 t186.length co52)) w.heap.size (fun k_ => some k_ ≠ (.slice Ao52 t186.length co52 : Value).ownBlock) (.slice (some ad184) x174001_2.length co31) x174001_2) := ⟨by (with_reducible repeat (first | apply Kd.S_alloc | apply Kd.S_drewN | apply Kd.S_drew)); exact Kd.S_mono (Kd.S_far (p := ⟨gb190, 1, none⟩) (Kd.S_far (p := ⟨gb190, 0, none⟩) (Kd.S_types HO_174001.out BK190.out (by decide)) (fun _ hk => hk.2) (.int .i64 t185)) (fun _ hk => hk.2) (.slice Ao52 t186.length co52)) (fun _ hk => hk.1)⟩
                                          have n1_ : Aside0 (Kd.R (Kd.int .i64) 3 ((w50.setCell ⟨gb190, 0, none⟩ (.int .i64 t185)).setCell ⟨gb190, 1, none⟩ (.slice Ao52 t186.length co52)) w.heap.size (fun k_ => some k_ ≠ (.slice (some ad184) x174001_2.length co31 : Value).ownBlock) (.slice A184_3 ((rd_T42 x174001_2 t180).f3).length c184_3) ((rd_T42 x174001_2 t180).f3)) := ⟨by (with_reducible repeat (first | apply Kd.R_alloc | apply Kd.R_drewN | apply Kd.R_drew)); exact Kd.R_mono (Kd.R_far (p := ⟨gb190, 1, none⟩) (Kd.R_far (p := ⟨gb190, 0, none⟩) (Kd.R_types HL184_3.out BK190.out (by decide)) (fun _ hk => hk.2) (.int .i64 t185)) (fun _ hk => hk.2) (.slice Ao52 t186.length co52)) (fun _ hk => hk.1)⟩
                                          have n2_ : Aside0 (Kd.S k42 42 ((w50.setCell ⟨gb190, 0, none⟩ (.int .i64 t185)).setCell ⟨gb190, 1, none⟩ (.slice Ao52 t186.length co52)) w.heap.size (fun k_ => some k_ ≠ (.slice (some ad184) x174001_2.length co31 : Value).ownBlock ∧ some k_ ≠ (.slice A184_3 ((rd_T42 x174001_2 t180).f3).length c184_3 : Value).ownBlock) (.slice Ao52 t186.length co52) t186) := ⟨by (with_reducible repeat (first | apply Kd.S_alloc | apply Kd.S_drewN | apply Kd.S_drew)); exact Kd.S_mono (Kd.S_far (p := ⟨gb190, 1, none⟩) (Kd.S_far (p := ⟨gb190, 0, none⟩) (Kd.S_types HO188.out BK190.out (by decide)) (fun _ hk => hk.2) (.int .i64 t185)) (fun _ hk => hk.2) (.slice Ao52 t186.length co52)) (fun _ hk => ⟨hk.1.2, hk.1.1⟩)⟩
                                          have n3_ : Aside0 (((w50.setCell ⟨gb190, 0, none⟩ (.int .i64 t185)).setCell ⟨gb190, 1, none⟩ (.slice Ao52 t186.length co52)).heap[gb173]? = some (.cells #[.int .i64 x174000_2, .slice (some ad184) x174001_2.length co31] 24 (0, 0))) := ⟨by (with_reducible repeat (first | refine blk_drewN ?_ _ | refine blk_drew ?_ | refine blk_alloc ?_ _)); refine blk_far ?_ NB173_190.out _; (with_reducible repeat (first | refine blk_drewN ?_ _ | refine blk_drew ?_ | refine blk_alloc ?_ _)); refine blk_far ?_ NB173_190.out _; (with_reducible repeat (first | refine blk_drewN ?_ _ | refine blk_drew ?_ | refine blk_alloc ?_ _)); exact BK173.out⟩
                                          have n4_ : Aside0 (((w50.setCell ⟨gb190, 0, none⟩ (.int .i64 t185)).setCell ⟨gb190, 1, none⟩ (.slice Ao52 t186.length co52)).heap[gb190]? = some (.cells #[.int .i64 t185, .slice Ao52 t186.length co52] 24 (0, 0))) := ⟨by (with_reducible repeat (first | refine blk_drewN ?_ _ | refine blk_drew ?_ | refine blk_alloc ?_ _)); refine blk_put (cs := #[.int .i64 t185, .slice none 0 0]) ?_ 1 _ rfl; (with_reducible repeat (first | refine blk_drewN ?_ _ | refine blk_drew ?_ | refine blk_alloc ?_ _)); refine blk_put (cs := #[.int .i64 0, .slice none 0 0]) ?_ 0 _ rfl; (with_reducible repeat (first | refine blk_drewN ?_ _ | refine blk_drew ?_ | refine blk_alloc ?_ _)); exact BK190.out⟩
                                          have n5_ : Aside0 (Below w.heap.size w ((w50.setCell ⟨gb190, 0, none⟩ (.int .i64 t185)).setCell ⟨gb190, 1, none⟩ (.slice Ao52 t186.length co52))) := ⟨by repeat (first | (with_reducible first | exact HB.out | apply below_alloc | apply pw_below_drewN | apply below_drew1 | refine below_set ?_ GE173.out | refine below_set ?_ GE190.out) | exact HB.out)⟩
                                          (try clear HO_174001)
                                          (try clear HL184_3)
                                          (try clear HO188)
                                          (try clear BK173)
                                          (try clear BK190)
                                          (try clear HB)
                                          generalize ((w50.setCell ⟨gb190, 0, none⟩ (.int .i64 t185)).setCell ⟨gb190, 1, none⟩ (.slice Ao52 t186.length co52)) = w54 at n0_ n1_ n2_ n3_ n4_ n5_ ⊢
                                          have HO_174001 := n0_
                                          have HL184_3 := n1_
                                          have HO188 := n2_
                                          have BK173 := n3_
                                          have BK190 := n4_
                                          have HB := n5_
                                          clear n0_ n1_ n2_ n3_ n4_ n5_
                                          have hnb55 := NB190_173.out
                                          have hnc55 := NB173_190.out
                                          have hcz56_0 : w54.cell? ⟨gb190, 0, none⟩ = some (.int .i64 t185) := (blk_cell BK190.out 0).trans rfl
                                          have hcz56_1 : w54.cell? ⟨gb190, 1, none⟩ = some (.slice Ao52 t186.length co52) := (blk_cell BK190.out 1).trans rfl
                                          have hfz56_0 := blk_frozen BK190.out 0
                                          have hfz56_1 := blk_frozen BK190.out 1
                                          have p191 : 0 ≤ (t180 : Int) := of_decide_eq_true (by first | (with_reducible assumption) | assumption)
                                          have q191 : t180 < (t186.length : Int) := of_decide_eq_true (by first | (with_reducible assumption) | assumption)
                                          obtain ⟨ad191, A191_3, c191_3, e191, hx191_0, hx191_1, hx191_2, hx191_3, hl191_3, hi191_3⟩ := at_T42 (Kd.S_reads' HO188.out).2.2 t180 p191 q191
                                          cases e191
                                          obtain ⟨ce191, hce191, hMe191, hcc191⟩ := Kd.S_get HO188.out z42 t180 p191 (by first | exact q191 | exact of_decide_eq_true (by first | (with_reducible assumption) | assumption) | (have e_ := (Kd.S_reads' HO188.out).1; omega))
                                          obtain ⟨ve191_3, rfl, ge191_3⟩ := k42_openM hMe191
                                          have hv191_3 := hcc191 3 _ rfl
                                          rw [add_field _ _ 3 (by omega)] at hv191_3
                                          replace hv191_3 := Option.some.inj (hv191_3.symm.trans hx191_3)
                                          rw [hv191_3] at ge191_3
                                          have HL191_3 := Aside0.mk (show Kd.R (Kd.int .i64) 3 _ _ _ _ ((rd_T42 t186 t180).f3) from ge191_3)
                                          clear hv191_3 ge191_3
                                          clear hcc191 hce191
                                          have HR191_3 := Aside0.mk hi191_3
                                          have HC191_3 := Aside0.mk hl191_3
                                          clear hi191_3 hl191_3
                                          replace p191 := eq_true p191
                                          replace q191 := eq_true q191
                                          try go_wp2
                                          (try (rw [drewN_self w54]; generalize hq_ : World.drewN w54 _ = w54; have n0_ : Aside0 (Kd.R (Kd.int .i64) 3 w54 w.heap.size (fun k_ => some k_ ≠ (.slice (some ad184) x174001_2.length co31 : Value).ownBlock) (.slice A184_3 ((rd_T42 x174001_2 t180).f3).length c184_3) ((rd_T42 x174001_2 t180).f3)) := ⟨by rw [← hq_]; exact (by (with_reducible repeat (first | apply Kd.R_alloc | apply Kd.R_drewN | apply Kd.R_drew)); exact HL184_3.out)⟩; have n1_ : Aside0 (Kd.R (Kd.int .i64) 3 w54 w.heap.size (fun k_ => some k_ ≠ (.slice A184_3 ((rd_T42 x174001_2 t180).f3).length c184_3 : Value).ownBlock ∧ some k_ ≠ (.slice (some ad191) t186.length co52 : Value).ownBlock ∧ some k_ ≠ (.slice (some ad184) x174001_2.length co31 : Value).ownBlock) (.slice A191_3 ((rd_T42 t186 t180).f3).length c191_3) ((rd_T42 t186 t180).f3)) := ⟨by rw [← hq_]; exact (by (with_reducible repeat (first | apply Kd.R_alloc | apply Kd.R_drewN | apply Kd.R_drew)); exact Kd.R_mono HL191_3.out (fun _ hk => ⟨hk.1.2, ⟨hk.2, hk.1.1⟩⟩))⟩; have n2_ : Aside0 (Kd.S k42 42 w54 w.heap.size (fun k_ => some k_ ≠ (.slice A184_3 ((rd_T42 x174001_2 t180).f3).length c184_3 : Value).ownBlock ∧ some k_ ≠ (.slice (some ad184) x174001_2.length co31 : Value).ownBlock) (.slice (some ad191) t186.length co52) t186) := ⟨by rw [← hq_]; exact (by (with_reducible repeat (first | apply Kd.S_alloc | apply Kd.S_drewN | apply Kd.S_drew)); exact Kd.S_mono HO188.out (fun _ hk => ⟨hk.2, hk.1⟩))⟩; have n3_ : Aside0 (Kd.S k42 42 w54 w.heap.size (fun k_ => some k_ ≠ (.slice (some ad191) t186.length co52 : Value).ownBlock) (.slice (some ad184) x174001_2.length co31) x174001_2) := ⟨by rw [← hq_]; exact (by (with_reducible repeat (first | apply Kd.S_alloc | apply Kd.S_drewN | apply Kd.S_drew)); exact HO_174001.out)⟩; have n4_ : Aside0 (w54.heap[gb173]? = some (.cells #[.int .i64 x174000_2, .slice (some ad184) x174001_2.length co31] 24 (0, 0))) := ⟨by rw [← hq_]; exact (by (with_reducible repeat (first | refine blk_drewN ?_ _ | refine blk_drew ?_ | refine blk_alloc ?_ _)); exact BK173.out)⟩; have n5_ : Aside0 (w54.heap[gb190]? = some (.cells #[.int .i64 t185, .slice (some ad191) t186.length co52] 24 (0, 0))) := ⟨by rw [← hq_]; exact (by (with_reducible repeat (first | refine blk_drewN ?_ _ | refine blk_drew ?_ | refine blk_alloc ?_ _)); exact BK190.out)⟩; have n6_ : Aside0 (Below w.heap.size w w54) := ⟨by rw [← hq_]; exact (by repeat (first | (with_reducible first | exact HB.out | apply below_alloc | apply pw_below_drewN | apply below_drew1 | refine below_set ?_ GE173.out | refine below_set ?_ GE190.out) | exact HB.out))⟩; have n7_ : Aside0 (Kd.C (Kd.int .i64) w54 A191_3 ((rd_T42 t186 t180).f3).length ((rd_T42 t186 t180).f3)) := ⟨by rw [← hq_]; exact (by repeat (first | (with_reducible exact HR191_3.out) | (with_reducible refine Kd.C_alloc ?_ _) | (with_reducible refine Kd.C_drewN ?_ _) | (with_reducible refine Kd.C_drew ?_) | exact HR191_3.out))⟩; clear HL184_3 HL191_3 HO188 HO_174001 BK173 BK190 HB HR191_3 hq_; have HL184_3 := n0_; have HL191_3 := n1_; have HO188 := n2_; have HO_174001 := n3_; have BK173 := n4_; have BK190 := n5_; have HB := n6_; have HR191_3 := n7_; clear n0_ n1_ n2_ n3_ n4_ n5_ n6_ n7_))
                                          have n0_ := Aside0.mk (Kd.S_drew HO_174001.out)
                                          have n1_ := Aside0.mk (Kd.R_drew HL184_3.out)
                                          have n2_ := Aside0.mk (Kd.S_drew HO188.out)
                                          have n3_ := Aside0.mk (Kd.R_drew HL191_3.out)
                                          have n4_ := Aside0.mk (blk_drew BK173.out)
                                          have n5_ := Aside0.mk (blk_drew BK190.out)
                                          have n6_ := Aside0.mk (Kd.C_drew HR191_3.out)
                                          have n7_ := Aside0.mk (below_drew1 HB.out)
                                          clear HO_174001
                                          clear HL184_3
                                          clear HO188
                                          clear HL191_3
                                          clear BK173
                                          clear BK190
                                          clear HR191_3
                                          clear HB
                                          have HO_174001 := n0_
                                          have HL184_3 := n1_
                                          have HO188 := n2_
                                          have HL191_3 := n3_
                                          have BK173 := n4_
                                          have BK190 := n5_
                                          have HR191_3 := n6_
                                          have HB := n7_
                                          clear n0_ n1_ n2_ n3_ n4_ n5_ n6_ n7_
                                          have p192 : 0 ≤ (t180 : Int) := of_decide_eq_true (by first | (with_reducible assumption) | assumption)
                                          have q192 : t180 < (t186.length : Int) := of_decide_eq_true (by first | (with_reducible assumption) | assumption)
                                          obtain ⟨ad192, A192_3, c192_3, e192, hx192_0, hx192_1, hx192_2, hx192_3, hl192_3, hi192_3⟩ := at_T42 (Kd.S_reads' HO188.out).2.2 t180 p192 q192
                                          obtain rfl : ad191 = ad192 := (by injection e192)
                                          obtain ⟨ce192, hce192, hMe192, hcc192⟩ := Kd.S_get HO188.out z42 t180 p192 (by first | exact q192 | exact of_decide_eq_true (by first | (with_reducible assumption) | assumption) | (have e_ := (Kd.S_reads' HO188.out).1; omega))
                                          obtain ⟨ve192_3, rfl, ge192_3⟩ := k42_openM hMe192
                                          have hv192_3 := hcc192 3 _ rfl
                                          rw [add_field _ _ 3 (by omega)] at hv192_3
                                          replace hv192_3 := Option.some.inj (hv192_3.symm.trans hx192_3)
                                          rw [hv192_3] at ge192_3
                                          have HL192_3 := Aside0.mk (show Kd.R (Kd.int .i64) 3 _ _ _ _ ((rd_T42 t186 t180).f3) from ge192_3)
                                          clear hv192_3 ge192_3
                                          clear hcc192 hce192
                                          have HR192_3 := Aside0.mk hi192_3
                                          have HC192_3 := Aside0.mk hl192_3
                                          clear hi192_3 hl192_3
                                          replace p192 := eq_true p192
                                          replace q192 := eq_true q192
                                          refine start_ (n := 16) (S := fun w' => w'.cell? ⟨gb190, 0, none⟩ = some (.int .i64 t185) ∧ w'.cell? ⟨gb190, 1, none⟩ = some (.slice (some ad191) t186.length co52) ∧ w'.cell? (ad191.add ((t180).toNat * 4)) = some (.int .u64 ((rd_T42 t186 t180).f0)) ∧ w'.cell? ⟨(ad191.add ((t180).toNat * 4)).block, (ad191.add ((t180).toNat * 4)).off + 1, none⟩ = some (.int .u64 ((rd_T42 t186 t180).f1)) ∧ w'.cell? ⟨(ad191.add ((t180).toNat * 4)).block, (ad191.add ((t180).toNat * 4)).off + 2, none⟩ = some (.int .i64 ((rd_T42 t186 t180).f2)) ∧ w'.cell? ⟨(ad191.add ((t180).toNat * 4)).block, (ad191.add ((t180).toNat * 4)).off + 3, none⟩ = some (.slice A192_3 ((rd_T42 t186 t180).f3).length c192_3)) (ds := [14]) #[false, false, false, false, false, false, false, false, false, false, false, false, false, false, false, false] (by kernel_rfl) rfl rfl ⟨(blk_cell BK190.out 0).trans rfl, (blk_cell BK190.out 1).trans rfl, hx192_0, hx192_1, hx192_2, hx192_3⟩ (fun hHeld => ?_); refine with_tabW fascinelaw14_MetaEvens.tab23 fascinelaw14_MetaEvens.bits23 (fun HT_ HW_ => ?_)
                                          generalize w54.drew = w57 at HO_174001 HL184_3 HO188 HL191_3 BK173 BK190 HR191_3 HB HL192_3 HR192_3 hx192_0 hx192_1 hx192_2 hx192_3 hHeld ⊢
                                          refine pure_ (i := 1) (N := some 109) (v := ?_) (a' := ?_) #[false, true, false, false, false, false, false, false, false, false, false, false, false, false, false, false] rfl rfl (any_of HT_.out (by kernel_rfl)) (fun _ _ _ h => h) (Or.inl ⟨by rfl, ?_⟩) ?_ ?_
                                          rotate_left
                                          · intro w'
                                            go_simp
                                            with_reducible rfl
                                          rotate_left
                                          · simp only [Act.put, List.setIfInBounds_toArray, List.set_cons_zero, List.set_cons_succ, i64_w, i32_w]
                                            rfl
                                          refine pure_ (i := 2) (N := some 110) (v := ?_) (a' := ?_) #[false, true, true, false, false, false, false, false, false, false, false, false, false, false, false, false] rfl rfl (any_of HT_.out (by kernel_rfl)) (fun _ _ _ h => h) (Or.inl ⟨by rfl, ?_⟩) ?_ ?_
                                          rotate_left
                                          · intro w'
                                            go_simp
                                            with_reducible rfl
                                          rotate_left
                                          · simp only [Act.put, List.setIfInBounds_toArray, List.set_cons_zero, List.set_cons_succ, i64_w, i32_w]
                                            rfl
                                          refine pure_ (i := 3) (N := some 111) (v := ?_) (a' := ?_) #[false, true, true, true, false, false, false, false, false, false, false, false, false, false, false, false] rfl rfl (any_of HT_.out (by kernel_rfl)) (fun _ _ _ h => h) (Or.inl ⟨by rfl, ?_⟩) ?_ ?_
                                          rotate_left
                                          · intro w'
                                            go_simp
                                            with_reducible rfl
                                          rotate_left
                                          · simp only [Act.put, List.setIfInBounds_toArray, List.set_cons_zero, List.set_cons_succ, i64_w, i32_w]
                                            rfl
                                          refine pure_ (i := 5) (N := some 113) (v := ?_) (a' := ?_) #[false, true, true, true, false, true, false, false, false, false, false, false, false, false, false, false] rfl rfl (any_of HT_.out (by kernel_rfl)) (fun _ _ _ h => h) (Or.inl ⟨by rfl, ?_⟩) ?_ ?_
                                          rotate_left
                                          · intro w'
                                            go_simp
                                            with_reducible rfl
                                          rotate_left
                                          · simp only [Act.put, List.setIfInBounds_toArray, List.set_cons_zero, List.set_cons_succ, i64_w, i32_w]
                                            rfl
                                          refine take_ (i := 0) (N := some 108) (v := ?_) (a' := ?_) #[true, true, true, true, false, true, false, false, false, false, false, false, false, false, false, false] rfl rfl (take_ofW HT_.out HW_.out (by kernel_rfl)) (fun _ _ _ h => h) (Or.inl ⟨by rfl, ?_⟩) hHeld ?_ ?_
                                          rotate_left
                                          · rintro w' ⟨s0, s1, s2, s3, s4, s5⟩
                                            go_simp
                                            with_reducible rfl
                                          rotate_left
                                          · simp only [Act.put, List.setIfInBounds_toArray, List.set_cons_zero, List.set_cons_succ, i64_w, i32_w]
                                            rfl
                                          refine take_ (i := 4) (N := some 112) (v := ?_) (a' := ?_) #[true, true, true, true, true, true, false, false, false, false, false, false, false, false, false, false] rfl rfl (take_ofW HT_.out HW_.out (by kernel_rfl)) (fun _ _ _ h => h) (Or.inl ⟨by rfl, ?_⟩) hHeld ?_ ?_
                                          rotate_left
                                          · rintro w' ⟨s0, s1, s2, s3, s4, s5⟩
                                            go_simp
                                            with_reducible rfl
                                          rotate_left
                                          · simp only [Act.put, List.setIfInBounds_toArray, List.set_cons_zero, List.set_cons_succ, i64_w, i32_w]
                                            rfl
                                          refine pure_ (i := 6) (N := some 114) (v := ?_) (a' := ?_) #[true, true, true, true, true, true, true, false, false, false, false, false, false, false, false, false] rfl rfl (any_of HT_.out (by kernel_rfl)) (fun _ _ _ h => h) (Or.inl ⟨by rfl, ?_⟩) ?_ ?_
                                          rotate_left
                                          · intro w'
                                            go_simp
                                            with_reducible rfl
                                          rotate_left
                                          · simp only [Act.put, List.setIfInBounds_toArray, List.set_cons_zero, List.set_cons_succ, i64_w, i32_w]
                                            rfl
                                          refine pure_ (i := 7) (N := some 115) (v := ?_) (a' := ?_) #[true, true, true, true, true, true, true, true, false, false, false, false, false, false, false, false] rfl rfl (any_of HT_.out (by kernel_rfl)) (fun _ _ _ h => h) (Or.inl ⟨by rfl, ?_⟩) ?_ ?_
                                          rotate_left
                                          · intro w'
                                            go_simp
                                            with_reducible rfl
                                          rotate_left
                                          · simp only [Act.put, List.setIfInBounds_toArray, List.set_cons_zero, List.set_cons_succ, i64_w, i32_w]
                                            rfl
                                          refine take_ (i := 8) (N := some 116) (v := ?_) (a' := ?_) #[true, true, true, true, true, true, true, true, true, false, false, false, false, false, false, false] rfl rfl (take_ofW HT_.out HW_.out (by kernel_rfl)) (fun _ _ _ h => h) (Or.inl ⟨by rfl, ?_⟩) hHeld ?_ ?_
                                          rotate_left
                                          · rintro w' ⟨s0, s1, s2, s3, s4, s5⟩
                                            go_simp
                                            with_reducible rfl
                                          rotate_left
                                          · simp only [Act.put, List.setIfInBounds_toArray, List.set_cons_zero, List.set_cons_succ, i64_w, i32_w]
                                            rfl
                                          refine pure_ (i := 9) (N := some 117) (v := ?_) (a' := ?_) #[true, true, true, true, true, true, true, true, true, true, false, false, false, false, false, false] rfl rfl (any_of HT_.out (by kernel_rfl)) (fun _ _ _ h => h) (Or.inl ⟨by rfl, ?_⟩) ?_ ?_
                                          rotate_left
                                          · intro w'
                                            go_simp
                                            with_reducible rfl
                                          rotate_left
                                          · simp only [Act.put, List.setIfInBounds_toArray, List.set_cons_zero, List.set_cons_succ, i64_w, i32_w]
                                            rfl
                                          refine one_ (i := 10) (N := some 118) #[true, true, true, true, true, true, true, true, true, true, true, false, false, false, false, false] rfl rfl (one_of HT_.out (by kernel_rfl)) (by decide) (fun K hK => ?_)
                                          refine goes_ Try.func22 (by kernel_rfl) rfl #[.agg #[.int .i64 t185, .slice (some ad191) t186.length co52], .agg #[.int .u8 1, .int .i64 t180, .int .i64 t182, .int .u64 ((rd_T42 t186 t180).f0)]] (by rfl) rfl rfl (by (try simp only [List.map_toArray, List.map_cons, List.map_nil]); first | done | rfl | (simp only [List.length_drop, List.length_take]; rfl)) ?_
                                          with_reducible refine (meta_Apply.calls kj28 t185 _ _ t186 1 t180 t182 ((rd_T42 t186 t180).f0) t193 t194 true _ ?side1 ?side2 A42.out).mono ?_
                                          (case side1 => repeat (first | exact (Kd.S_reads' HO188.out).2.2 | (with_reducible refine Kd.C_alloc ?_ _) | (with_reducible refine Kd.C_drewN ?_ _) | (with_reducible refine Kd.C_drew ?_)))
                                          (case side2 => exact (Kd.S_reads' HO188.out).2.1)
                                          rintro e w58 ⟨v195, rfl, ho0, hb⟩
                                          have HS2_ := (hb.cell (World.block_lt_of_cell? _ _ (hHeld.2.2.1))).trans (hHeld.2.2.1)
                                          have HS3_ := (hb.cell (World.block_lt_of_cell? _ _ (hHeld.2.2.2.1))).trans (hHeld.2.2.2.1)
                                          have HS4_ := (hb.cell (World.block_lt_of_cell? _ _ (hHeld.2.2.2.2.1))).trans (hHeld.2.2.2.2.1)
                                          have HS5_ := (hb.cell (World.block_lt_of_cell? _ _ (hHeld.2.2.2.2.2))).trans (hHeld.2.2.2.2.2)
                                          refine ⟨_, rfl, ?_⟩
                                          have n0_ := Aside0.mk (Kd.S_elder' (by (with_reducible repeat (first | apply Kd.S_alloc | apply Kd.S_drewN | apply Kd.S_drew)); exact HO_174001.out) (Kd.S_base ho0) hb)
                                          have n1_ := Aside0.mk (Kd.R_below (by (with_reducible repeat (first | apply Kd.R_alloc | apply Kd.R_drewN | apply Kd.R_drew)); exact HL184_3.out) hb)
                                          have n2_ := Aside0.mk (Kd.S_elder' (by (with_reducible repeat (first | apply Kd.S_alloc | apply Kd.S_drewN | apply Kd.S_drew)); exact HO188.out) (Kd.S_base ho0) hb)
                                          have n3_ := Aside0.mk (Kd.R_below (by (with_reducible repeat (first | apply Kd.R_alloc | apply Kd.R_drewN | apply Kd.R_drew)); exact HL191_3.out) hb)
                                          have n4_ := Aside0.mk (Kd.R_below (by (with_reducible repeat (first | apply Kd.R_alloc | apply Kd.R_drewN | apply Kd.R_drew)); exact HL192_3.out) hb)
                                          have n5_ := Aside0.mk (Kd.S_lower (Kd.S_new' (Kd.S_new' (Kd.S_new' (Kd.S_new' (Kd.S_new' ho0 (Kd.S_lt (by (with_reducible repeat (first | apply Kd.S_alloc | apply Kd.S_drewN | apply Kd.S_drew)); exact HO_174001.out))) (Kd.R_lt (by (with_reducible repeat (first | apply Kd.R_alloc | apply Kd.R_drewN | apply Kd.R_drew)); exact HL184_3.out))) (Kd.S_lt (by (with_reducible repeat (first | apply Kd.S_alloc | apply Kd.S_drewN | apply Kd.S_drew)); exact HO188.out))) (Kd.R_lt (by (with_reducible repeat (first | apply Kd.R_alloc | apply Kd.R_drewN | apply Kd.R_drew)); exact HL191_3.out))) (Kd.R_lt (by (with_reducible repeat (first | apply Kd.R_alloc | apply Kd.R_drewN | apply Kd.R_drew)); exact HL192_3.out))) (below_size (by repeat (first | (with_reducible first | exact HB.out | apply below_alloc | apply pw_below_drewN | apply below_drew1 | refine below_set ?_ GE173.out | refine below_set ?_ GE190.out) | exact HB.out))))
                                          have n6_ := Aside0.mk (blk_below (g := gb173) (o := .cells #[.int .i64 x174000_2, .slice (some ad184) x174001_2.length co31] 24 (0, 0)) (by (with_reducible repeat (first | refine blk_drewN ?_ _ | refine blk_drew ?_ | refine blk_alloc ?_ _)); exact BK173.out) hb)
                                          have n7_ := Aside0.mk (blk_below (g := gb190) (o := .cells #[.int .i64 t185, .slice (some ad191) t186.length co52] 24 (0, 0)) (by (with_reducible repeat (first | refine blk_drewN ?_ _ | refine blk_drew ?_ | refine blk_alloc ?_ _)); exact BK190.out) hb)
                                          have n8_ := Aside0.mk (Kd.C_below (by repeat (first | (with_reducible exact HR191_3.out) | (with_reducible refine Kd.C_alloc ?_ _) | (with_reducible refine Kd.C_drewN ?_ _) | (with_reducible refine Kd.C_drew ?_) | exact HR191_3.out)) hb)
                                          have n9_ := Aside0.mk (Kd.C_below (by repeat (first | (with_reducible exact HR192_3.out) | (with_reducible refine Kd.C_alloc ?_ _) | (with_reducible refine Kd.C_drewN ?_ _) | (with_reducible refine Kd.C_drew ?_) | exact HR192_3.out)) hb)
                                          have n10_ := Aside0.mk (below_step (by repeat (first | (with_reducible first | exact HB.out | apply below_alloc | apply pw_below_drewN | apply below_drew1 | refine below_set ?_ GE173.out | refine below_set ?_ GE190.out) | exact HB.out)) hb)
                                          clear HO_174001
                                          clear HL184_3
                                          clear HO188
                                          clear HL191_3
                                          clear HL192_3
                                          clear BK173
                                          clear BK190
                                          clear HR191_3
                                          clear HR192_3
                                          clear HB
                                          have HO_174001 := n0_
                                          have HL184_3 := n1_
                                          have HO188 := n2_
                                          have HL191_3 := n3_
                                          have HL192_3 := n4_
                                          have HO196 := n5_
                                          have BK173 := n6_
                                          have BK190 := n7_
                                          have HR191_3 := n8_
                                          have HR192_3 := n9_
                                          have HB := n10_
                                          clear n0_ n1_ n2_ n3_ n4_ n5_ n6_ n7_ n8_ n9_ n10_
                                          (try clear hb)
                                          (try clear hb2)
                                          (try clear hk)
                                          (try clear hi)
                                          (try clear ho0)
                                          obtain ⟨Ao60, co60, eo60⟩ := Kd.S_slice HO196.out
                                          (first | subst eo60 | (injection eo60 with f1_ f2_ f3_; have f4_ := f1_.symm; have f5_ := f3_.symm; clear f1_ f2_ f3_; subst f4_; subst f5_))
                                          refine hK.out _ _ ⟨(blk_cell BK190.out 0).trans rfl, (blk_cell BK190.out 1).trans rfl, HS2_, HS3_, HS4_, HS5_⟩ (fun hHeld => ?_)
                                          clear hK K
                                          refine norm_ (a' := ?_) ?_ ?_
                                          rotate_left
                                          · show Act.put _ (some 118) _ = _
                                            simp only [Act.put, List.setIfInBounds_toArray, List.set_cons_zero, List.set_cons_succ, i64_w, i32_w]
                                            rfl
                                          refine pure_ (i := 11) (N := some 107) (v := ?_) (a' := ?_) #[true, true, true, true, true, true, true, true, true, true, true, true, false, false, false, false] rfl rfl (any_of HT_.out (by kernel_rfl)) (fun _ _ _ h => h) (Or.inl ⟨by rfl, ?_⟩) ?_ ?_
                                          rotate_left
                                          · intro w'
                                            go_simp
                                            with_reducible rfl
                                          rotate_left
                                          · simp only [Act.put, List.setIfInBounds_toArray, List.set_cons_zero, List.set_cons_succ, i64_w, i32_w]
                                            rfl
                                          refine pure_ (i := 12) (N := some 119) (v := ?_) (a' := ?_) #[true, true, true, true, true, true, true, true, true, true, true, true, true, false, false, false] rfl rfl (any_of HT_.out (by kernel_rfl)) (fun _ _ _ h => h) (Or.inl ⟨by rfl, ?_⟩) ?_ ?_
                                          rotate_left
                                          · intro w'
                                            go_simp
                                            with_reducible rfl
                                          rotate_left
                                          · simp only [Act.put, List.setIfInBounds_toArray, List.set_cons_zero, List.set_cons_succ, i64_w, i32_w]
                                            rfl
                                          refine pure_ (i := 13) (N := some 120) (v := ?_) (a' := ?_) #[true, true, true, true, true, true, true, true, true, true, true, true, true, true, false, false] rfl rfl (any_of HT_.out (by kernel_rfl)) (fun _ _ _ h => h) (Or.inl ⟨by rfl, ?_⟩) ?_ ?_
                                          rotate_left
                                          · intro w'
                                            go_simp
                                            with_reducible rfl
                                          rotate_left
                                          · simp only [Act.put, List.setIfInBounds_toArray, List.set_cons_zero, List.set_cons_succ, i64_w, i32_w]
                                            rfl
                                          refine last_ (i := 14) (N := none) #[true, true, true, true, true, true, true, true, true, true, true, true, true, true, true, false] rfl rfl (one_of HT_.out (by kernel_rfl)) (by decide) (fun K hK => ?_)
                                          have hs59 : w58.cell? ⟨gb190, 0, none⟩ = some (.int .i64 t185) := (blk_cell BK190.out 0).trans rfl
                                          have hfs59 := blk_frozen BK190.out 0
                                          have hns59_0 := NB173_190.out
                                          have hms59_0 := NB190_173.out
                                          have hs61 : w58.cell? ⟨gb190, 1, none⟩ = some (.slice (some ad191) t186.length co52) := (blk_cell BK190.out 1).trans rfl
                                          have hfs61 := blk_frozen BK190.out 1
                                          have hns61_0 := NB173_190.out
                                          have hms61_0 := NB190_173.out
                                          refine skip_ (w1 := ?_) (by rfl) rfl ?_ ?_
                                          rotate_left
                                          · go_simp
                                            rfl
                                          refine hK.out _ _ ?_
                                          clear hK K
                                          refine pure_ (i := 15) (N := some 19) (v := ?_) (a' := ?_) #[true, true, true, true, true, true, true, true, true, true, true, true, true, true, true, true] rfl rfl (any_of HT_.out (by kernel_rfl)) (fun _ _ _ h => h) (Or.inl ⟨by rfl, ?_⟩) ?_ ?_
                                          rotate_left
                                          · intro w'
                                            go_simp
                                            with_reducible rfl
                                          rotate_left
                                          · simp only [Act.put, List.setIfInBounds_toArray, List.set_cons_zero, List.set_cons_succ, i64_w, i32_w]
                                            rfl
                                          refine done_ (done_of HT_.out (by kernel_rfl)) ?_
                                          try go_wp2
                                          have n0_ : Aside0 (Kd.S k42 42 ((w58.setCell ⟨gb190, 0, none⟩ (.int .i64 t193)).setCell ⟨gb190, 1, none⟩ (.slice Ao60 t194.length co60)) w.heap.size (fun k_ => some k_ ≠ (.slice (some ad191) t186.length co52 : Value).ownBlock ∧ some k_ ≠ (.slice Ao60 t194.length co60 : Value).ownBlock) (.slice (some ad184) x174001_2.length co31) x174001_2) := ⟨by (with_reducible repeat (first | apply Kd.S_alloc | apply Kd.S_drewN | apply Kd.S_drew)); exact Kd.S_mono (Kd.S_far (p := ⟨gb190, 1, none⟩) (Kd.S_far (p := ⟨gb190, 0, none⟩) (Kd.S_types HO_174001.out BK190.out (by decide)) (fun _ hk => hk.2) (.int .i64 t193)) (fun _ hk => hk.2) (.slice Ao60 t194.length co60)) (fun _ hk => ⟨hk.1.1, hk.1.2⟩)⟩
                                          have n1_ : Aside0 (Kd.R (Kd.int .i64) 3 ((w58.setCell ⟨gb190, 0, none⟩ (.int .i64 t193)).setCell ⟨gb190, 1, none⟩ (.slice Ao60 t194.length co60)) w.heap.size (fun k_ => some k_ ≠ (.slice (some ad184) x174001_2.length co31 : Value).ownBlock) (.slice A184_3 ((rd_T42 x174001_2 t180).f3).length c184_3) ((rd_T42 x174001_2 t180).f3)) := ⟨by (with_reducible repeat (first | apply Kd.R_alloc | apply Kd.R_drewN | apply Kd.R_drew)); exact Kd.R_mono (Kd.R_far (p := ⟨gb190, 1, none⟩) (Kd.R_far (p := ⟨gb190, 0, none⟩) (Kd.R_types HL184_3.out BK190.out (by decide)) (fun _ hk => hk.2) (.int .i64 t193)) (fun _ hk => hk.2) (.slice Ao60 t194.length co60)) (fun _ hk => hk.1)⟩
                                          have n2_ : Aside0 (Kd.S k42 42 ((w58.setCell ⟨gb190, 0, none⟩ (.int .i64 t193)).setCell ⟨gb190, 1, none⟩ (.slice Ao60 t194.length co60)) w.heap.size (fun k_ => some k_ ≠ (.slice (some ad184) x174001_2.length co31 : Value).ownBlock ∧ some k_ ≠ (.slice A184_3 ((rd_T42 x174001_2 t180).f3).length c184_3 : Value).ownBlock ∧ some k_ ≠ (.slice Ao60 t194.length co60 : Value).ownBlock) (.slice (some ad191) t186.length co52) t186) := ⟨by (with_reducible repeat (first | apply Kd.S_alloc | apply Kd.S_drewN | apply Kd.S_drew)); exact Kd.S_mono (Kd.S_far (p := ⟨gb190, 1, none⟩) (Kd.S_far (p := ⟨gb190, 0, none⟩) (Kd.S_types HO188.out BK190.out (by decide)) (fun _ hk => hk.2) (.int .i64 t193)) (fun _ hk => hk.2) (.slice Ao60 t194.length co60)) (fun _ hk => ⟨hk.1.1.1, ⟨hk.1.1.2, hk.1.2⟩⟩)⟩
                                          have n3_ : Aside0 (Kd.R (Kd.int .i64) 3 ((w58.setCell ⟨gb190, 0, none⟩ (.int .i64 t193)).setCell ⟨gb190, 1, none⟩ (.slice Ao60 t194.length co60)) w.heap.size (fun k_ => some k_ ≠ (.slice (some ad184) x174001_2.length co31 : Value).ownBlock ∧ some k_ ≠ (.slice A184_3 ((rd_T42 x174001_2 t180).f3).length c184_3 : Value).ownBlock ∧ some k_ ≠ (.slice (some ad191) t186.length co52 : Value).ownBlock) (.slice A191_3 ((rd_T42 t186 t180).f3).length c191_3) ((rd_T42 t186 t180).f3)) := ⟨by (with_reducible repeat (first | apply Kd.R_alloc | apply Kd.R_drewN | apply Kd.R_drew)); exact Kd.R_mono (Kd.R_far (p := ⟨gb190, 1, none⟩) (Kd.R_far (p := ⟨gb190, 0, none⟩) (Kd.R_types HL191_3.out BK190.out (by decide)) (fun _ hk => hk.2) (.int .i64 t193)) (fun _ hk => hk.2) (.slice Ao60 t194.length co60)) (fun _ hk => ⟨hk.1.1.1, ⟨hk.1.1.2, hk.1.2⟩⟩)⟩
                                          have n4_ : Aside0 (Kd.R (Kd.int .i64) 3 ((w58.setCell ⟨gb190, 0, none⟩ (.int .i64 t193)).setCell ⟨gb190, 1, none⟩ (.slice Ao60 t194.length co60)) w.heap.size (fun k_ => some k_ ≠ (.slice (some ad184) x174001_2.length co31 : Value).ownBlock ∧ some k_ ≠ (.slice A184_3 ((rd_T42 x174001_2 t180).f3).length c184_3 : Value).ownBlock ∧ some k_ ≠ (.slice (some ad191) t186.length co52 : Value).ownBlock) (.slice A192_3 ((rd_T42 t186 t180).f3).length c192_3) ((rd_T42 t186 t180).f3)) := ⟨by (with_reducible repeat (first | apply Kd.R_alloc | apply Kd.R_drewN | apply Kd.R_drew)); exact Kd.R_mono (Kd.R_far (p := ⟨gb190, 1, none⟩) (Kd.R_far (p := ⟨gb190, 0, none⟩) (Kd.R_types HL192_3.out BK190.out (by decide)) (fun _ hk => hk.2) (.int .i64 t193)) (fun _ hk => hk.2) (.slice Ao60 t194.length co60)) (fun _ hk => ⟨hk.1.1.1, ⟨hk.1.1.2, hk.1.2⟩⟩)⟩
                                          have n5_ : Aside0 (Kd.S k42 42 ((w58.setCell ⟨gb190, 0, none⟩ (.int .i64 t193)).setCell ⟨gb190, 1, none⟩ (.slice Ao60 t194.length co60)) w.heap.size (fun k_ => some k_ ≠ (.slice (some ad184) x174001_2.length co31 : Value).ownBlock ∧ some k_ ≠ (.slice A184_3 ((rd_T42 x174001_2 t180).f3).length c184_3 : Value).ownBlock ∧ some k_ ≠ (.slice (some ad191) t186.length co52 : Value).ownBlock ∧ some k_ ≠ (.slice A191_3 ((rd_T42 t186 t180).f3).length c191_3 : Value).ownBlock ∧ some k_ ≠ (.slice A192_3 ((rd_T42 t186 t180).f3).length c192_3 : Value).ownBlock) (.slice Ao60 t194.length co60) t194) := ⟨by (with_reducible repeat (first | apply Kd.S_alloc | apply Kd.S_drewN | apply Kd.S_drew)); exact Kd.S_mono (Kd.S_far (p := ⟨gb190, 1, none⟩) (Kd.S_far (p := ⟨gb190, 0, none⟩) (Kd.S_types HO196.out BK190.out (by decide)) (fun _ hk => hk.2) (.int .i64 t193)) (fun _ hk => hk.2) (.slice Ao60 t194.length co60)) (fun _ hk => ⟨hk.1.1.1.1.1.2, ⟨hk.1.1.1.1.2, ⟨hk.1.1.1.2, ⟨hk.1.1.2, hk.1.2⟩⟩⟩⟩)⟩
                                          have n6_ : Aside0 (((w58.setCell ⟨gb190, 0, none⟩ (.int .i64 t193)).setCell ⟨gb190, 1, none⟩ (.slice Ao60 t194.length co60)).heap[gb173]? = some (.cells #[.int .i64 x174000_2, .slice (some ad184) x174001_2.length co31] 24 (0, 0))) := ⟨by (with_reducible repeat (first | refine blk_drewN ?_ _ | refine blk_drew ?_ | refine blk_alloc ?_ _)); refine blk_far ?_ NB173_190.out _; (with_reducible repeat (first | refine blk_drewN ?_ _ | refine blk_drew ?_ | refine blk_alloc ?_ _)); refine blk_far ?_ NB173_190.out _; (with_reducible repeat (first | refine blk_drewN ?_ _ | refine blk_drew ?_ | refine blk_alloc ?_ _)); exact BK173.out⟩
                                          have n7_ : Aside0 (((w58.setCell ⟨gb190, 0, none⟩ (.int .i64 t193)).setCell ⟨gb190, 1, none⟩ (.slice Ao60 t194.length co60)).heap[gb190]? = some (.cells #[.int .i64 t193, .slice Ao60 t194.length co60] 24 (0, 0))) := ⟨by (with_reducible repeat (first | refine blk_drewN ?_ _ | refine blk_drew ?_ | refine blk_alloc ?_ _)); refine blk_put (cs := #[.int .i64 t193, .slice (some ad191) t186.length co52]) ?_ 1 _ rfl; (with_reducible repeat (first | refine blk_drewN ?_ _ | refine blk_drew ?_ | refine blk_alloc ?_ _)); refine blk_put (cs := #[.int .i64 t185, .slice (some ad191) t186.length co52]) ?_ 0 _ rfl; (with_reducible repeat (first | refine blk_drewN ?_ _ | refine blk_drew ?_ | refine blk_alloc ?_ _)); exact BK190.out⟩
                                          have n8_ : Aside0 (Below w.heap.size w ((w58.setCell ⟨gb190, 0, none⟩ (.int .i64 t193)).setCell ⟨gb190, 1, none⟩ (.slice Ao60 t194.length co60))) := ⟨by repeat (first | (with_reducible first | exact HB.out | apply below_alloc | apply pw_below_drewN | apply below_drew1 | refine below_set ?_ GE173.out | refine below_set ?_ GE190.out) | exact HB.out)⟩
                                          (try clear HO_174001)
                                          (try clear HL184_3)
                                          (try clear HO188)
                                          (try clear HL191_3)
                                          (try clear HL192_3)
                                          (try clear HO196)
                                          (try clear BK173)
                                          (try clear BK190)
                                          (try clear HB)
                                          generalize ((w58.setCell ⟨gb190, 0, none⟩ (.int .i64 t193)).setCell ⟨gb190, 1, none⟩ (.slice Ao60 t194.length co60)) = w62 at n0_ n1_ n2_ n3_ n4_ n5_ n6_ n7_ n8_ ⊢
                                          have HO_174001 := n0_
                                          have HL184_3 := n1_
                                          have HO188 := n2_
                                          have HL191_3 := n3_
                                          have HL192_3 := n4_
                                          have HO196 := n5_
                                          have BK173 := n6_
                                          have BK190 := n7_
                                          have HB := n8_
                                          clear n0_ n1_ n2_ n3_ n4_ n5_ n6_ n7_ n8_
                                          (try (rw [drewN_self w62]; generalize hq_ : World.drewN w62 _ = w62; have n0_ : Aside0 (Kd.R (Kd.int .i64) 3 w62 w.heap.size (fun k_ => some k_ ≠ (.slice (some ad184) x174001_2.length co31 : Value).ownBlock) (.slice A184_3 ((rd_T42 x174001_2 t180).f3).length c184_3) ((rd_T42 x174001_2 t180).f3)) := ⟨by rw [← hq_]; exact (by (with_reducible repeat (first | apply Kd.R_alloc | apply Kd.R_drewN | apply Kd.R_drew)); exact HL184_3.out)⟩; have n1_ : Aside0 (Kd.R (Kd.int .i64) 3 w62 w.heap.size (fun k_ => some k_ ≠ (.slice A184_3 ((rd_T42 x174001_2 t180).f3).length c184_3 : Value).ownBlock ∧ some k_ ≠ (.slice (some ad191) t186.length co52 : Value).ownBlock ∧ some k_ ≠ (.slice (some ad184) x174001_2.length co31 : Value).ownBlock) (.slice A191_3 ((rd_T42 t186 t180).f3).length c191_3) ((rd_T42 t186 t180).f3)) := ⟨by rw [← hq_]; exact (by (with_reducible repeat (first | apply Kd.R_alloc | apply Kd.R_drewN | apply Kd.R_drew)); exact Kd.R_mono HL191_3.out (fun _ hk => ⟨hk.2.1, ⟨hk.2.2, hk.1⟩⟩))⟩; have n2_ : Aside0 (Kd.R (Kd.int .i64) 3 w62 w.heap.size (fun k_ => some k_ ≠ (.slice A184_3 ((rd_T42 x174001_2 t180).f3).length c184_3 : Value).ownBlock ∧ some k_ ≠ (.slice (some ad191) t186.length co52 : Value).ownBlock ∧ some k_ ≠ (.slice (some ad184) x174001_2.length co31 : Value).ownBlock) (.slice A192_3 ((rd_T42 t186 t180).f3).length c192_3) ((rd_T42 t186 t180).f3)) := ⟨by rw [← hq_]; exact (by (with_reducible repeat (first | apply Kd.R_alloc | apply Kd.R_drewN | apply Kd.R_drew)); exact Kd.R_mono HL192_3.out (fun _ hk => ⟨hk.2.1, ⟨hk.2.2, hk.1⟩⟩))⟩; have n3_ : Aside0 (Kd.S k42 42 w62 w.heap.size (fun k_ => some k_ ≠ (.slice A184_3 ((rd_T42 x174001_2 t180).f3).length c184_3 : Value).ownBlock ∧ some k_ ≠ (.slice Ao60 t194.length co60 : Value).ownBlock ∧ some k_ ≠ (.slice (some ad184) x174001_2.length co31 : Value).ownBlock) (.slice (some ad191) t186.length co52) t186) := ⟨by rw [← hq_]; exact (by (with_reducible repeat (first | apply Kd.S_alloc | apply Kd.S_drewN | apply Kd.S_drew)); exact Kd.S_mono HO188.out (fun _ hk => ⟨hk.2.1, ⟨hk.2.2, hk.1⟩⟩))⟩; have n4_ : Aside0 (Kd.S k42 42 w62 w.heap.size (fun k_ => some k_ ≠ (.slice A184_3 ((rd_T42 x174001_2 t180).f3).length c184_3 : Value).ownBlock ∧ some k_ ≠ (.slice A191_3 ((rd_T42 t186 t180).f3).length c191_3 : Value).ownBlock ∧ some k_ ≠ (.slice A192_3 ((rd_T42 t186 t180).f3).length c192_3 : Value).ownBlock ∧ some k_ ≠ (.slice (some ad191) t186.length co52 : Value).ownBlock ∧ some k_ ≠ (.slice (some ad184) x174001_2.length co31 : Value).ownBlock) (.slice Ao60 t194.length co60) t194) := ⟨by rw [← hq_]; exact (by (with_reducible repeat (first | apply Kd.S_alloc | apply Kd.S_drewN | apply Kd.S_drew)); exact Kd.S_mono HO196.out (fun _ hk => ⟨hk.2.1, ⟨hk.2.2.2.1, ⟨hk.2.2.2.2, ⟨hk.2.2.1, hk.1⟩⟩⟩⟩))⟩; have n5_ : Aside0 (Kd.S k42 42 w62 w.heap.size (fun k_ => some k_ ≠ (.slice (some ad191) t186.length co52 : Value).ownBlock ∧ some k_ ≠ (.slice Ao60 t194.length co60 : Value).ownBlock) (.slice (some ad184) x174001_2.length co31) x174001_2) := ⟨by rw [← hq_]; exact (by (with_reducible repeat (first | apply Kd.S_alloc | apply Kd.S_drewN | apply Kd.S_drew)); exact HO_174001.out)⟩; have n6_ : Aside0 (w62.heap[gb173]? = some (.cells #[.int .i64 x174000_2, .slice (some ad184) x174001_2.length co31] 24 (0, 0))) := ⟨by rw [← hq_]; exact (by (with_reducible repeat (first | refine blk_drewN ?_ _ | refine blk_drew ?_ | refine blk_alloc ?_ _)); exact BK173.out)⟩; have n7_ : Aside0 (w62.heap[gb190]? = some (.cells #[.int .i64 t193, .slice Ao60 t194.length co60] 24 (0, 0))) := ⟨by rw [← hq_]; exact (by (with_reducible repeat (first | refine blk_drewN ?_ _ | refine blk_drew ?_ | refine blk_alloc ?_ _)); exact BK190.out)⟩; have n8_ : Aside0 (Below w.heap.size w w62) := ⟨by rw [← hq_]; exact (by repeat (first | (with_reducible first | exact HB.out | apply below_alloc | apply pw_below_drewN | apply below_drew1 | refine below_set ?_ GE173.out | refine below_set ?_ GE190.out) | exact HB.out))⟩; clear HL184_3 HL191_3 HL192_3 HO188 HO196 HO_174001 BK173 BK190 HB hq_; have HL184_3 := n0_; have HL191_3 := n1_; have HL192_3 := n2_; have HO188 := n3_; have HO196 := n4_; have HO_174001 := n5_; have BK173 := n6_; have BK190 := n7_; have HB := n8_; clear n0_ n1_ n2_ n3_ n4_ n5_ n6_ n7_ n8_))
                                          have n0_ := Aside0.mk (Kd.S_drew HO_174001.out)
                                          have n1_ := Aside0.mk (Kd.R_drew HL184_3.out)
                                          have n2_ := Aside0.mk (Kd.S_drew HO188.out)
                                          have n3_ := Aside0.mk (Kd.R_drew HL191_3.out)
                                          have n4_ := Aside0.mk (Kd.R_drew HL192_3.out)
                                          have n5_ := Aside0.mk (Kd.S_drew HO196.out)
                                          have n6_ := Aside0.mk (blk_drew BK173.out)
                                          have n7_ := Aside0.mk (blk_drew BK190.out)
                                          have n8_ := Aside0.mk (below_drew1 HB.out)
                                          clear HO_174001
                                          clear HL184_3
                                          clear HO188
                                          clear HL191_3
                                          clear HL192_3
                                          clear HO196
                                          clear BK173
                                          clear BK190
                                          clear HB
                                          have HO_174001 := n0_
                                          have HL184_3 := n1_
                                          have HO188 := n2_
                                          have HL191_3 := n3_
                                          have HL192_3 := n4_
                                          have HO196 := n5_
                                          have BK173 := n6_
                                          have BK190 := n7_
                                          have HB := n8_
                                          clear n0_ n1_ n2_ n3_ n4_ n5_ n6_ n7_ n8_
                                          have p198 : 0 ≤ (t180 : Int) := of_decide_eq_true (by first | (with_reducible assumption) | assumption)
                                          have q198 : t180 < (t194.length : Int) := of_decide_eq_true (by first | (with_reducible assumption) | assumption)
                                          obtain ⟨ad198, A198_3, c198_3, e198, hx198_0, hx198_1, hx198_2, hx198_3, hl198_3, hi198_3⟩ := at_T42 (Kd.S_reads' HO196.out).2.2 t180 p198 q198
                                          cases e198
                                          obtain ⟨ce198, hce198, hMe198, hcc198⟩ := Kd.S_get HO196.out z42 t180 p198 (by first | exact q198 | exact of_decide_eq_true (by first | (with_reducible assumption) | assumption) | (have e_ := (Kd.S_reads' HO196.out).1; omega))
                                          obtain ⟨ve198_3, rfl, ge198_3⟩ := k42_openM hMe198
                                          have hv198_3 := hcc198 3 _ rfl
                                          rw [add_field _ _ 3 (by omega)] at hv198_3
                                          replace hv198_3 := Option.some.inj (hv198_3.symm.trans hx198_3)
                                          rw [hv198_3] at ge198_3
                                          have HL198_3 := Aside0.mk (show Kd.R (Kd.int .i64) 3 _ _ _ _ ((rd_T42 t194 t180).f3) from ge198_3)
                                          clear hv198_3 ge198_3
                                          clear hcc198 hce198
                                          have HR198_3 := Aside0.mk hi198_3
                                          have HC198_3 := Aside0.mk hl198_3
                                          clear hi198_3 hl198_3
                                          replace p198 := eq_true p198
                                          replace q198 := eq_true q198
                                          refine start_ (n := 16) (S := fun w' => w'.cell? ⟨gb190, 0, none⟩ = some (.int .i64 t193) ∧ w'.cell? ⟨gb190, 1, none⟩ = some (.slice (some ad198) t194.length co60) ∧ w'.cell? (ad198.add ((t180).toNat * 4)) = some (.int .u64 ((rd_T42 t194 t180).f0)) ∧ w'.cell? ⟨(ad198.add ((t180).toNat * 4)).block, (ad198.add ((t180).toNat * 4)).off + 1, none⟩ = some (.int .u64 ((rd_T42 t194 t180).f1)) ∧ w'.cell? ⟨(ad198.add ((t180).toNat * 4)).block, (ad198.add ((t180).toNat * 4)).off + 2, none⟩ = some (.int .i64 ((rd_T42 t194 t180).f2)) ∧ w'.cell? ⟨(ad198.add ((t180).toNat * 4)).block, (ad198.add ((t180).toNat * 4)).off + 3, none⟩ = some (.slice A198_3 ((rd_T42 t194 t180).f3).length c198_3)) (ds := [14]) #[false, false, false, false, false, false, false, false, false, false, false, false, false, false, false, false] (by kernel_rfl) rfl rfl ⟨(blk_cell BK190.out 0).trans rfl, (blk_cell BK190.out 1).trans rfl, hx198_0, hx198_1, hx198_2, hx198_3⟩ (fun hHeld => ?_); refine with_tabW fascinelaw14_MetaEvens.tab26 fascinelaw14_MetaEvens.bits26 (fun HT_ HW_ => ?_)
                                          generalize w62.drew = w63 at HO_174001 HL184_3 HO188 HL191_3 HL192_3 HO196 BK173 BK190 HB HL198_3 HR198_3 hx198_0 hx198_1 hx198_2 hx198_3 hHeld ⊢
                                          refine pure_ (i := 1) (N := some 125) (v := ?_) (a' := ?_) #[false, true, false, false, false, false, false, false, false, false, false, false, false, false, false, false] rfl rfl (any_of HT_.out (by kernel_rfl)) (fun _ _ _ h => h) (Or.inl ⟨by rfl, ?_⟩) ?_ ?_
                                          rotate_left
                                          · intro w'
                                            go_simp
                                            with_reducible rfl
                                          rotate_left
                                          · simp only [Act.put, List.setIfInBounds_toArray, List.set_cons_zero, List.set_cons_succ, i64_w, i32_w]
                                            rfl
                                          refine pure_ (i := 2) (N := some 126) (v := ?_) (a' := ?_) #[false, true, true, false, false, false, false, false, false, false, false, false, false, false, false, false] rfl rfl (any_of HT_.out (by kernel_rfl)) (fun _ _ _ h => h) (Or.inl ⟨by rfl, ?_⟩) ?_ ?_
                                          rotate_left
                                          · intro w'
                                            go_simp
                                            with_reducible rfl
                                          rotate_left
                                          · simp only [Act.put, List.setIfInBounds_toArray, List.set_cons_zero, List.set_cons_succ, i64_w, i32_w]
                                            rfl
                                          refine pure_ (i := 3) (N := some 127) (v := ?_) (a' := ?_) #[false, true, true, true, false, false, false, false, false, false, false, false, false, false, false, false] rfl rfl (any_of HT_.out (by kernel_rfl)) (fun _ _ _ h => h) (Or.inl ⟨by rfl, ?_⟩) ?_ ?_
                                          rotate_left
                                          · intro w'
                                            go_simp
                                            with_reducible rfl
                                          rotate_left
                                          · simp only [Act.put, List.setIfInBounds_toArray, List.set_cons_zero, List.set_cons_succ, i64_w, i32_w]
                                            rfl
                                          refine pure_ (i := 5) (N := some 129) (v := ?_) (a' := ?_) #[false, true, true, true, false, true, false, false, false, false, false, false, false, false, false, false] rfl rfl (any_of HT_.out (by kernel_rfl)) (fun _ _ _ h => h) (Or.inl ⟨by rfl, ?_⟩) ?_ ?_
                                          rotate_left
                                          · intro w'
                                            go_simp
                                            with_reducible rfl
                                          rotate_left
                                          · simp only [Act.put, List.setIfInBounds_toArray, List.set_cons_zero, List.set_cons_succ, i64_w, i32_w]
                                            rfl
                                          refine take_ (i := 0) (N := some 124) (v := ?_) (a' := ?_) #[true, true, true, true, false, true, false, false, false, false, false, false, false, false, false, false] rfl rfl (take_ofW HT_.out HW_.out (by kernel_rfl)) (fun _ _ _ h => h) (Or.inl ⟨by rfl, ?_⟩) hHeld ?_ ?_
                                          rotate_left
                                          · rintro w' ⟨s0, s1, s2, s3, s4, s5⟩
                                            go_simp
                                            with_reducible rfl
                                          rotate_left
                                          · simp only [Act.put, List.setIfInBounds_toArray, List.set_cons_zero, List.set_cons_succ, i64_w, i32_w]
                                            rfl
                                          refine take_ (i := 4) (N := some 128) (v := ?_) (a' := ?_) #[true, true, true, true, true, true, false, false, false, false, false, false, false, false, false, false] rfl rfl (take_ofW HT_.out HW_.out (by kernel_rfl)) (fun _ _ _ h => h) (Or.inl ⟨by rfl, ?_⟩) hHeld ?_ ?_
                                          rotate_left
                                          · rintro w' ⟨s0, s1, s2, s3, s4, s5⟩
                                            go_simp
                                            with_reducible rfl
                                          rotate_left
                                          · simp only [Act.put, List.setIfInBounds_toArray, List.set_cons_zero, List.set_cons_succ, i64_w, i32_w]
                                            rfl
                                          refine pure_ (i := 6) (N := some 130) (v := ?_) (a' := ?_) #[true, true, true, true, true, true, true, false, false, false, false, false, false, false, false, false] rfl rfl (any_of HT_.out (by kernel_rfl)) (fun _ _ _ h => h) (Or.inl ⟨by rfl, ?_⟩) ?_ ?_
                                          rotate_left
                                          · intro w'
                                            go_simp
                                            with_reducible rfl
                                          rotate_left
                                          · simp only [Act.put, List.setIfInBounds_toArray, List.set_cons_zero, List.set_cons_succ, i64_w, i32_w]
                                            rfl
                                          refine pure_ (i := 7) (N := some 131) (v := ?_) (a' := ?_) #[true, true, true, true, true, true, true, true, false, false, false, false, false, false, false, false] rfl rfl (any_of HT_.out (by kernel_rfl)) (fun _ _ _ h => h) (Or.inl ⟨by rfl, ?_⟩) ?_ ?_
                                          rotate_left
                                          · intro w'
                                            go_simp
                                            with_reducible rfl
                                          rotate_left
                                          · simp only [Act.put, List.setIfInBounds_toArray, List.set_cons_zero, List.set_cons_succ, i64_w, i32_w]
                                            rfl
                                          refine take_ (i := 8) (N := some 132) (v := ?_) (a' := ?_) #[true, true, true, true, true, true, true, true, true, false, false, false, false, false, false, false] rfl rfl (take_ofW HT_.out HW_.out (by kernel_rfl)) (fun _ _ _ h => h) (Or.inl ⟨by rfl, ?_⟩) hHeld ?_ ?_
                                          rotate_left
                                          · rintro w' ⟨s0, s1, s2, s3, s4, s5⟩
                                            go_simp
                                            with_reducible rfl
                                          rotate_left
                                          · simp only [Act.put, List.setIfInBounds_toArray, List.set_cons_zero, List.set_cons_succ, i64_w, i32_w]
                                            rfl
                                          refine pure_ (i := 9) (N := some 133) (v := ?_) (a' := ?_) #[true, true, true, true, true, true, true, true, true, true, false, false, false, false, false, false] rfl rfl (any_of HT_.out (by kernel_rfl)) (fun _ _ _ h => h) (Or.inl ⟨by rfl, ?_⟩) ?_ ?_
                                          rotate_left
                                          · intro w'
                                            go_simp
                                            with_reducible rfl
                                          rotate_left
                                          · simp only [Act.put, List.setIfInBounds_toArray, List.set_cons_zero, List.set_cons_succ, i64_w, i32_w]
                                            rfl
                                          refine one_ (i := 10) (N := some 134) #[true, true, true, true, true, true, true, true, true, true, true, false, false, false, false, false] rfl rfl (one_of HT_.out (by kernel_rfl)) (by decide) (fun K hK => ?_)
                                          refine goes_ Try.func22 (by kernel_rfl) rfl #[.agg #[.int .i64 t193, .slice (some ad198) t194.length co60], .agg #[.int .u8 3, .int .i64 t180, .int .i64 t181, .int .u64 ((rd_T42 t194 t180).f0)]] (by rfl) rfl rfl (by (try simp only [List.map_toArray, List.map_cons, List.map_nil]); first | done | rfl | (simp only [List.length_drop, List.length_take]; rfl)) ?_
                                          with_reducible refine (meta_Apply.calls kj28 t193 _ _ t194 3 t180 t181 ((rd_T42 t194 t180).f0) t199 t200 true _ ?side1 ?side2 A45.out).mono ?_
                                          (case side1 => repeat (first | exact (Kd.S_reads' HO196.out).2.2 | (with_reducible refine Kd.C_alloc ?_ _) | (with_reducible refine Kd.C_drewN ?_ _) | (with_reducible refine Kd.C_drew ?_)))
                                          (case side2 => exact (Kd.S_reads' HO196.out).2.1)
                                          rintro e w64 ⟨v201, rfl, ho0, hb⟩
                                          have HS2_ := (hb.cell (World.block_lt_of_cell? _ _ (hHeld.2.2.1))).trans (hHeld.2.2.1)
                                          have HS3_ := (hb.cell (World.block_lt_of_cell? _ _ (hHeld.2.2.2.1))).trans (hHeld.2.2.2.1)
                                          have HS4_ := (hb.cell (World.block_lt_of_cell? _ _ (hHeld.2.2.2.2.1))).trans (hHeld.2.2.2.2.1)
                                          have HS5_ := (hb.cell (World.block_lt_of_cell? _ _ (hHeld.2.2.2.2.2))).trans (hHeld.2.2.2.2.2)
                                          refine ⟨_, rfl, ?_⟩
                                          have n0_ := Aside0.mk (Kd.S_elder' (by (with_reducible repeat (first | apply Kd.S_alloc | apply Kd.S_drewN | apply Kd.S_drew)); exact HO_174001.out) (Kd.S_base ho0) hb)
                                          have n1_ := Aside0.mk (Kd.R_below (by (with_reducible repeat (first | apply Kd.R_alloc | apply Kd.R_drewN | apply Kd.R_drew)); exact HL184_3.out) hb)
                                          have n2_ := Aside0.mk (Kd.S_elder' (by (with_reducible repeat (first | apply Kd.S_alloc | apply Kd.S_drewN | apply Kd.S_drew)); exact HO188.out) (Kd.S_base ho0) hb)
                                          have n3_ := Aside0.mk (Kd.R_below (by (with_reducible repeat (first | apply Kd.R_alloc | apply Kd.R_drewN | apply Kd.R_drew)); exact HL191_3.out) hb)
                                          have n4_ := Aside0.mk (Kd.R_below (by (with_reducible repeat (first | apply Kd.R_alloc | apply Kd.R_drewN | apply Kd.R_drew)); exact HL192_3.out) hb)
                                          have n5_ := Aside0.mk (Kd.S_elder' (by (with_reducible repeat (first | apply Kd.S_alloc | apply Kd.S_drewN | apply Kd.S_drew)); exact HO196.out) (Kd.S_base ho0) hb)
                                          have n6_ := Aside0.mk (Kd.R_below (by (with_reducible repeat (first | apply Kd.R_alloc | apply Kd.R_drewN | apply Kd.R_drew)); exact HL198_3.out) hb)
                                          have n7_ := Aside0.mk (Kd.S_lower (Kd.S_new' (Kd.S_new' (Kd.S_new' (Kd.S_new' (Kd.S_new' (Kd.S_new' (Kd.S_new' ho0 (Kd.S_lt (by (with_reducible repeat (first | apply Kd.S_alloc | apply Kd.S_drewN | apply Kd.S_drew)); exact HO_174001.out))) (Kd.R_lt (by (with_reducible repeat (first | apply Kd.R_alloc | apply Kd.R_drewN | apply Kd.R_drew)); exact HL184_3.out))) (Kd.S_lt (by (with_reducible repeat (first | apply Kd.S_alloc | apply Kd.S_drewN | apply Kd.S_drew)); exact HO188.out))) (Kd.R_lt (by (with_reducible repeat (first | apply Kd.R_alloc | apply Kd.R_drewN | apply Kd.R_drew)); exact HL191_3.out))) (Kd.R_lt (by (with_reducible repeat (first | apply Kd.R_alloc | apply Kd.R_drewN | apply Kd.R_drew)); exact HL192_3.out))) (Kd.S_lt (by (with_reducible repeat (first | apply Kd.S_alloc | apply Kd.S_drewN | apply Kd.S_drew)); exact HO196.out))) (Kd.R_lt (by (with_reducible repeat (first | apply Kd.R_alloc | apply Kd.R_drewN | apply Kd.R_drew)); exact HL198_3.out))) (below_size (by repeat (first | (with_reducible first | exact HB.out | apply below_alloc | apply pw_below_drewN | apply below_drew1 | refine below_set ?_ GE173.out | refine below_set ?_ GE190.out) | exact HB.out))))
                                          have n8_ := Aside0.mk (blk_below (g := gb173) (o := .cells #[.int .i64 x174000_2, .slice (some ad184) x174001_2.length co31] 24 (0, 0)) (by (with_reducible repeat (first | refine blk_drewN ?_ _ | refine blk_drew ?_ | refine blk_alloc ?_ _)); exact BK173.out) hb)
                                          have n9_ := Aside0.mk (blk_below (g := gb190) (o := .cells #[.int .i64 t193, .slice (some ad198) t194.length co60] 24 (0, 0)) (by (with_reducible repeat (first | refine blk_drewN ?_ _ | refine blk_drew ?_ | refine blk_alloc ?_ _)); exact BK190.out) hb)
                                          have n10_ := Aside0.mk (Kd.C_below (by repeat (first | (with_reducible exact HR198_3.out) | (with_reducible refine Kd.C_alloc ?_ _) | (with_reducible refine Kd.C_drewN ?_ _) | (with_reducible refine Kd.C_drew ?_) | exact HR198_3.out)) hb)
                                          have n11_ := Aside0.mk (below_step (by repeat (first | (with_reducible first | exact HB.out | apply below_alloc | apply pw_below_drewN | apply below_drew1 | refine below_set ?_ GE173.out | refine below_set ?_ GE190.out) | exact HB.out)) hb)
                                          clear HO_174001
                                          clear HL184_3
                                          clear HO188
                                          clear HL191_3
                                          clear HL192_3
                                          clear HO196
                                          clear HL198_3
                                          clear BK173
                                          clear BK190
                                          clear HR198_3
                                          clear HB
                                          have HO_174001 := n0_
                                          have HL184_3 := n1_
                                          have HO188 := n2_
                                          have HL191_3 := n3_
                                          have HL192_3 := n4_
                                          have HO196 := n5_
                                          have HL198_3 := n6_
                                          have HO202 := n7_
                                          have BK173 := n8_
                                          have BK190 := n9_
                                          have HR198_3 := n10_
                                          have HB := n11_
                                          clear n0_ n1_ n2_ n3_ n4_ n5_ n6_ n7_ n8_ n9_ n10_ n11_
                                          (try clear hb)
                                          (try clear hb2)
                                          (try clear hk)
                                          (try clear hi)
                                          (try clear ho0)
                                          obtain ⟨Ao66, co66, eo66⟩ := Kd.S_slice HO202.out
                                          (first | subst eo66 | (injection eo66 with f1_ f2_ f3_; have f4_ := f1_.symm; have f5_ := f3_.symm; clear f1_ f2_ f3_; subst f4_; subst f5_))
                                          refine hK.out _ _ ⟨(blk_cell BK190.out 0).trans rfl, (blk_cell BK190.out 1).trans rfl, HS2_, HS3_, HS4_, HS5_⟩ (fun hHeld => ?_)
                                          clear hK K
                                          refine norm_ (a' := ?_) ?_ ?_
                                          rotate_left
                                          · show Act.put _ (some 134) _ = _
                                            simp only [Act.put, List.setIfInBounds_toArray, List.set_cons_zero, List.set_cons_succ, i64_w, i32_w]
                                            rfl
                                          refine pure_ (i := 11) (N := some 123) (v := ?_) (a' := ?_) #[true, true, true, true, true, true, true, true, true, true, true, true, false, false, false, false] rfl rfl (any_of HT_.out (by kernel_rfl)) (fun _ _ _ h => h) (Or.inl ⟨by rfl, ?_⟩) ?_ ?_
                                          rotate_left
                                          · intro w'
                                            go_simp
                                            with_reducible rfl
                                          rotate_left
                                          · simp only [Act.put, List.setIfInBounds_toArray, List.set_cons_zero, List.set_cons_succ, i64_w, i32_w]
                                            rfl
                                          refine pure_ (i := 12) (N := some 135) (v := ?_) (a' := ?_) #[true, true, true, true, true, true, true, true, true, true, true, true, true, false, false, false] rfl rfl (any_of HT_.out (by kernel_rfl)) (fun _ _ _ h => h) (Or.inl ⟨by rfl, ?_⟩) ?_ ?_
                                          rotate_left
                                          · intro w'
                                            go_simp
                                            with_reducible rfl
                                          rotate_left
                                          · simp only [Act.put, List.setIfInBounds_toArray, List.set_cons_zero, List.set_cons_succ, i64_w, i32_w]
                                            rfl
                                          refine pure_ (i := 13) (N := some 136) (v := ?_) (a' := ?_) #[true, true, true, true, true, true, true, true, true, true, true, true, true, true, false, false] rfl rfl (any_of HT_.out (by kernel_rfl)) (fun _ _ _ h => h) (Or.inl ⟨by rfl, ?_⟩) ?_ ?_
                                          rotate_left
                                          · intro w'
                                            go_simp
                                            with_reducible rfl
                                          rotate_left
                                          · simp only [Act.put, List.setIfInBounds_toArray, List.set_cons_zero, List.set_cons_succ, i64_w, i32_w]
                                            rfl
                                          refine last_ (i := 14) (N := none) #[true, true, true, true, true, true, true, true, true, true, true, true, true, true, true, false] rfl rfl (one_of HT_.out (by kernel_rfl)) (by decide) (fun K hK => ?_)
                                          have hs65 : w64.cell? ⟨gb190, 0, none⟩ = some (.int .i64 t193) := (blk_cell BK190.out 0).trans rfl
                                          have hfs65 := blk_frozen BK190.out 0
                                          have hns65_0 := NB173_190.out
                                          have hms65_0 := NB190_173.out
                                          have hs67 : w64.cell? ⟨gb190, 1, none⟩ = some (.slice (some ad198) t194.length co60) := (blk_cell BK190.out 1).trans rfl
                                          have hfs67 := blk_frozen BK190.out 1
                                          have hns67_0 := NB173_190.out
                                          have hms67_0 := NB190_173.out
                                          refine skip_ (w1 := ?_) (by rfl) rfl ?_ ?_
                                          rotate_left
                                          · go_simp
                                            rfl
                                          refine hK.out _ _ ?_
                                          clear hK K
                                          refine pure_ (i := 15) (N := some 19) (v := ?_) (a' := ?_) #[true, true, true, true, true, true, true, true, true, true, true, true, true, true, true, true] rfl rfl (any_of HT_.out (by kernel_rfl)) (fun _ _ _ h => h) (Or.inl ⟨by rfl, ?_⟩) ?_ ?_
                                          rotate_left
                                          · intro w'
                                            go_simp
                                            with_reducible rfl
                                          rotate_left
                                          · simp only [Act.put, List.setIfInBounds_toArray, List.set_cons_zero, List.set_cons_succ, i64_w, i32_w]
                                            rfl
                                          refine done_ (done_of HT_.out (by kernel_rfl)) ?_
                                          have hcz68_0 : w64.cell? ⟨gb190, 0, none⟩ = some (.int .i64 t193) := (blk_cell BK190.out 0).trans rfl
                                          have hcz68_1 : w64.cell? ⟨gb190, 1, none⟩ = some (.slice (some ad198) t194.length co60) := (blk_cell BK190.out 1).trans rfl
                                          have hfz68_0 := blk_frozen BK190.out 0
                                          have hfz68_1 := blk_frozen BK190.out 1
                                          have hcz69_0 : w64.cell? ⟨gb173, 0, none⟩ = some (.int .i64 x174000_2) := (blk_cell BK173.out 0).trans rfl
                                          have hcz69_1 : w64.cell? ⟨gb173, 1, none⟩ = some (.slice (some ad184) x174001_2.length co31) := (blk_cell BK173.out 1).trans rfl
                                          have hfz69_0 := blk_frozen BK173.out 0
                                          have hfz69_1 := blk_frozen BK173.out 1
                                          try go_wp2
                                          go_roundg kj28
                                          case measure => have := HJ9.out; have := HK2.out; have := HJ28.out; omega
                                          case rel => exact ⟨(wrap64 (x13_2 + 1)), (t199), (t200), (.slice Ao66 t200.length co66), (by first | rfl | (simp; done) | (simp [*]; done)), H', ⟨by have := HJ9.out; have := HK2.out; have := HJ28.out; omega⟩, ⟨by (with_reducible repeat (first | apply Kd.S_alloc | apply Kd.S_drewN | apply Kd.S_drew)); exact Kd.S_mono (Kd.S_far (p := ⟨gb173, 1, none⟩) (Kd.S_far (p := ⟨gb173, 0, none⟩) (Kd.S_far (p := ⟨gb190, 1, none⟩) (Kd.S_far (p := ⟨gb190, 0, none⟩) (Kd.S_types (Kd.S_types HO202.out BK190.out (by decide)) BK173.out (by decide)) (fun _ hk => hk.1.2) (.int .i64 t199)) (fun _ hk => hk.1.2) (.slice Ao66 t200.length co66)) (fun _ hk => hk.2) (.int .i64 t199)) (fun _ hk => hk.2) (.slice Ao66 t200.length co66)) (fun _ hk => trivial)⟩, ⟨by (with_reducible repeat (first | refine blk_drewN ?_ _ | refine blk_drew ?_ | refine blk_alloc ?_ _)); refine blk_put (cs := #[.int .i64 t199, .slice (some ad184) x174001_2.length co31]) ?_ 1 _ rfl; (with_reducible repeat (first | refine blk_drewN ?_ _ | refine blk_drew ?_ | refine blk_alloc ?_ _)); refine blk_put (cs := #[.int .i64 x174000_2, .slice (some ad184) x174001_2.length co31]) ?_ 0 _ rfl; (with_reducible repeat (first | refine blk_drewN ?_ _ | refine blk_drew ?_ | refine blk_alloc ?_ _)); refine blk_far ?_ NB173_190.out _; (with_reducible repeat (first | refine blk_drewN ?_ _ | refine blk_drew ?_ | refine blk_alloc ?_ _)); refine blk_far ?_ NB173_190.out _; (with_reducible repeat (first | refine blk_drewN ?_ _ | refine blk_drew ?_ | refine blk_alloc ?_ _)); exact BK173.out⟩, ⟨by repeat (first | (with_reducible first | exact HB.out | apply below_alloc | apply pw_below_drewN | apply below_drew1 | refine below_set ?_ GE173.out | refine below_set ?_ GE190.out) | exact HB.out)⟩⟩
                                        · replace c46 := Bool.eq_false_iff.mpr c46
                                          subst c46
                                          have H1 : (some false) = some r := by rw [if_neg (show ¬ (false = true) by decide)] at H; exact H
                                          clear H
                                          have H := H1
                                          clear H1
                                          exact absurd (HR_.out.symm.trans (Option.some.inj H).symm) (by decide)
                                      · rw [if_neg c44] at H
                                        exact absurd H (by simp)
                                    · replace c43 := Bool.eq_false_iff.mpr c43
                                      subst c43
                                      have H1 : (some false) = some r := by rw [if_neg (show ¬ (false = true) by decide)] at H; exact H
                                      clear H
                                      have H := H1
                                      clear H1
                                      exact absurd (HR_.out.symm.trans (Option.some.inj H).symm) (by decide)
                                  · rw [if_neg c41] at H
                                    have c41b0 : (((rd_T42 t186 t180).f2) == t181) = false := beq_eq_false_iff_ne.mpr c41
                                    have c41b1 : (((rd_T42 t186 t180).f2) != t181) = true := bne_iff_ne.mpr c41
                                    replace H := Option.bind_eq_some_iff.mp H
                                    obtain ⟨⟨t205, t206, t209⟩, A700, H⟩ := H
                                    replace H : (if t209 = true then (fascinelaw14_MetaEvens.l1 kj28 (wrap64 (x13_2 + 1)) t205 t206) else (some false)) = some r := H
                                    have A70 := Aside0.mk A700
                                    clear A700
                                    by_cases c71 : t209 = true
                                    · subst c71
                                      have H1 : (fascinelaw14_MetaEvens.l1 kj28 (wrap64 (x13_2 + 1)) t205 t206) = some r := by rw [if_pos rfl] at H; exact H
                                      clear H
                                      have H := H1
                                      clear H1
                                      have H' := Aside0.mk H
                                      clear H
                                      try go_wp2
                                      (try (rw [drewN_self wc]; generalize hq_ : World.drewN wc _ = wc; have n0_ : Aside0 (Kd.S k42 42 wc w.heap.size (fun _ => True) (.slice Ao31 x174001_2.length co31) x174001_2) := ⟨by rw [← hq_]; exact (by (with_reducible repeat (first | apply Kd.S_alloc | apply Kd.S_drewN | apply Kd.S_drew)); exact HO_174001.out)⟩; have n1_ : Aside0 (wc.heap[gb173]? = some (.cells #[.int .i64 x174000_2, .slice Ao31 x174001_2.length co31] 24 (0, 0))) := ⟨by rw [← hq_]; exact (by (with_reducible repeat (first | refine blk_drewN ?_ _ | refine blk_drew ?_ | refine blk_alloc ?_ _)); exact BK173.out)⟩; have n2_ : Aside0 (Below w.heap.size w wc) := ⟨by rw [← hq_]; exact (by repeat (first | (with_reducible first | exact HB.out | apply below_alloc | apply pw_below_drewN | apply below_drew1 | refine below_set ?_ GE173.out) | exact HB.out))⟩; clear HO_174001 BK173 HB hq_; have HO_174001 := n0_; have BK173 := n1_; have HB := n2_; clear n0_ n1_ n2_))
                                      have n0_ := Aside0.mk (Kd.S_drew HO_174001.out)
                                      have n1_ := Aside0.mk (blk_drew BK173.out)
                                      have n2_ := Aside0.mk (below_drew1 HB.out)
                                      clear HO_174001
                                      clear BK173
                                      clear HB
                                      have HO_174001 := n0_
                                      have BK173 := n1_
                                      have HB := n2_
                                      clear n0_ n1_ n2_
                                      have p184 : 0 ≤ (t180 : Int) := of_decide_eq_true (by first | (with_reducible assumption) | assumption)
                                      have q184 : t180 < (x174001_2.length : Int) := of_decide_eq_true (by first | (with_reducible assumption) | assumption)
                                      obtain ⟨ad184, A184_3, c184_3, e184, hx184_0, hx184_1, hx184_2, hx184_3, hl184_3, hi184_3⟩ := at_T42 (Kd.S_reads' HO_174001.out).2.2 t180 p184 q184
                                      cases e184
                                      obtain ⟨ce184, hce184, hMe184, hcc184⟩ := Kd.S_get HO_174001.out z42 t180 p184 (by first | exact q184 | exact of_decide_eq_true (by first | (with_reducible assumption) | assumption) | (have e_ := (Kd.S_reads' HO_174001.out).1; omega))
                                      obtain ⟨ve184_3, rfl, ge184_3⟩ := k42_openM hMe184
                                      have hv184_3 := hcc184 3 _ rfl
                                      rw [add_field _ _ 3 (by omega)] at hv184_3
                                      replace hv184_3 := Option.some.inj (hv184_3.symm.trans hx184_3)
                                      rw [hv184_3] at ge184_3
                                      have HL184_3 := Aside0.mk (show Kd.R (Kd.int .i64) 3 _ _ _ _ ((rd_T42 x174001_2 t180).f3) from ge184_3)
                                      clear hv184_3 ge184_3
                                      clear hcc184 hce184
                                      have HR184_3 := Aside0.mk hi184_3
                                      have HC184_3 := Aside0.mk hl184_3
                                      clear hi184_3 hl184_3
                                      replace p184 := eq_true p184
                                      replace q184 := eq_true q184
                                      refine start_ (n := 17) (S := fun w' => w'.cell? ⟨gb173, 0, none⟩ = some (.int .i64 x174000_2) ∧ w'.cell? ⟨gb173, 1, none⟩ = some (.slice (some ad184) x174001_2.length co31) ∧ w'.cell? (ad184.add ((t180).toNat * 4)) = some (.int .u64 ((rd_T42 x174001_2 t180).f0)) ∧ w'.cell? ⟨(ad184.add ((t180).toNat * 4)).block, (ad184.add ((t180).toNat * 4)).off + 1, none⟩ = some (.int .u64 ((rd_T42 x174001_2 t180).f1)) ∧ w'.cell? ⟨(ad184.add ((t180).toNat * 4)).block, (ad184.add ((t180).toNat * 4)).off + 2, none⟩ = some (.int .i64 ((rd_T42 x174001_2 t180).f2)) ∧ w'.cell? ⟨(ad184.add ((t180).toNat * 4)).block, (ad184.add ((t180).toNat * 4)).off + 3, none⟩ = some (.slice A184_3 ((rd_T42 x174001_2 t180).f3).length c184_3)) (ds := []) #[false, false, false, false, false, false, false, false, false, false, false, false, false, false, false, false, false] (by kernel_rfl) rfl rfl ⟨(blk_cell BK173.out 0).trans rfl, (blk_cell BK173.out 1).trans rfl, hx184_0, hx184_1, hx184_2, hx184_3⟩ (fun hHeld => ?_); refine with_tabW fascinelaw14_MetaEvens.tab19 fascinelaw14_MetaEvens.bits19 (fun HT_ HW_ => ?_)
                                      generalize wc.drew = w72 at HO_174001 BK173 HB HL184_3 HR184_3 hx184_0 hx184_1 hx184_2 hx184_3 hHeld ⊢
                                      refine pure_ (i := 1) (N := some 85) (v := ?_) (a' := ?_) #[false, true, false, false, false, false, false, false, false, false, false, false, false, false, false, false, false] rfl rfl (any_of HT_.out (by kernel_rfl)) (fun _ _ _ h => h) (Or.inl ⟨by rfl, ?_⟩) ?_ ?_
                                      rotate_left
                                      · intro w'
                                        go_simp
                                        with_reducible rfl
                                      rotate_left
                                      · simp only [Act.put, List.setIfInBounds_toArray, List.set_cons_zero, List.set_cons_succ, i64_w, i32_w]
                                        rfl
                                      refine pure_ (i := 2) (N := some 86) (v := ?_) (a' := ?_) #[false, true, true, false, false, false, false, false, false, false, false, false, false, false, false, false, false] rfl rfl (any_of HT_.out (by kernel_rfl)) (fun _ _ _ h => h) (Or.inl ⟨by rfl, ?_⟩) ?_ ?_
                                      rotate_left
                                      · intro w'
                                        go_simp
                                        with_reducible rfl
                                      rotate_left
                                      · simp only [Act.put, List.setIfInBounds_toArray, List.set_cons_zero, List.set_cons_succ, i64_w, i32_w]
                                        rfl
                                      refine pure_ (i := 3) (N := some 87) (v := ?_) (a' := ?_) #[false, true, true, true, false, false, false, false, false, false, false, false, false, false, false, false, false] rfl rfl (any_of HT_.out (by kernel_rfl)) (fun _ _ _ h => h) (Or.inl ⟨by rfl, ?_⟩) ?_ ?_
                                      rotate_left
                                      · intro w'
                                        go_simp
                                        with_reducible rfl
                                      rotate_left
                                      · simp only [Act.put, List.setIfInBounds_toArray, List.set_cons_zero, List.set_cons_succ, i64_w, i32_w]
                                        rfl
                                      refine pure_ (i := 5) (N := some 89) (v := ?_) (a' := ?_) #[false, true, true, true, false, true, false, false, false, false, false, false, false, false, false, false, false] rfl rfl (any_of HT_.out (by kernel_rfl)) (fun _ _ _ h => h) (Or.inl ⟨by rfl, ?_⟩) ?_ ?_
                                      rotate_left
                                      · intro w'
                                        go_simp
                                        with_reducible rfl
                                      rotate_left
                                      · simp only [Act.put, List.setIfInBounds_toArray, List.set_cons_zero, List.set_cons_succ, i64_w, i32_w]
                                        rfl
                                      refine take_ (i := 0) (N := some 84) (v := ?_) (a' := ?_) #[true, true, true, true, false, true, false, false, false, false, false, false, false, false, false, false, false] rfl rfl (take_ofW HT_.out HW_.out (by kernel_rfl)) (fun _ _ _ h => h) (Or.inl ⟨by rfl, ?_⟩) hHeld ?_ ?_
                                      rotate_left
                                      · rintro w' ⟨s0, s1, s2, s3, s4, s5⟩
                                        go_simp
                                        with_reducible rfl
                                      rotate_left
                                      · simp only [Act.put, List.setIfInBounds_toArray, List.set_cons_zero, List.set_cons_succ, i64_w, i32_w]
                                        rfl
                                      refine take_ (i := 4) (N := some 88) (v := ?_) (a' := ?_) #[true, true, true, true, true, true, false, false, false, false, false, false, false, false, false, false, false] rfl rfl (take_ofW HT_.out HW_.out (by kernel_rfl)) (fun _ _ _ h => h) (Or.inl ⟨by rfl, ?_⟩) hHeld ?_ ?_
                                      rotate_left
                                      · rintro w' ⟨s0, s1, s2, s3, s4, s5⟩
                                        go_simp
                                        with_reducible rfl
                                      rotate_left
                                      · simp only [Act.put, List.setIfInBounds_toArray, List.set_cons_zero, List.set_cons_succ, i64_w, i32_w]
                                        rfl
                                      refine pure_ (i := 6) (N := some 90) (v := ?_) (a' := ?_) #[true, true, true, true, true, true, true, false, false, false, false, false, false, false, false, false, false] rfl rfl (any_of HT_.out (by kernel_rfl)) (fun _ _ _ h => h) (Or.inl ⟨by rfl, ?_⟩) ?_ ?_
                                      rotate_left
                                      · intro w'
                                        go_simp
                                        with_reducible rfl
                                      rotate_left
                                      · simp only [Act.put, List.setIfInBounds_toArray, List.set_cons_zero, List.set_cons_succ, i64_w, i32_w]
                                        rfl
                                      refine pure_ (i := 7) (N := some 91) (v := ?_) (a' := ?_) #[true, true, true, true, true, true, true, true, false, false, false, false, false, false, false, false, false] rfl rfl (any_of HT_.out (by kernel_rfl)) (fun _ _ _ h => h) (Or.inl ⟨by rfl, ?_⟩) ?_ ?_
                                      rotate_left
                                      · intro w'
                                        go_simp
                                        with_reducible rfl
                                      rotate_left
                                      · simp only [Act.put, List.setIfInBounds_toArray, List.set_cons_zero, List.set_cons_succ, i64_w, i32_w]
                                        rfl
                                      refine take_ (i := 8) (N := some 92) (v := ?_) (a' := ?_) #[true, true, true, true, true, true, true, true, true, false, false, false, false, false, false, false, false] rfl rfl (take_ofW HT_.out HW_.out (by kernel_rfl)) (fun _ _ _ h => h) (Or.inl ⟨by rfl, ?_⟩) hHeld ?_ ?_
                                      rotate_left
                                      · rintro w' ⟨s0, s1, s2, s3, s4, s5⟩
                                        go_simp
                                        with_reducible rfl
                                      rotate_left
                                      · simp only [Act.put, List.setIfInBounds_toArray, List.set_cons_zero, List.set_cons_succ, i64_w, i32_w]
                                        rfl
                                      refine pure_ (i := 9) (N := some 93) (v := ?_) (a' := ?_) #[true, true, true, true, true, true, true, true, true, true, false, false, false, false, false, false, false] rfl rfl (any_of HT_.out (by kernel_rfl)) (fun _ _ _ h => h) (Or.inl ⟨by rfl, ?_⟩) ?_ ?_
                                      rotate_left
                                      · intro w'
                                        go_simp
                                        with_reducible rfl
                                      rotate_left
                                      · simp only [Act.put, List.setIfInBounds_toArray, List.set_cons_zero, List.set_cons_succ, i64_w, i32_w]
                                        rfl
                                      refine join_ (σ := Value × Nat) 2 #[true, true, true, true, true, true, true, true, true, true, true, true, true, true, true, false, false] (fun s_ => [(94, .tuple #[.agg #[.int .i64 t185, s_.1], .bool true]), (18, .pointer (some ⟨s_.2, 0, none⟩)), (83, .tuple #[.agg #[.int .i64 t185, s_.1], .bool true]), (95, .agg #[.int .i64 t185, s_.1]), (96, .bool true)]) (fun s_ w' => (w'.cell? ⟨gb173, 0, none⟩ = some (.int .i64 x174000_2) ∧ w'.cell? ⟨gb173, 1, none⟩ = some (.slice (some ad184) x174001_2.length co31) ∧ w'.cell? (ad184.add ((t180).toNat * 4)) = some (.int .u64 ((rd_T42 x174001_2 t180).f0)) ∧ w'.cell? ⟨(ad184.add ((t180).toNat * 4)).block, (ad184.add ((t180).toNat * 4)).off + 1, none⟩ = some (.int .u64 ((rd_T42 x174001_2 t180).f1)) ∧ w'.cell? ⟨(ad184.add ((t180).toNat * 4)).block, (ad184.add ((t180).toNat * 4)).off + 2, none⟩ = some (.int .i64 ((rd_T42 x174001_2 t180).f2)) ∧ w'.cell? ⟨(ad184.add ((t180).toNat * 4)).block, (ad184.add ((t180).toNat * 4)).off + 3, none⟩ = some (.slice A184_3 ((rd_T42 x174001_2 t180).f3).length c184_3)) ∧ (Kd.R (Kd.int .i64) 3 w' w.heap.size (fun k_ => some k_ ≠ (.slice (some ad184) x174001_2.length co31 : Value).ownBlock) (.slice A184_3 ((rd_T42 x174001_2 t180).f3).length c184_3) ((rd_T42 x174001_2 t180).f3)) ∧ (Kd.S k42 42 w' w.heap.size (fun k_ => some k_ ≠ (.slice A184_3 ((rd_T42 x174001_2 t180).f3).length c184_3 : Value).ownBlock ∧ some k_ ≠ (.slice (some ad184) x174001_2.length co31 : Value).ownBlock) s_.1 t186) ∧ (Kd.S k42 42 w' w.heap.size (fun k_ => some k_ ≠ (s_.1 : Value).ownBlock) (.slice (some ad184) x174001_2.length co31) x174001_2) ∧ (w'.heap[gb173]? = some (.cells #[.int .i64 x174000_2, .slice (some ad184) x174001_2.length co31] 24 (0, 0))) ∧ (w'.heap[s_.2]? = some (.cells #[.int .i64 0, .slice none 0 0] 24 (0, 0))) ∧ (w.heap.size ≤ s_.2) ∧ (w.heap.size ≤ s_.2) ∧ (gb173 ≠ s_.2) ∧ (s_.2 ≠ gb173) ∧ (Below w.heap.size w w')) ?_ ?_
                                      rotate_left
                                      · intro hCont
                                        refine two_ (i := 10) (j := 14) (Ni := some 94) (Nj := some 18) #[true, true, true, true, true, true, true, true, true, true, true, false, false, false, false, false, false] #[true, true, true, true, true, true, true, true, true, true, false, false, false, false, true, false, false] rfl rfl rfl rfl (two_of HT_.out (by kernel_rfl)) (by decide) (by decide) (fun K hK => ?_) (fun K hK => ?_)
                                        · skip
                                          refine goes_ Try.func22 (by kernel_rfl) rfl #[.agg #[.int .i64 x174000_2, .slice (some ad184) x174001_2.length co31], .agg #[.int .u8 2, .int .i64 t180, .int .i64 t182, .int .u64 ((rd_T42 x174001_2 t180).f0)]] (by rfl) rfl rfl (by (try simp only [List.map_toArray, List.map_cons, List.map_nil]); first | done | rfl | (simp only [List.length_drop, List.length_take]; rfl)) ?_
                                          with_reducible refine (meta_Apply.calls kj28 x174000_2 _ _ x174001_2 2 t180 t182 ((rd_T42 x174001_2 t180).f0) t185 t186 true _ ?side1 ?side2 A38.out).mono ?_
                                          (case side1 => repeat (first | exact (Kd.S_reads' HO_174001.out).2.2 | (with_reducible refine Kd.C_alloc ?_ _) | (with_reducible refine Kd.C_drewN ?_ _) | (with_reducible refine Kd.C_drew ?_)))
                                          (case side2 => exact (Kd.S_reads' HO_174001.out).2.1)
                                          rintro e w73 ⟨v187, rfl, ho0, hb⟩
                                          have HS2_ := (hb.cell (World.block_lt_of_cell? _ _ (hHeld.2.2.1))).trans (hHeld.2.2.1)
                                          have HS3_ := (hb.cell (World.block_lt_of_cell? _ _ (hHeld.2.2.2.1))).trans (hHeld.2.2.2.1)
                                          have HS4_ := (hb.cell (World.block_lt_of_cell? _ _ (hHeld.2.2.2.2.1))).trans (hHeld.2.2.2.2.1)
                                          have HS5_ := (hb.cell (World.block_lt_of_cell? _ _ (hHeld.2.2.2.2.2))).trans (hHeld.2.2.2.2.2)
                                          refine ⟨_, rfl, ?_⟩
                                          have n0_ := Aside0.mk (Kd.S_elder' (by (with_reducible repeat (first | apply Kd.S_alloc | apply Kd.S_drewN | apply Kd.S_drew)); exact HO_174001.out) (Kd.S_base ho0) hb)
                                          have n1_ := Aside0.mk (Kd.R_below (by (with_reducible repeat (first | apply Kd.R_alloc | apply Kd.R_drewN | apply Kd.R_drew)); exact HL184_3.out) hb)
                                          have n2_ := Aside0.mk (Kd.S_lower (Kd.S_new' (Kd.S_new' ho0 (Kd.S_lt (by (with_reducible repeat (first | apply Kd.S_alloc | apply Kd.S_drewN | apply Kd.S_drew)); exact HO_174001.out))) (Kd.R_lt (by (with_reducible repeat (first | apply Kd.R_alloc | apply Kd.R_drewN | apply Kd.R_drew)); exact HL184_3.out))) (below_size (by repeat (first | (with_reducible first | exact HB.out | apply below_alloc | apply pw_below_drewN | apply below_drew1 | refine below_set ?_ GE173.out) | exact HB.out))))
                                          have n3_ := Aside0.mk (blk_below (g := gb173) (o := .cells #[.int .i64 x174000_2, .slice (some ad184) x174001_2.length co31] 24 (0, 0)) (by (with_reducible repeat (first | refine blk_drewN ?_ _ | refine blk_drew ?_ | refine blk_alloc ?_ _)); exact BK173.out) hb)
                                          have n4_ := Aside0.mk (Kd.C_below (by repeat (first | (with_reducible exact HR184_3.out) | (with_reducible refine Kd.C_alloc ?_ _) | (with_reducible refine Kd.C_drewN ?_ _) | (with_reducible refine Kd.C_drew ?_) | exact HR184_3.out)) hb)
                                          have n5_ := Aside0.mk (below_step (by repeat (first | (with_reducible first | exact HB.out | apply below_alloc | apply pw_below_drewN | apply below_drew1 | refine below_set ?_ GE173.out) | exact HB.out)) hb)
                                          clear HO_174001
                                          clear HL184_3
                                          clear BK173
                                          clear HR184_3
                                          clear HB
                                          have HO_174001 := n0_
                                          have HL184_3 := n1_
                                          have HO188 := n2_
                                          have BK173 := n3_
                                          have HR184_3 := n4_
                                          have HB := n5_
                                          clear n0_ n1_ n2_ n3_ n4_ n5_
                                          (try clear hb)
                                          (try clear hb2)
                                          (try clear hk)
                                          (try clear hi)
                                          (try clear ho0)
                                          refine hK.out _ _ ⟨(blk_cell BK173.out 0).trans rfl, (blk_cell BK173.out 1).trans rfl, HS2_, HS3_, HS4_, HS5_⟩ (fun hHeld => ?_)
                                          clear hK K
                                          refine norm_ (a' := ?_) ?_ ?_
                                          rotate_left
                                          · show Act.put _ (some 94) _ = _
                                            simp only [Act.put, List.setIfInBounds_toArray, List.set_cons_zero, List.set_cons_succ, i64_w, i32_w]
                                            rfl
                                          refine pure_ (i := 11) (N := some 83) (v := ?_) (a' := ?_) #[true, true, true, true, true, true, true, true, true, true, true, true, false, false, false, false, false] rfl rfl (any_of HT_.out (by kernel_rfl)) (fun _ _ _ h => h) (Or.inl ⟨by rfl, ?_⟩) ?_ ?_
                                          rotate_left
                                          · intro w'
                                            go_simp
                                            with_reducible rfl
                                          rotate_left
                                          · simp only [Act.put, List.setIfInBounds_toArray, List.set_cons_zero, List.set_cons_succ, i64_w, i32_w]
                                            rfl
                                          refine pure_ (i := 12) (N := some 95) (v := ?_) (a' := ?_) #[true, true, true, true, true, true, true, true, true, true, true, true, true, false, false, false, false] rfl rfl (any_of HT_.out (by kernel_rfl)) (fun _ _ _ h => h) (Or.inl ⟨by rfl, ?_⟩) ?_ ?_
                                          rotate_left
                                          · intro w'
                                            go_simp
                                            with_reducible rfl
                                          rotate_left
                                          · simp only [Act.put, List.setIfInBounds_toArray, List.set_cons_zero, List.set_cons_succ, i64_w, i32_w]
                                            rfl
                                          refine pure_ (i := 13) (N := some 96) (v := ?_) (a' := ?_) #[true, true, true, true, true, true, true, true, true, true, true, true, true, true, false, false, false] rfl rfl (any_of HT_.out (by kernel_rfl)) (fun _ _ _ h => h) (Or.inl ⟨by rfl, ?_⟩) ?_ ?_
                                          rotate_left
                                          · intro w'
                                            go_simp
                                            with_reducible rfl
                                          rotate_left
                                          · simp only [Act.put, List.setIfInBounds_toArray, List.set_cons_zero, List.set_cons_succ, i64_w, i32_w]
                                            rfl
                                          refine one_ (i := 14) (N := some 18) #[true, true, true, true, true, true, true, true, true, true, true, true, true, true, true, false, false] rfl rfl (one_of HT_.out (by kernel_rfl)) (by decide) (fun K hK => ?_)
                                          refine box_step ?hg (N := 18) ?hd (cs := #[.int .i64 0, .slice none 0 0]) (t := 24) ?hr ?_; (case hd => rfl); (case hg => rfl); (case hr => first | (go_simp; done) | (go_simp; rfl))
                                          intro gb190 hg w74 hbox hb
                                          have HS2_ := (hb.cell (World.block_lt_of_cell? _ _ (hHeld.2.2.1))).trans (hHeld.2.2.1)
                                          have HS3_ := (hb.cell (World.block_lt_of_cell? _ _ (hHeld.2.2.2.1))).trans (hHeld.2.2.2.1)
                                          have HS4_ := (hb.cell (World.block_lt_of_cell? _ _ (hHeld.2.2.2.2.1))).trans (hHeld.2.2.2.2.1)
                                          have HS5_ := (hb.cell (World.block_lt_of_cell? _ _ (hHeld.2.2.2.2.2))).trans (hHeld.2.2.2.2.2)
                                          have n0_ := Aside0.mk (Kd.S_below (by (with_reducible repeat (first | apply Kd.S_alloc | apply Kd.S_drewN | apply Kd.S_drew)); exact HO_174001.out) hb)
                                          have n1_ := Aside0.mk (Kd.R_below (by (with_reducible repeat (first | apply Kd.R_alloc | apply Kd.R_drewN | apply Kd.R_drew)); exact HL184_3.out) hb)
                                          have n2_ := Aside0.mk (Kd.S_below (by (with_reducible repeat (first | apply Kd.S_alloc | apply Kd.S_drewN | apply Kd.S_drew)); exact HO188.out) hb)
                                          have n3_ := Aside0.mk (blk_below (g := gb173) (o := .cells #[.int .i64 x174000_2, .slice (some ad184) x174001_2.length co31] 24 (0, 0)) (by (with_reducible repeat (first | refine blk_drewN ?_ _ | refine blk_drew ?_ | refine blk_alloc ?_ _)); exact BK173.out) hb)
                                          have n4_ := Aside0.mk (Kd.C_below (by repeat (first | (with_reducible exact HR184_3.out) | (with_reducible refine Kd.C_alloc ?_ _) | (with_reducible refine Kd.C_drewN ?_ _) | (with_reducible refine Kd.C_drew ?_) | exact HR184_3.out)) hb)
                                          have n5_ := Aside0.mk (below_step (by repeat (first | (with_reducible first | exact HB.out | apply below_alloc | apply pw_below_drewN | apply below_drew1 | refine below_set ?_ GE173.out) | exact HB.out)) hb)
                                          have n6_ := Aside0.mk (hbox)
                                          have n7_ := Aside0.mk ((by rw [hg]; exact (below_size (by repeat (first | (with_reducible first | exact HB.out | apply below_alloc | apply pw_below_drewN | apply below_drew1 | refine below_set ?_ GE173.out) | exact HB.out))) : w.heap.size ≤ gb190))
                                          have n8_ := Aside0.mk ((by rw [hg]; exact (below_size (by repeat (first | (with_reducible first | exact HB.out | apply below_alloc | apply pw_below_drewN | apply below_drew1 | refine below_set ?_ GE173.out) | exact HB.out))) : w.heap.size ≤ gb190))
                                          have n9_ := Aside0.mk ((by rw [hg]; exact Nat.ne_of_lt (blk_lt (g := gb173) (o := .cells #[.int .i64 x174000_2, .slice (some ad184) x174001_2.length co31] 24 (0, 0)) (by (with_reducible repeat (first | refine blk_drewN ?_ _ | refine blk_drew ?_ | refine blk_alloc ?_ _)); exact BK173.out)) : gb173 ≠ gb190))
                                          have n10_ := Aside0.mk ((by rw [hg]; exact Nat.ne_of_gt (blk_lt (g := gb173) (o := .cells #[.int .i64 x174000_2, .slice (some ad184) x174001_2.length co31] 24 (0, 0)) (by (with_reducible repeat (first | refine blk_drewN ?_ _ | refine blk_drew ?_ | refine blk_alloc ?_ _)); exact BK173.out)) : gb190 ≠ gb173))
                                          clear HO_174001
                                          clear HL184_3
                                          clear HO188
                                          clear BK173
                                          clear HR184_3
                                          clear HB
                                          have HO_174001 := n0_
                                          have HL184_3 := n1_
                                          have HO188 := n2_
                                          have BK173 := n3_
                                          have HR184_3 := n4_
                                          have HB := n5_
                                          have BK190 := n6_
                                          have GW190 := n7_
                                          have GE190 := n8_
                                          have NB173_190 := n9_
                                          have NB190_173 := n10_
                                          clear n0_ n1_ n2_ n3_ n4_ n5_ n6_ n7_ n8_ n9_ n10_
                                          clear hb hbox hg
                                          refine hK.out _ _ ⟨(blk_cell BK173.out 0).trans rfl, (blk_cell BK173.out 1).trans rfl, HS2_, HS3_, HS4_, HS5_⟩ (fun hHeld => ?_)
                                          clear hK K
                                          refine norm_ (a' := ?_) ?_ ?_
                                          rotate_left
                                          · show Act.put _ (some 18) _ = _
                                            simp only [Act.put, List.setIfInBounds_toArray, List.set_cons_zero, List.set_cons_succ, i64_w, i32_w]
                                            rfl
                                          exact norm_ (by simp only [putAll, Act.put, List.setIfInBounds_toArray, List.set_cons_zero, List.set_cons_succ]) (hCont (v187, gb190) _ ⟨hHeld, (by (with_reducible repeat (first | apply Kd.R_alloc | apply Kd.R_drewN | apply Kd.R_drew)); exact Kd.R_mono HL184_3.out (fun _ hk => hk.2)), (by (with_reducible repeat (first | apply Kd.S_alloc | apply Kd.S_drewN | apply Kd.S_drew)); exact Kd.S_mono HO188.out (fun _ hk => ⟨hk.2, hk.1.2⟩)), (by (with_reducible repeat (first | apply Kd.S_alloc | apply Kd.S_drewN | apply Kd.S_drew)); exact Kd.S_mono HO_174001.out (fun _ hk => hk.2)), (by (with_reducible repeat (first | refine blk_drewN ?_ _ | refine blk_drew ?_ | refine blk_alloc ?_ _)); exact BK173.out), (by (with_reducible repeat (first | refine blk_drewN ?_ _ | refine blk_drew ?_ | refine blk_alloc ?_ _)); exact BK190.out), GW190.out, GE190.out, NB173_190.out, NB190_173.out, (by repeat (first | (with_reducible first | exact HB.out | apply below_alloc | apply pw_below_drewN | apply below_drew1 | refine below_set ?_ GE173.out | refine below_set ?_ GE190.out) | exact HB.out))⟩)
                                        · skip
                                          refine box_step ?hg (N := 18) ?hd (cs := #[.int .i64 0, .slice none 0 0]) (t := 24) ?hr ?_; (case hd => rfl); (case hg => rfl); (case hr => first | (go_simp; done) | (go_simp; rfl))
                                          intro gb190 hg w73 hbox hb
                                          have HS2_ := (hb.cell (World.block_lt_of_cell? _ _ (hHeld.2.2.1))).trans (hHeld.2.2.1)
                                          have HS3_ := (hb.cell (World.block_lt_of_cell? _ _ (hHeld.2.2.2.1))).trans (hHeld.2.2.2.1)
                                          have HS4_ := (hb.cell (World.block_lt_of_cell? _ _ (hHeld.2.2.2.2.1))).trans (hHeld.2.2.2.2.1)
                                          have HS5_ := (hb.cell (World.block_lt_of_cell? _ _ (hHeld.2.2.2.2.2))).trans (hHeld.2.2.2.2.2)
                                          have n0_ := Aside0.mk (Kd.S_below (by (with_reducible repeat (first | apply Kd.S_alloc | apply Kd.S_drewN | apply Kd.S_drew)); exact HO_174001.out) hb)
                                          have n1_ := Aside0.mk (Kd.R_below (by (with_reducible repeat (first | apply Kd.R_alloc | apply Kd.R_drewN | apply Kd.R_drew)); exact HL184_3.out) hb)
                                          have n2_ := Aside0.mk (blk_below (g := gb173) (o := .cells #[.int .i64 x174000_2, .slice (some ad184) x174001_2.length co31] 24 (0, 0)) (by (with_reducible repeat (first | refine blk_drewN ?_ _ | refine blk_drew ?_ | refine blk_alloc ?_ _)); exact BK173.out) hb)
                                          have n3_ := Aside0.mk (Kd.C_below (by repeat (first | (with_reducible exact HR184_3.out) | (with_reducible refine Kd.C_alloc ?_ _) | (with_reducible refine Kd.C_drewN ?_ _) | (with_reducible refine Kd.C_drew ?_) | exact HR184_3.out)) hb)
                                          have n4_ := Aside0.mk (below_step (by repeat (first | (with_reducible first | exact HB.out | apply below_alloc | apply pw_below_drewN | apply below_drew1 | refine below_set ?_ GE173.out) | exact HB.out)) hb)
                                          have n5_ := Aside0.mk (hbox)
                                          have n6_ := Aside0.mk ((by rw [hg]; exact (below_size (by repeat (first | (with_reducible first | exact HB.out | apply below_alloc | apply pw_below_drewN | apply below_drew1 | refine below_set ?_ GE173.out) | exact HB.out))) : w.heap.size ≤ gb190))
                                          have n7_ := Aside0.mk ((by rw [hg]; exact (below_size (by repeat (first | (with_reducible first | exact HB.out | apply below_alloc | apply pw_below_drewN | apply below_drew1 | refine below_set ?_ GE173.out) | exact HB.out))) : w.heap.size ≤ gb190))
                                          have n8_ := Aside0.mk ((by rw [hg]; exact Nat.ne_of_lt (blk_lt (g := gb173) (o := .cells #[.int .i64 x174000_2, .slice (some ad184) x174001_2.length co31] 24 (0, 0)) (by (with_reducible repeat (first | refine blk_drewN ?_ _ | refine blk_drew ?_ | refine blk_alloc ?_ _)); exact BK173.out)) : gb173 ≠ gb190))
                                          have n9_ := Aside0.mk ((by rw [hg]; exact Nat.ne_of_gt (blk_lt (g := gb173) (o := .cells #[.int .i64 x174000_2, .slice (some ad184) x174001_2.length co31] 24 (0, 0)) (by (with_reducible repeat (first | refine blk_drewN ?_ _ | refine blk_drew ?_ | refine blk_alloc ?_ _)); exact BK173.out)) : gb190 ≠ gb173))
                                          clear HO_174001
                                          clear HL184_3
                                          clear BK173
                                          clear HR184_3
                                          clear HB
                                          have HO_174001 := n0_
                                          have HL184_3 := n1_
                                          have BK173 := n2_
                                          have HR184_3 := n3_
                                          have HB := n4_
                                          have BK190 := n5_
                                          have GW190 := n6_
                                          have GE190 := n7_
                                          have NB173_190 := n8_
                                          have NB190_173 := n9_
                                          clear n0_ n1_ n2_ n3_ n4_ n5_ n6_ n7_ n8_ n9_
                                          clear hb hbox hg
                                          refine hK.out _ _ ⟨(blk_cell BK173.out 0).trans rfl, (blk_cell BK173.out 1).trans rfl, HS2_, HS3_, HS4_, HS5_⟩ (fun hHeld => ?_)
                                          clear hK K
                                          refine norm_ (a' := ?_) ?_ ?_
                                          rotate_left
                                          · show Act.put _ (some 18) _ = _
                                            simp only [Act.put, List.setIfInBounds_toArray, List.set_cons_zero, List.set_cons_succ, i64_w, i32_w]
                                            rfl
                                          refine one_ (i := 10) (N := some 94) #[true, true, true, true, true, true, true, true, true, true, true, false, false, false, true, false, false] rfl rfl (one_of HT_.out (by kernel_rfl)) (by decide) (fun K hK => ?_)
                                          refine goes_ Try.func22 (by kernel_rfl) rfl #[.agg #[.int .i64 x174000_2, .slice (some ad184) x174001_2.length co31], .agg #[.int .u8 2, .int .i64 t180, .int .i64 t182, .int .u64 ((rd_T42 x174001_2 t180).f0)]] (by rfl) rfl rfl (by (try simp only [List.map_toArray, List.map_cons, List.map_nil]); first | done | rfl | (simp only [List.length_drop, List.length_take]; rfl)) ?_
                                          with_reducible refine (meta_Apply.calls kj28 x174000_2 _ _ x174001_2 2 t180 t182 ((rd_T42 x174001_2 t180).f0) t185 t186 true _ ?side1 ?side2 A38.out).mono ?_
                                          (case side1 => repeat (first | exact (Kd.S_reads' HO_174001.out).2.2 | (with_reducible refine Kd.C_alloc ?_ _) | (with_reducible refine Kd.C_drewN ?_ _) | (with_reducible refine Kd.C_drew ?_)))
                                          (case side2 => exact (Kd.S_reads' HO_174001.out).2.1)
                                          rintro e w74 ⟨v187, rfl, ho0, hb⟩
                                          have HS2_ := (hb.cell (World.block_lt_of_cell? _ _ (hHeld.2.2.1))).trans (hHeld.2.2.1)
                                          have HS3_ := (hb.cell (World.block_lt_of_cell? _ _ (hHeld.2.2.2.1))).trans (hHeld.2.2.2.1)
                                          have HS4_ := (hb.cell (World.block_lt_of_cell? _ _ (hHeld.2.2.2.2.1))).trans (hHeld.2.2.2.2.1)
                                          have HS5_ := (hb.cell (World.block_lt_of_cell? _ _ (hHeld.2.2.2.2.2))).trans (hHeld.2.2.2.2.2)
                                          refine ⟨_, rfl, ?_⟩
                                          have n0_ := Aside0.mk (Kd.S_elder' (by (with_reducible repeat (first | apply Kd.S_alloc | apply Kd.S_drewN | apply Kd.S_drew)); exact HO_174001.out) (Kd.S_base ho0) hb)
                                          have n1_ := Aside0.mk (Kd.R_below (by (with_reducible repeat (first | apply Kd.R_alloc | apply Kd.R_drewN | apply Kd.R_drew)); exact HL184_3.out) hb)
                                          have n2_ := Aside0.mk (Kd.S_lower (Kd.S_new' (Kd.S_new' ho0 (Kd.S_lt (by (with_reducible repeat (first | apply Kd.S_alloc | apply Kd.S_drewN | apply Kd.S_drew)); exact HO_174001.out))) (Kd.R_lt (by (with_reducible repeat (first | apply Kd.R_alloc | apply Kd.R_drewN | apply Kd.R_drew)); exact HL184_3.out))) (below_size (by repeat (first | (with_reducible first | exact HB.out | apply below_alloc | apply pw_below_drewN | apply below_drew1 | refine below_set ?_ GE173.out | refine below_set ?_ GE190.out) | exact HB.out))))
                                          have n3_ := Aside0.mk (blk_below (g := gb173) (o := .cells #[.int .i64 x174000_2, .slice (some ad184) x174001_2.length co31] 24 (0, 0)) (by (with_reducible repeat (first | refine blk_drewN ?_ _ | refine blk_drew ?_ | refine blk_alloc ?_ _)); exact BK173.out) hb)
                                          have n4_ := Aside0.mk (Kd.C_below (by repeat (first | (with_reducible exact HR184_3.out) | (with_reducible refine Kd.C_alloc ?_ _) | (with_reducible refine Kd.C_drewN ?_ _) | (with_reducible refine Kd.C_drew ?_) | exact HR184_3.out)) hb)
                                          have n5_ := Aside0.mk (blk_below (g := gb190) (o := .cells #[.int .i64 0, .slice none 0 0] 24 (0, 0)) (by (with_reducible repeat (first | refine blk_drewN ?_ _ | refine blk_drew ?_ | refine blk_alloc ?_ _)); exact BK190.out) hb)
                                          have n6_ := Aside0.mk (below_step (by repeat (first | (with_reducible first | exact HB.out | apply below_alloc | apply pw_below_drewN | apply below_drew1 | refine below_set ?_ GE173.out | refine below_set ?_ GE190.out) | exact HB.out)) hb)
                                          clear HO_174001
                                          clear HL184_3
                                          clear BK173
                                          clear HR184_3
                                          clear BK190
                                          clear HB
                                          have HO_174001 := n0_
                                          have HL184_3 := n1_
                                          have HO188 := n2_
                                          have BK173 := n3_
                                          have HR184_3 := n4_
                                          have BK190 := n5_
                                          have HB := n6_
                                          clear n0_ n1_ n2_ n3_ n4_ n5_ n6_
                                          (try clear hb)
                                          (try clear hb2)
                                          (try clear hk)
                                          (try clear hi)
                                          (try clear ho0)
                                          refine hK.out _ _ ⟨(blk_cell BK173.out 0).trans rfl, (blk_cell BK173.out 1).trans rfl, HS2_, HS3_, HS4_, HS5_⟩ (fun hHeld => ?_)
                                          clear hK K
                                          refine norm_ (a' := ?_) ?_ ?_
                                          rotate_left
                                          · show Act.put _ (some 94) _ = _
                                            simp only [Act.put, List.setIfInBounds_toArray, List.set_cons_zero, List.set_cons_succ, i64_w, i32_w]
                                            rfl
                                          refine pure_ (i := 11) (N := some 83) (v := ?_) (a' := ?_) #[true, true, true, true, true, true, true, true, true, true, true, true, false, false, true, false, false] rfl rfl (any_of HT_.out (by kernel_rfl)) (fun _ _ _ h => h) (Or.inl ⟨by rfl, ?_⟩) ?_ ?_
                                          rotate_left
                                          · intro w'
                                            go_simp
                                            with_reducible rfl
                                          rotate_left
                                          · simp only [Act.put, List.setIfInBounds_toArray, List.set_cons_zero, List.set_cons_succ, i64_w, i32_w]
                                            rfl
                                          refine pure_ (i := 12) (N := some 95) (v := ?_) (a' := ?_) #[true, true, true, true, true, true, true, true, true, true, true, true, true, false, true, false, false] rfl rfl (any_of HT_.out (by kernel_rfl)) (fun _ _ _ h => h) (Or.inl ⟨by rfl, ?_⟩) ?_ ?_
                                          rotate_left
                                          · intro w'
                                            go_simp
                                            with_reducible rfl
                                          rotate_left
                                          · simp only [Act.put, List.setIfInBounds_toArray, List.set_cons_zero, List.set_cons_succ, i64_w, i32_w]
                                            rfl
                                          refine pure_ (i := 13) (N := some 96) (v := ?_) (a' := ?_) #[true, true, true, true, true, true, true, true, true, true, true, true, true, true, true, false, false] rfl rfl (any_of HT_.out (by kernel_rfl)) (fun _ _ _ h => h) (Or.inl ⟨by rfl, ?_⟩) ?_ ?_
                                          rotate_left
                                          · intro w'
                                            go_simp
                                            with_reducible rfl
                                          rotate_left
                                          · simp only [Act.put, List.setIfInBounds_toArray, List.set_cons_zero, List.set_cons_succ, i64_w, i32_w]
                                            rfl
                                          exact norm_ (by simp only [putAll, Act.put, List.setIfInBounds_toArray, List.set_cons_zero, List.set_cons_succ]) (hCont (v187, gb190) _ ⟨hHeld, (by (with_reducible repeat (first | apply Kd.R_alloc | apply Kd.R_drewN | apply Kd.R_drew)); exact Kd.R_mono HL184_3.out (fun _ hk => hk.2)), (by (with_reducible repeat (first | apply Kd.S_alloc | apply Kd.S_drewN | apply Kd.S_drew)); exact Kd.S_mono HO188.out (fun _ hk => ⟨hk.2, hk.1.2⟩)), (by (with_reducible repeat (first | apply Kd.S_alloc | apply Kd.S_drewN | apply Kd.S_drew)); exact Kd.S_mono HO_174001.out (fun _ hk => hk.2)), (by (with_reducible repeat (first | refine blk_drewN ?_ _ | refine blk_drew ?_ | refine blk_alloc ?_ _)); exact BK173.out), (by (with_reducible repeat (first | refine blk_drewN ?_ _ | refine blk_drew ?_ | refine blk_alloc ?_ _)); exact BK190.out), GW190.out, GE190.out, NB173_190.out, NB190_173.out, (by repeat (first | (with_reducible first | exact HB.out | apply below_alloc | apply pw_below_drewN | apply below_drew1 | refine below_set ?_ GE173.out | refine below_set ?_ GE190.out) | exact HB.out))⟩)
                                      rintro ⟨v187, gb190⟩ w75 ⟨hS_, h0_, h1_, h2_, h3_, h4_, h5_, h6_, h7_, h8_, h9_⟩
                                      have n0_ : Aside0 (Kd.R (Kd.int .i64) 3 w75 w.heap.size (fun k_ => some k_ ≠ (.slice (some ad184) x174001_2.length co31 : Value).ownBlock) (.slice A184_3 ((rd_T42 x174001_2 t180).f3).length c184_3) ((rd_T42 x174001_2 t180).f3)) := ⟨h0_⟩
                                      have n1_ : Aside0 (Kd.S k42 42 w75 w.heap.size (fun k_ => some k_ ≠ (.slice A184_3 ((rd_T42 x174001_2 t180).f3).length c184_3 : Value).ownBlock ∧ some k_ ≠ (.slice (some ad184) x174001_2.length co31 : Value).ownBlock) v187 t186) := ⟨h1_⟩
                                      have n2_ : Aside0 (Kd.S k42 42 w75 w.heap.size (fun k_ => some k_ ≠ (v187 : Value).ownBlock) (.slice (some ad184) x174001_2.length co31) x174001_2) := ⟨h2_⟩
                                      have n3_ : Aside0 (w75.heap[gb173]? = some (.cells #[.int .i64 x174000_2, .slice (some ad184) x174001_2.length co31] 24 (0, 0))) := ⟨h3_⟩
                                      have n4_ : Aside0 (w75.heap[gb190]? = some (.cells #[.int .i64 0, .slice none 0 0] 24 (0, 0))) := ⟨h4_⟩
                                      have n5_ : Aside0 (w.heap.size ≤ gb190) := ⟨h5_⟩
                                      have n6_ : Aside0 (w.heap.size ≤ gb190) := ⟨h6_⟩
                                      have n7_ : Aside0 (gb173 ≠ gb190) := ⟨h7_⟩
                                      have n8_ : Aside0 (gb190 ≠ gb173) := ⟨h8_⟩
                                      have n9_ : Aside0 (Below w.heap.size w w75) := ⟨h9_⟩
                                      clear HO_174001
                                      clear BK173
                                      clear HB
                                      clear h0_ h1_ h2_ h3_ h4_ h5_ h6_ h7_ h8_ h9_
                                      have HL184_3 := n0_
                                      have HO188 := n1_
                                      have HO_174001 := n2_
                                      have BK173 := n3_
                                      have BK190 := n4_
                                      have GW190 := n5_
                                      have GE190 := n6_
                                      have NB173_190 := n7_
                                      have NB190_173 := n8_
                                      have HB := n9_
                                      clear n0_ n1_ n2_ n3_ n4_ n5_ n6_ n7_ n8_ n9_
                                      have hHeld : w75.cell? ⟨gb173, 0, none⟩ = some (.int .i64 x174000_2) ∧ w75.cell? ⟨gb173, 1, none⟩ = some (.slice (some ad184) x174001_2.length co31) ∧ w75.cell? (ad184.add ((t180).toNat * 4)) = some (.int .u64 ((rd_T42 x174001_2 t180).f0)) ∧ w75.cell? ⟨(ad184.add ((t180).toNat * 4)).block, (ad184.add ((t180).toNat * 4)).off + 1, none⟩ = some (.int .u64 ((rd_T42 x174001_2 t180).f1)) ∧ w75.cell? ⟨(ad184.add ((t180).toNat * 4)).block, (ad184.add ((t180).toNat * 4)).off + 2, none⟩ = some (.int .i64 ((rd_T42 x174001_2 t180).f2)) ∧ w75.cell? ⟨(ad184.add ((t180).toNat * 4)).block, (ad184.add ((t180).toNat * 4)).off + 3, none⟩ = some (.slice A184_3 ((rd_T42 x174001_2 t180).f3).length c184_3) := hS_
                                      obtain ⟨Ao77, co77, eo77⟩ := Kd.S_slice HO188.out
                                      (first | subst eo77 | (injection eo77 with f1_ f2_ f3_; have f4_ := f1_.symm; have f5_ := f3_.symm; clear f1_ f2_ f3_; subst f4_; subst f5_))
                                      refine norm_ (a' := ?_) ?_ ?_
                                      rotate_left
                                      · simp only [putAll, Act.put, List.setIfInBounds_toArray, List.set_cons_zero, List.set_cons_succ]
                                        rfl
                                      refine one_ (i := 15) (N := none) #[true, true, true, true, true, true, true, true, true, true, true, true, true, true, true, true, false] rfl rfl (one_of HT_.out (by kernel_rfl)) (by decide) (fun K hK => ?_)
                                      have hs76 : w75.cell? ⟨gb190, 0, none⟩ = some (.int .i64 0) := (blk_cell BK190.out 0).trans rfl
                                      have hfs76 := blk_frozen BK190.out 0
                                      have hns76_0 := NB173_190.out
                                      have hms76_0 := NB190_173.out
                                      have hs78 : w75.cell? ⟨gb190, 1, none⟩ = some (.slice none 0 0) := (blk_cell BK190.out 1).trans rfl
                                      have hfs78 := blk_frozen BK190.out 1
                                      have hns78_0 := NB173_190.out
                                      have hms78_0 := NB190_173.out
                                      refine skip_ (w1 := ?_) (by rfl) rfl ?_ ?_
                                      rotate_left
                                      · go_simp
                                        rfl
                                      refine hK.out _ _ ⟨((cell_far (p := ⟨gb190, _, none⟩) NB173_190.out _).trans (((cell_far (p := ⟨gb190, _, none⟩) NB173_190.out _).trans (hHeld.1)))), ((cell_far (p := ⟨gb190, _, none⟩) NB173_190.out _).trans (((cell_far (p := ⟨gb190, _, none⟩) NB173_190.out _).trans (hHeld.2.1)))), ((cell_far (p := ⟨gb190, _, none⟩) (by first | exact Kd.own_blk (Kd.S_ne HO_174001.out BK190.out (by decide)) | (rw [add_block]; exact Kd.own_blk (Kd.S_ne HO_174001.out BK190.out (by decide))) | (show (Addr.add _ _).block ≠ _; rw [add_block]; exact Kd.own_blk (Kd.S_ne HO_174001.out BK190.out (by decide))) | (dsimp only; exact Kd.own_blk (Kd.S_ne HO_174001.out BK190.out (by decide)))) _).trans (((cell_far (p := ⟨gb190, _, none⟩) (by first | exact Kd.own_blk (Kd.S_ne HO_174001.out BK190.out (by decide)) | (rw [add_block]; exact Kd.own_blk (Kd.S_ne HO_174001.out BK190.out (by decide))) | (show (Addr.add _ _).block ≠ _; rw [add_block]; exact Kd.own_blk (Kd.S_ne HO_174001.out BK190.out (by decide))) | (dsimp only; exact Kd.own_blk (Kd.S_ne HO_174001.out BK190.out (by decide)))) _).trans (hHeld.2.2.1)))), ((cell_far (p := ⟨gb190, _, none⟩) (by first | exact Kd.own_blk (Kd.S_ne HO_174001.out BK190.out (by decide)) | (rw [add_block]; exact Kd.own_blk (Kd.S_ne HO_174001.out BK190.out (by decide))) | (show (Addr.add _ _).block ≠ _; rw [add_block]; exact Kd.own_blk (Kd.S_ne HO_174001.out BK190.out (by decide))) | (dsimp only; exact Kd.own_blk (Kd.S_ne HO_174001.out BK190.out (by decide)))) _).trans (((cell_far (p := ⟨gb190, _, none⟩) (by first | exact Kd.own_blk (Kd.S_ne HO_174001.out BK190.out (by decide)) | (rw [add_block]; exact Kd.own_blk (Kd.S_ne HO_174001.out BK190.out (by decide))) | (show (Addr.add _ _).block ≠ _; rw [add_block]; exact Kd.own_blk (Kd.S_ne HO_174001.out BK190.out (by decide))) | (dsimp only; exact Kd.own_blk (Kd.S_ne HO_174001.out BK190.out (by decide)))) _).trans (hHeld.2.2.2.1)))), ((cell_far (p := ⟨gb190, _, none⟩) (by first | exact Kd.own_blk (Kd.S_ne HO_174001.out BK190.out (by decide)) | (rw [add_block]; exact Kd.own_blk (Kd.S_ne HO_174001.out BK190.out (by decide))) | (show (Addr.add _ _).block ≠ _; rw [add_block]; exact Kd.own_blk (Kd.S_ne HO_174001.out BK190.out (by decide))) | (dsimp only; exact Kd.own_blk (Kd.S_ne HO_174001.out BK190.out (by decide)))) _).trans (((cell_far (p := ⟨gb190, _, none⟩) (by first | exact Kd.own_blk (Kd.S_ne HO_174001.out BK190.out (by decide)) | (rw [add_block]; exact Kd.own_blk (Kd.S_ne HO_174001.out BK190.out (by decide))) | (show (Addr.add _ _).block ≠ _; rw [add_block]; exact Kd.own_blk (Kd.S_ne HO_174001.out BK190.out (by decide))) | (dsimp only; exact Kd.own_blk (Kd.S_ne HO_174001.out BK190.out (by decide)))) _).trans (hHeld.2.2.2.2.1)))), ((cell_far (p := ⟨gb190, _, none⟩) (by first | exact Kd.own_blk (Kd.S_ne HO_174001.out BK190.out (by decide)) | (rw [add_block]; exact Kd.own_blk (Kd.S_ne HO_174001.out BK190.out (by decide))) | (show (Addr.add _ _).block ≠ _; rw [add_block]; exact Kd.own_blk (Kd.S_ne HO_174001.out BK190.out (by decide))) | (dsimp only; exact Kd.own_blk (Kd.S_ne HO_174001.out BK190.out (by decide)))) _).trans (((cell_far (p := ⟨gb190, _, none⟩) (by first | exact Kd.own_blk (Kd.S_ne HO_174001.out BK190.out (by decide)) | (rw [add_block]; exact Kd.own_blk (Kd.S_ne HO_174001.out BK190.out (by decide))) | (show (Addr.add _ _).block ≠ _; rw [add_block]; exact Kd.own_blk (Kd.S_ne HO_174001.out BK190.out (by decide))) | (dsimp only; exact Kd.own_blk (Kd.S_ne HO_174001.out BK190.out (by decide)))) _).trans (hHeld.2.2.2.2.2))))⟩ (fun hHeld => ?_)
                                      clear hK K
                                      refine pure_ (i := 16) (N := some 19) (v := ?_) (a' := ?_) #[true, true, true, true, true, true, true, true, true, true, true, true, true, true, true, true, true] rfl rfl (any_of HT_.out (by kernel_rfl)) (fun _ _ _ h => h) (Or.inl ⟨by rfl, ?_⟩) ?_ ?_
                                      rotate_left
                                      · intro w'
                                        go_simp
                                        with_reducible rfl
                                      rotate_left
                                      · simp only [Act.put, List.setIfInBounds_toArray, List.set_cons_zero, List.set_cons_succ, i64_w, i32_w]
                                        rfl
                                      refine done_ (done_of HT_.out (by kernel_rfl)) ?_
                                      have n0_ : Aside0 (Kd.S k42 42 ((w75.setCell ⟨gb190, 0, none⟩ (.int .i64 t185)).setCell ⟨gb190, 1, none⟩ (.slice Ao77 t186.length co77)) w.heap.size (fun k_ => some k_ ≠ (.slice Ao77 t186.length co77 : Value).ownBlock) (.slice (some ad184) x174001_2.length co31) x174001_2) := ⟨by (with_reducible repeat (first | apply Kd.S_alloc | apply Kd.S_drewN | apply Kd.S_drew)); exact Kd.S_mono (Kd.S_far (p := ⟨gb190, 1, none⟩) (Kd.S_far (p := ⟨gb190, 0, none⟩) (Kd.S_types HO_174001.out BK190.out (by decide)) (fun _ hk => hk.2) (.int .i64 t185)) (fun _ hk => hk.2) (.slice Ao77 t186.length co77)) (fun _ hk => hk.1)⟩
                                      have n1_ : Aside0 (Kd.R (Kd.int .i64) 3 ((w75.setCell ⟨gb190, 0, none⟩ (.int .i64 t185)).setCell ⟨gb190, 1, none⟩ (.slice Ao77 t186.length co77)) w.heap.size (fun k_ => some k_ ≠ (.slice (some ad184) x174001_2.length co31 : Value).ownBlock) (.slice A184_3 ((rd_T42 x174001_2 t180).f3).length c184_3) ((rd_T42 x174001_2 t180).f3)) := ⟨by (with_reducible repeat (first | apply Kd.R_alloc | apply Kd.R_drewN | apply Kd.R_drew)); exact Kd.R_mono (Kd.R_far (p := ⟨gb190, 1, none⟩) (Kd.R_far (p := ⟨gb190, 0, none⟩) (Kd.R_types HL184_3.out BK190.out (by decide)) (fun _ hk => hk.2) (.int .i64 t185)) (fun _ hk => hk.2) (.slice Ao77 t186.length co77)) (fun _ hk => hk.1)⟩
                                      have n2_ : Aside0 (Kd.S k42 42 ((w75.setCell ⟨gb190, 0, none⟩ (.int .i64 t185)).setCell ⟨gb190, 1, none⟩ (.slice Ao77 t186.length co77)) w.heap.size (fun k_ => some k_ ≠ (.slice (some ad184) x174001_2.length co31 : Value).ownBlock ∧ some k_ ≠ (.slice A184_3 ((rd_T42 x174001_2 t180).f3).length c184_3 : Value).ownBlock) (.slice Ao77 t186.length co77) t186) := ⟨by (with_reducible repeat (first | apply Kd.S_alloc | apply Kd.S_drewN | apply Kd.S_drew)); exact Kd.S_mono (Kd.S_far (p := ⟨gb190, 1, none⟩) (Kd.S_far (p := ⟨gb190, 0, none⟩) (Kd.S_types HO188.out BK190.out (by decide)) (fun _ hk => hk.2) (.int .i64 t185)) (fun _ hk => hk.2) (.slice Ao77 t186.length co77)) (fun _ hk => ⟨hk.1.2, hk.1.1⟩)⟩
                                      have n3_ : Aside0 (((w75.setCell ⟨gb190, 0, none⟩ (.int .i64 t185)).setCell ⟨gb190, 1, none⟩ (.slice Ao77 t186.length co77)).heap[gb173]? = some (.cells #[.int .i64 x174000_2, .slice (some ad184) x174001_2.length co31] 24 (0, 0))) := ⟨by (with_reducible repeat (first | refine blk_drewN ?_ _ | refine blk_drew ?_ | refine blk_alloc ?_ _)); refine blk_far ?_ NB173_190.out _; (with_reducible repeat (first | refine blk_drewN ?_ _ | refine blk_drew ?_ | refine blk_alloc ?_ _)); refine blk_far ?_ NB173_190.out _; (with_reducible repeat (first | refine blk_drewN ?_ _ | refine blk_drew ?_ | refine blk_alloc ?_ _)); exact BK173.out⟩
                                      have n4_ : Aside0 (((w75.setCell ⟨gb190, 0, none⟩ (.int .i64 t185)).setCell ⟨gb190, 1, none⟩ (.slice Ao77 t186.length co77)).heap[gb190]? = some (.cells #[.int .i64 t185, .slice Ao77 t186.length co77] 24 (0, 0))) := ⟨by (with_reducible repeat (first | refine blk_drewN ?_ _ | refine blk_drew ?_ | refine blk_alloc ?_ _)); refine blk_put (cs := #[.int .i64 t185, .slice none 0 0]) ?_ 1 _ rfl; (with_reducible repeat (first | refine blk_drewN ?_ _ | refine blk_drew ?_ | refine blk_alloc ?_ _)); refine blk_put (cs := #[.int .i64 0, .slice none 0 0]) ?_ 0 _ rfl; (with_reducible repeat (first | refine blk_drewN ?_ _ | refine blk_drew ?_ | refine blk_alloc ?_ _)); exact BK190.out⟩
                                      have n5_ : Aside0 (Below w.heap.size w ((w75.setCell ⟨gb190, 0, none⟩ (.int .i64 t185)).setCell ⟨gb190, 1, none⟩ (.slice Ao77 t186.length co77))) := ⟨by repeat (first | (with_reducible first | exact HB.out | apply below_alloc | apply pw_below_drewN | apply below_drew1 | refine below_set ?_ GE173.out | refine below_set ?_ GE190.out) | exact HB.out)⟩
                                      (try clear HO_174001)
                                      (try clear HL184_3)
                                      (try clear HO188)
                                      (try clear BK173)
                                      (try clear BK190)
                                      (try clear HB)
                                      generalize ((w75.setCell ⟨gb190, 0, none⟩ (.int .i64 t185)).setCell ⟨gb190, 1, none⟩ (.slice Ao77 t186.length co77)) = w79 at n0_ n1_ n2_ n3_ n4_ n5_ ⊢
                                      have HO_174001 := n0_
                                      have HL184_3 := n1_
                                      have HO188 := n2_
                                      have BK173 := n3_
                                      have BK190 := n4_
                                      have HB := n5_
                                      clear n0_ n1_ n2_ n3_ n4_ n5_
                                      have hnb80 := NB190_173.out
                                      have hnc80 := NB173_190.out
                                      have hcz81_0 : w79.cell? ⟨gb190, 0, none⟩ = some (.int .i64 t185) := (blk_cell BK190.out 0).trans rfl
                                      have hcz81_1 : w79.cell? ⟨gb190, 1, none⟩ = some (.slice Ao77 t186.length co77) := (blk_cell BK190.out 1).trans rfl
                                      have hfz81_0 := blk_frozen BK190.out 0
                                      have hfz81_1 := blk_frozen BK190.out 1
                                      have p191 : 0 ≤ (t180 : Int) := of_decide_eq_true (by first | (with_reducible assumption) | assumption)
                                      have q191 : t180 < (t186.length : Int) := of_decide_eq_true (by first | (with_reducible assumption) | assumption)
                                      obtain ⟨ad191, A191_3, c191_3, e191, hx191_0, hx191_1, hx191_2, hx191_3, hl191_3, hi191_3⟩ := at_T42 (Kd.S_reads' HO188.out).2.2 t180 p191 q191
                                      cases e191
                                      obtain ⟨ce191, hce191, hMe191, hcc191⟩ := Kd.S_get HO188.out z42 t180 p191 (by first | exact q191 | exact of_decide_eq_true (by first | (with_reducible assumption) | assumption) | (have e_ := (Kd.S_reads' HO188.out).1; omega))
                                      obtain ⟨ve191_3, rfl, ge191_3⟩ := k42_openM hMe191
                                      have hv191_3 := hcc191 3 _ rfl
                                      rw [add_field _ _ 3 (by omega)] at hv191_3
                                      replace hv191_3 := Option.some.inj (hv191_3.symm.trans hx191_3)
                                      rw [hv191_3] at ge191_3
                                      have HL191_3 := Aside0.mk (show Kd.R (Kd.int .i64) 3 _ _ _ _ ((rd_T42 t186 t180).f3) from ge191_3)
                                      clear hv191_3 ge191_3
                                      clear hcc191 hce191
                                      have HR191_3 := Aside0.mk hi191_3
                                      have HC191_3 := Aside0.mk hl191_3
                                      clear hi191_3 hl191_3
                                      replace p191 := eq_true p191
                                      replace q191 := eq_true q191
                                      try go_wp2
                                      (try (rw [drewN_self w79]; generalize hq_ : World.drewN w79 _ = w79; have n0_ : Aside0 (Kd.R (Kd.int .i64) 3 w79 w.heap.size (fun k_ => some k_ ≠ (.slice (some ad184) x174001_2.length co31 : Value).ownBlock) (.slice A184_3 ((rd_T42 x174001_2 t180).f3).length c184_3) ((rd_T42 x174001_2 t180).f3)) := ⟨by rw [← hq_]; exact (by (with_reducible repeat (first | apply Kd.R_alloc | apply Kd.R_drewN | apply Kd.R_drew)); exact HL184_3.out)⟩; have n1_ : Aside0 (Kd.R (Kd.int .i64) 3 w79 w.heap.size (fun k_ => some k_ ≠ (.slice A184_3 ((rd_T42 x174001_2 t180).f3).length c184_3 : Value).ownBlock ∧ some k_ ≠ (.slice (some ad191) t186.length co77 : Value).ownBlock ∧ some k_ ≠ (.slice (some ad184) x174001_2.length co31 : Value).ownBlock) (.slice A191_3 ((rd_T42 t186 t180).f3).length c191_3) ((rd_T42 t186 t180).f3)) := ⟨by rw [← hq_]; exact (by (with_reducible repeat (first | apply Kd.R_alloc | apply Kd.R_drewN | apply Kd.R_drew)); exact Kd.R_mono HL191_3.out (fun _ hk => ⟨hk.1.2, ⟨hk.2, hk.1.1⟩⟩))⟩; have n2_ : Aside0 (Kd.S k42 42 w79 w.heap.size (fun k_ => some k_ ≠ (.slice A184_3 ((rd_T42 x174001_2 t180).f3).length c184_3 : Value).ownBlock ∧ some k_ ≠ (.slice (some ad184) x174001_2.length co31 : Value).ownBlock) (.slice (some ad191) t186.length co77) t186) := ⟨by rw [← hq_]; exact (by (with_reducible repeat (first | apply Kd.S_alloc | apply Kd.S_drewN | apply Kd.S_drew)); exact Kd.S_mono HO188.out (fun _ hk => ⟨hk.2, hk.1⟩))⟩; have n3_ : Aside0 (Kd.S k42 42 w79 w.heap.size (fun k_ => some k_ ≠ (.slice (some ad191) t186.length co77 : Value).ownBlock) (.slice (some ad184) x174001_2.length co31) x174001_2) := ⟨by rw [← hq_]; exact (by (with_reducible repeat (first | apply Kd.S_alloc | apply Kd.S_drewN | apply Kd.S_drew)); exact HO_174001.out)⟩; have n4_ : Aside0 (w79.heap[gb173]? = some (.cells #[.int .i64 x174000_2, .slice (some ad184) x174001_2.length co31] 24 (0, 0))) := ⟨by rw [← hq_]; exact (by (with_reducible repeat (first | refine blk_drewN ?_ _ | refine blk_drew ?_ | refine blk_alloc ?_ _)); exact BK173.out)⟩; have n5_ : Aside0 (w79.heap[gb190]? = some (.cells #[.int .i64 t185, .slice (some ad191) t186.length co77] 24 (0, 0))) := ⟨by rw [← hq_]; exact (by (with_reducible repeat (first | refine blk_drewN ?_ _ | refine blk_drew ?_ | refine blk_alloc ?_ _)); exact BK190.out)⟩; have n6_ : Aside0 (Below w.heap.size w w79) := ⟨by rw [← hq_]; exact (by repeat (first | (with_reducible first | exact HB.out | apply below_alloc | apply pw_below_drewN | apply below_drew1 | refine below_set ?_ GE173.out | refine below_set ?_ GE190.out) | exact HB.out))⟩; have n7_ : Aside0 (Kd.C (Kd.int .i64) w79 A191_3 ((rd_T42 t186 t180).f3).length ((rd_T42 t186 t180).f3)) := ⟨by rw [← hq_]; exact (by repeat (first | (with_reducible exact HR191_3.out) | (with_reducible refine Kd.C_alloc ?_ _) | (with_reducible refine Kd.C_drewN ?_ _) | (with_reducible refine Kd.C_drew ?_) | exact HR191_3.out))⟩; clear HL184_3 HL191_3 HO188 HO_174001 BK173 BK190 HB HR191_3 hq_; have HL184_3 := n0_; have HL191_3 := n1_; have HO188 := n2_; have HO_174001 := n3_; have BK173 := n4_; have BK190 := n5_; have HB := n6_; have HR191_3 := n7_; clear n0_ n1_ n2_ n3_ n4_ n5_ n6_ n7_))
                                      have n0_ := Aside0.mk (Kd.S_drew HO_174001.out)
                                      have n1_ := Aside0.mk (Kd.R_drew HL184_3.out)
                                      have n2_ := Aside0.mk (Kd.S_drew HO188.out)
                                      have n3_ := Aside0.mk (Kd.R_drew HL191_3.out)
                                      have n4_ := Aside0.mk (blk_drew BK173.out)
                                      have n5_ := Aside0.mk (blk_drew BK190.out)
                                      have n6_ := Aside0.mk (Kd.C_drew HR191_3.out)
                                      have n7_ := Aside0.mk (below_drew1 HB.out)
                                      clear HO_174001
                                      clear HL184_3
                                      clear HO188
                                      clear HL191_3
                                      clear BK173
                                      clear BK190
                                      clear HR191_3
                                      clear HB
                                      have HO_174001 := n0_
                                      have HL184_3 := n1_
                                      have HO188 := n2_
                                      have HL191_3 := n3_
                                      have BK173 := n4_
                                      have BK190 := n5_
                                      have HR191_3 := n6_
                                      have HB := n7_
                                      clear n0_ n1_ n2_ n3_ n4_ n5_ n6_ n7_
                                      have p204 : 0 ≤ (t180 : Int) := of_decide_eq_true (by first | (with_reducible assumption) | assumption)
                                      have q204 : t180 < (t186.length : Int) := of_decide_eq_true (by first | (with_reducible assumption) | assumption)
                                      obtain ⟨ad204, A204_3, c204_3, e204, hx204_0, hx204_1, hx204_2, hx204_3, hl204_3, hi204_3⟩ := at_T42 (Kd.S_reads' HO188.out).2.2 t180 p204 q204
                                      obtain rfl : ad191 = ad204 := (by injection e204)
                                      obtain ⟨ce204, hce204, hMe204, hcc204⟩ := Kd.S_get HO188.out z42 t180 p204 (by first | exact q204 | exact of_decide_eq_true (by first | (with_reducible assumption) | assumption) | (have e_ := (Kd.S_reads' HO188.out).1; omega))
                                      obtain ⟨ve204_3, rfl, ge204_3⟩ := k42_openM hMe204
                                      have hv204_3 := hcc204 3 _ rfl
                                      rw [add_field _ _ 3 (by omega)] at hv204_3
                                      replace hv204_3 := Option.some.inj (hv204_3.symm.trans hx204_3)
                                      rw [hv204_3] at ge204_3
                                      have HL204_3 := Aside0.mk (show Kd.R (Kd.int .i64) 3 _ _ _ _ ((rd_T42 t186 t180).f3) from ge204_3)
                                      clear hv204_3 ge204_3
                                      clear hcc204 hce204
                                      have HR204_3 := Aside0.mk hi204_3
                                      have HC204_3 := Aside0.mk hl204_3
                                      clear hi204_3 hl204_3
                                      replace p204 := eq_true p204
                                      replace q204 := eq_true q204
                                      refine start_ (n := 16) (S := fun w' => w'.cell? ⟨gb190, 0, none⟩ = some (.int .i64 t185) ∧ w'.cell? ⟨gb190, 1, none⟩ = some (.slice (some ad191) t186.length co77) ∧ w'.cell? (ad191.add ((t180).toNat * 4)) = some (.int .u64 ((rd_T42 t186 t180).f0)) ∧ w'.cell? ⟨(ad191.add ((t180).toNat * 4)).block, (ad191.add ((t180).toNat * 4)).off + 1, none⟩ = some (.int .u64 ((rd_T42 t186 t180).f1)) ∧ w'.cell? ⟨(ad191.add ((t180).toNat * 4)).block, (ad191.add ((t180).toNat * 4)).off + 2, none⟩ = some (.int .i64 ((rd_T42 t186 t180).f2)) ∧ w'.cell? ⟨(ad191.add ((t180).toNat * 4)).block, (ad191.add ((t180).toNat * 4)).off + 3, none⟩ = some (.slice A204_3 ((rd_T42 t186 t180).f3).length c204_3)) (ds := [14]) #[false, false, false, false, false, false, false, false, false, false, false, false, false, false, false, false] (by kernel_rfl) rfl rfl ⟨(blk_cell BK190.out 0).trans rfl, (blk_cell BK190.out 1).trans rfl, hx204_0, hx204_1, hx204_2, hx204_3⟩ (fun hHeld => ?_); refine with_tabW fascinelaw14_MetaEvens.tab26 fascinelaw14_MetaEvens.bits26 (fun HT_ HW_ => ?_)
                                      generalize w79.drew = w82 at HO_174001 HL184_3 HO188 HL191_3 BK173 BK190 HR191_3 HB HL204_3 HR204_3 hx204_0 hx204_1 hx204_2 hx204_3 hHeld ⊢
                                      refine pure_ (i := 1) (N := some 125) (v := ?_) (a' := ?_) #[false, true, false, false, false, false, false, false, false, false, false, false, false, false, false, false] rfl rfl (any_of HT_.out (by kernel_rfl)) (fun _ _ _ h => h) (Or.inl ⟨by rfl, ?_⟩) ?_ ?_
                                      rotate_left
                                      · intro w'
                                        go_simp
                                        with_reducible rfl
                                      rotate_left
                                      · simp only [Act.put, List.setIfInBounds_toArray, List.set_cons_zero, List.set_cons_succ, i64_w, i32_w]
                                        rfl
                                      refine pure_ (i := 2) (N := some 126) (v := ?_) (a' := ?_) #[false, true, true, false, false, false, false, false, false, false, false, false, false, false, false, false] rfl rfl (any_of HT_.out (by kernel_rfl)) (fun _ _ _ h => h) (Or.inl ⟨by rfl, ?_⟩) ?_ ?_
                                      rotate_left
                                      · intro w'
                                        go_simp
                                        with_reducible rfl
                                      rotate_left
                                      · simp only [Act.put, List.setIfInBounds_toArray, List.set_cons_zero, List.set_cons_succ, i64_w, i32_w]
                                        rfl
                                      refine pure_ (i := 3) (N := some 127) (v := ?_) (a' := ?_) #[false, true, true, true, false, false, false, false, false, false, false, false, false, false, false, false] rfl rfl (any_of HT_.out (by kernel_rfl)) (fun _ _ _ h => h) (Or.inl ⟨by rfl, ?_⟩) ?_ ?_
                                      rotate_left
                                      · intro w'
                                        go_simp
                                        with_reducible rfl
                                      rotate_left
                                      · simp only [Act.put, List.setIfInBounds_toArray, List.set_cons_zero, List.set_cons_succ, i64_w, i32_w]
                                        rfl
                                      refine pure_ (i := 5) (N := some 129) (v := ?_) (a' := ?_) #[false, true, true, true, false, true, false, false, false, false, false, false, false, false, false, false] rfl rfl (any_of HT_.out (by kernel_rfl)) (fun _ _ _ h => h) (Or.inl ⟨by rfl, ?_⟩) ?_ ?_
                                      rotate_left
                                      · intro w'
                                        go_simp
                                        with_reducible rfl
                                      rotate_left
                                      · simp only [Act.put, List.setIfInBounds_toArray, List.set_cons_zero, List.set_cons_succ, i64_w, i32_w]
                                        rfl
                                      refine take_ (i := 0) (N := some 124) (v := ?_) (a' := ?_) #[true, true, true, true, false, true, false, false, false, false, false, false, false, false, false, false] rfl rfl (take_ofW HT_.out HW_.out (by kernel_rfl)) (fun _ _ _ h => h) (Or.inl ⟨by rfl, ?_⟩) hHeld ?_ ?_
                                      rotate_left
                                      · rintro w' ⟨s0, s1, s2, s3, s4, s5⟩
                                        go_simp
                                        with_reducible rfl
                                      rotate_left
                                      · simp only [Act.put, List.setIfInBounds_toArray, List.set_cons_zero, List.set_cons_succ, i64_w, i32_w]
                                        rfl
                                      refine take_ (i := 4) (N := some 128) (v := ?_) (a' := ?_) #[true, true, true, true, true, true, false, false, false, false, false, false, false, false, false, false] rfl rfl (take_ofW HT_.out HW_.out (by kernel_rfl)) (fun _ _ _ h => h) (Or.inl ⟨by rfl, ?_⟩) hHeld ?_ ?_
                                      rotate_left
                                      · rintro w' ⟨s0, s1, s2, s3, s4, s5⟩
                                        go_simp
                                        with_reducible rfl
                                      rotate_left
                                      · simp only [Act.put, List.setIfInBounds_toArray, List.set_cons_zero, List.set_cons_succ, i64_w, i32_w]
                                        rfl
                                      refine pure_ (i := 6) (N := some 130) (v := ?_) (a' := ?_) #[true, true, true, true, true, true, true, false, false, false, false, false, false, false, false, false] rfl rfl (any_of HT_.out (by kernel_rfl)) (fun _ _ _ h => h) (Or.inl ⟨by rfl, ?_⟩) ?_ ?_
                                      rotate_left
                                      · intro w'
                                        go_simp
                                        with_reducible rfl
                                      rotate_left
                                      · simp only [Act.put, List.setIfInBounds_toArray, List.set_cons_zero, List.set_cons_succ, i64_w, i32_w]
                                        rfl
                                      refine pure_ (i := 7) (N := some 131) (v := ?_) (a' := ?_) #[true, true, true, true, true, true, true, true, false, false, false, false, false, false, false, false] rfl rfl (any_of HT_.out (by kernel_rfl)) (fun _ _ _ h => h) (Or.inl ⟨by rfl, ?_⟩) ?_ ?_
                                      rotate_left
                                      · intro w'
                                        go_simp
                                        with_reducible rfl
                                      rotate_left
                                      · simp only [Act.put, List.setIfInBounds_toArray, List.set_cons_zero, List.set_cons_succ, i64_w, i32_w]
                                        rfl
                                      refine take_ (i := 8) (N := some 132) (v := ?_) (a' := ?_) #[true, true, true, true, true, true, true, true, true, false, false, false, false, false, false, false] rfl rfl (take_ofW HT_.out HW_.out (by kernel_rfl)) (fun _ _ _ h => h) (Or.inl ⟨by rfl, ?_⟩) hHeld ?_ ?_
                                      rotate_left
                                      · rintro w' ⟨s0, s1, s2, s3, s4, s5⟩
                                        go_simp
                                        with_reducible rfl
                                      rotate_left
                                      · simp only [Act.put, List.setIfInBounds_toArray, List.set_cons_zero, List.set_cons_succ, i64_w, i32_w]
                                        rfl
                                      refine pure_ (i := 9) (N := some 133) (v := ?_) (a' := ?_) #[true, true, true, true, true, true, true, true, true, true, false, false, false, false, false, false] rfl rfl (any_of HT_.out (by kernel_rfl)) (fun _ _ _ h => h) (Or.inl ⟨by rfl, ?_⟩) ?_ ?_
                                      rotate_left
                                      · intro w'
                                        go_simp
                                        with_reducible rfl
                                      rotate_left
                                      · simp only [Act.put, List.setIfInBounds_toArray, List.set_cons_zero, List.set_cons_succ, i64_w, i32_w]
                                        rfl
                                      refine one_ (i := 10) (N := some 134) #[true, true, true, true, true, true, true, true, true, true, true, false, false, false, false, false] rfl rfl (one_of HT_.out (by kernel_rfl)) (by decide) (fun K hK => ?_)
                                      refine goes_ Try.func22 (by kernel_rfl) rfl #[.agg #[.int .i64 t185, .slice (some ad191) t186.length co77], .agg #[.int .u8 3, .int .i64 t180, .int .i64 t181, .int .u64 ((rd_T42 t186 t180).f0)]] (by rfl) rfl rfl (by (try simp only [List.map_toArray, List.map_cons, List.map_nil]); first | done | rfl | (simp only [List.length_drop, List.length_take]; rfl)) ?_
                                      with_reducible refine (meta_Apply.calls kj28 t185 _ _ t186 3 t180 t181 ((rd_T42 t186 t180).f0) t205 t206 true _ ?side1 ?side2 A70.out).mono ?_
                                      (case side1 => repeat (first | exact (Kd.S_reads' HO188.out).2.2 | (with_reducible refine Kd.C_alloc ?_ _) | (with_reducible refine Kd.C_drewN ?_ _) | (with_reducible refine Kd.C_drew ?_)))
                                      (case side2 => exact (Kd.S_reads' HO188.out).2.1)
                                      rintro e w83 ⟨v207, rfl, ho0, hb⟩
                                      have HS2_ := (hb.cell (World.block_lt_of_cell? _ _ (hHeld.2.2.1))).trans (hHeld.2.2.1)
                                      have HS3_ := (hb.cell (World.block_lt_of_cell? _ _ (hHeld.2.2.2.1))).trans (hHeld.2.2.2.1)
                                      have HS4_ := (hb.cell (World.block_lt_of_cell? _ _ (hHeld.2.2.2.2.1))).trans (hHeld.2.2.2.2.1)
                                      have HS5_ := (hb.cell (World.block_lt_of_cell? _ _ (hHeld.2.2.2.2.2))).trans (hHeld.2.2.2.2.2)
                                      refine ⟨_, rfl, ?_⟩
                                      have n0_ := Aside0.mk (Kd.S_elder' (by (with_reducible repeat (first | apply Kd.S_alloc | apply Kd.S_drewN | apply Kd.S_drew)); exact HO_174001.out) (Kd.S_base ho0) hb)
                                      have n1_ := Aside0.mk (Kd.R_below (by (with_reducible repeat (first | apply Kd.R_alloc | apply Kd.R_drewN | apply Kd.R_drew)); exact HL184_3.out) hb)
                                      have n2_ := Aside0.mk (Kd.S_elder' (by (with_reducible repeat (first | apply Kd.S_alloc | apply Kd.S_drewN | apply Kd.S_drew)); exact HO188.out) (Kd.S_base ho0) hb)
                                      have n3_ := Aside0.mk (Kd.R_below (by (with_reducible repeat (first | apply Kd.R_alloc | apply Kd.R_drewN | apply Kd.R_drew)); exact HL191_3.out) hb)
                                      have n4_ := Aside0.mk (Kd.R_below (by (with_reducible repeat (first | apply Kd.R_alloc | apply Kd.R_drewN | apply Kd.R_drew)); exact HL204_3.out) hb)
                                      have n5_ := Aside0.mk (Kd.S_lower (Kd.S_new' (Kd.S_new' (Kd.S_new' (Kd.S_new' (Kd.S_new' ho0 (Kd.S_lt (by (with_reducible repeat (first | apply Kd.S_alloc | apply Kd.S_drewN | apply Kd.S_drew)); exact HO_174001.out))) (Kd.R_lt (by (with_reducible repeat (first | apply Kd.R_alloc | apply Kd.R_drewN | apply Kd.R_drew)); exact HL184_3.out))) (Kd.S_lt (by (with_reducible repeat (first | apply Kd.S_alloc | apply Kd.S_drewN | apply Kd.S_drew)); exact HO188.out))) (Kd.R_lt (by (with_reducible repeat (first | apply Kd.R_alloc | apply Kd.R_drewN | apply Kd.R_drew)); exact HL191_3.out))) (Kd.R_lt (by (with_reducible repeat (first | apply Kd.R_alloc | apply Kd.R_drewN | apply Kd.R_drew)); exact HL204_3.out))) (below_size (by repeat (first | (with_reducible first | exact HB.out | apply below_alloc | apply pw_below_drewN | apply below_drew1 | refine below_set ?_ GE173.out | refine below_set ?_ GE190.out) | exact HB.out))))
                                      have n6_ := Aside0.mk (blk_below (g := gb173) (o := .cells #[.int .i64 x174000_2, .slice (some ad184) x174001_2.length co31] 24 (0, 0)) (by (with_reducible repeat (first | refine blk_drewN ?_ _ | refine blk_drew ?_ | refine blk_alloc ?_ _)); exact BK173.out) hb)
                                      have n7_ := Aside0.mk (blk_below (g := gb190) (o := .cells #[.int .i64 t185, .slice (some ad191) t186.length co77] 24 (0, 0)) (by (with_reducible repeat (first | refine blk_drewN ?_ _ | refine blk_drew ?_ | refine blk_alloc ?_ _)); exact BK190.out) hb)
                                      have n8_ := Aside0.mk (Kd.C_below (by repeat (first | (with_reducible exact HR191_3.out) | (with_reducible refine Kd.C_alloc ?_ _) | (with_reducible refine Kd.C_drewN ?_ _) | (with_reducible refine Kd.C_drew ?_) | exact HR191_3.out)) hb)
                                      have n9_ := Aside0.mk (Kd.C_below (by repeat (first | (with_reducible exact HR204_3.out) | (with_reducible refine Kd.C_alloc ?_ _) | (with_reducible refine Kd.C_drewN ?_ _) | (with_reducible refine Kd.C_drew ?_) | exact HR204_3.out)) hb)
                                      have n10_ := Aside0.mk (below_step (by repeat (first | (with_reducible first | exact HB.out | apply below_alloc | apply pw_below_drewN | apply below_drew1 | refine below_set ?_ GE173.out | refine below_set ?_ GE190.out) | exact HB.out)) hb)
                                      clear HO_174001
                                      clear HL184_3
                                      clear HO188
                                      clear HL191_3
                                      clear HL204_3
                                      clear BK173
                                      clear BK190
                                      clear HR191_3
                                      clear HR204_3
                                      clear HB
                                      have HO_174001 := n0_
                                      have HL184_3 := n1_
                                      have HO188 := n2_
                                      have HL191_3 := n3_
                                      have HL204_3 := n4_
                                      have HO208 := n5_
                                      have BK173 := n6_
                                      have BK190 := n7_
                                      have HR191_3 := n8_
                                      have HR204_3 := n9_
                                      have HB := n10_
                                      clear n0_ n1_ n2_ n3_ n4_ n5_ n6_ n7_ n8_ n9_ n10_
                                      (try clear hb)
                                      (try clear hb2)
                                      (try clear hk)
                                      (try clear hi)
                                      (try clear ho0)
                                      obtain ⟨Ao85, co85, eo85⟩ := Kd.S_slice HO208.out
                                      (first | subst eo85 | (injection eo85 with f1_ f2_ f3_; have f4_ := f1_.symm; have f5_ := f3_.symm; clear f1_ f2_ f3_; subst f4_; subst f5_))
                                      refine hK.out _ _ ⟨(blk_cell BK190.out 0).trans rfl, (blk_cell BK190.out 1).trans rfl, HS2_, HS3_, HS4_, HS5_⟩ (fun hHeld => ?_)
                                      clear hK K
                                      refine norm_ (a' := ?_) ?_ ?_
                                      rotate_left
                                      · show Act.put _ (some 134) _ = _
                                        simp only [Act.put, List.setIfInBounds_toArray, List.set_cons_zero, List.set_cons_succ, i64_w, i32_w]
                                        rfl
                                      refine pure_ (i := 11) (N := some 123) (v := ?_) (a' := ?_) #[true, true, true, true, true, true, true, true, true, true, true, true, false, false, false, false] rfl rfl (any_of HT_.out (by kernel_rfl)) (fun _ _ _ h => h) (Or.inl ⟨by rfl, ?_⟩) ?_ ?_
                                      rotate_left
                                      · intro w'
                                        go_simp
                                        with_reducible rfl
                                      rotate_left
                                      · simp only [Act.put, List.setIfInBounds_toArray, List.set_cons_zero, List.set_cons_succ, i64_w, i32_w]
                                        rfl
                                      refine pure_ (i := 12) (N := some 135) (v := ?_) (a' := ?_) #[true, true, true, true, true, true, true, true, true, true, true, true, true, false, false, false] rfl rfl (any_of HT_.out (by kernel_rfl)) (fun _ _ _ h => h) (Or.inl ⟨by rfl, ?_⟩) ?_ ?_
                                      rotate_left
                                      · intro w'
                                        go_simp
                                        with_reducible rfl
                                      rotate_left
                                      · simp only [Act.put, List.setIfInBounds_toArray, List.set_cons_zero, List.set_cons_succ, i64_w, i32_w]
                                        rfl
                                      refine pure_ (i := 13) (N := some 136) (v := ?_) (a' := ?_) #[true, true, true, true, true, true, true, true, true, true, true, true, true, true, false, false] rfl rfl (any_of HT_.out (by kernel_rfl)) (fun _ _ _ h => h) (Or.inl ⟨by rfl, ?_⟩) ?_ ?_
                                      rotate_left
                                      · intro w'
                                        go_simp
                                        with_reducible rfl
                                      rotate_left
                                      · simp only [Act.put, List.setIfInBounds_toArray, List.set_cons_zero, List.set_cons_succ, i64_w, i32_w]
                                        rfl
                                      refine last_ (i := 14) (N := none) #[true, true, true, true, true, true, true, true, true, true, true, true, true, true, true, false] rfl rfl (one_of HT_.out (by kernel_rfl)) (by decide) (fun K hK => ?_)
                                      have hs84 : w83.cell? ⟨gb190, 0, none⟩ = some (.int .i64 t185) := (blk_cell BK190.out 0).trans rfl
                                      have hfs84 := blk_frozen BK190.out 0
                                      have hns84_0 := NB173_190.out
                                      have hms84_0 := NB190_173.out
                                      have hs86 : w83.cell? ⟨gb190, 1, none⟩ = some (.slice (some ad191) t186.length co77) := (blk_cell BK190.out 1).trans rfl
                                      have hfs86 := blk_frozen BK190.out 1
                                      have hns86_0 := NB173_190.out
                                      have hms86_0 := NB190_173.out
                                      refine skip_ (w1 := ?_) (by rfl) rfl ?_ ?_
                                      rotate_left
                                      · go_simp
                                        rfl
                                      refine hK.out _ _ ?_
                                      clear hK K
                                      refine pure_ (i := 15) (N := some 19) (v := ?_) (a' := ?_) #[true, true, true, true, true, true, true, true, true, true, true, true, true, true, true, true] rfl rfl (any_of HT_.out (by kernel_rfl)) (fun _ _ _ h => h) (Or.inl ⟨by rfl, ?_⟩) ?_ ?_
                                      rotate_left
                                      · intro w'
                                        go_simp
                                        with_reducible rfl
                                      rotate_left
                                      · simp only [Act.put, List.setIfInBounds_toArray, List.set_cons_zero, List.set_cons_succ, i64_w, i32_w]
                                        rfl
                                      refine done_ (done_of HT_.out (by kernel_rfl)) ?_
                                      have hcz87_0 : w83.cell? ⟨gb190, 0, none⟩ = some (.int .i64 t185) := (blk_cell BK190.out 0).trans rfl
                                      have hcz87_1 : w83.cell? ⟨gb190, 1, none⟩ = some (.slice (some ad191) t186.length co77) := (blk_cell BK190.out 1).trans rfl
                                      have hfz87_0 := blk_frozen BK190.out 0
                                      have hfz87_1 := blk_frozen BK190.out 1
                                      have hcz88_0 : w83.cell? ⟨gb173, 0, none⟩ = some (.int .i64 x174000_2) := (blk_cell BK173.out 0).trans rfl
                                      have hcz88_1 : w83.cell? ⟨gb173, 1, none⟩ = some (.slice (some ad184) x174001_2.length co31) := (blk_cell BK173.out 1).trans rfl
                                      have hfz88_0 := blk_frozen BK173.out 0
                                      have hfz88_1 := blk_frozen BK173.out 1
                                      try go_wp2
                                      go_roundg kj28
                                      case measure => have := HJ9.out; have := HK2.out; have := HJ28.out; omega
                                      case rel => exact ⟨(wrap64 (x13_2 + 1)), (t205), (t206), (.slice Ao85 t206.length co85), (by first | rfl | (simp; done) | (simp [*]; done)), H', ⟨by have := HJ9.out; have := HK2.out; have := HJ28.out; omega⟩, ⟨by (with_reducible repeat (first | apply Kd.S_alloc | apply Kd.S_drewN | apply Kd.S_drew)); exact Kd.S_mono (Kd.S_far (p := ⟨gb173, 1, none⟩) (Kd.S_far (p := ⟨gb173, 0, none⟩) (Kd.S_far (p := ⟨gb190, 1, none⟩) (Kd.S_far (p := ⟨gb190, 0, none⟩) (Kd.S_types (Kd.S_types HO208.out BK190.out (by decide)) BK173.out (by decide)) (fun _ hk => hk.1.2) (.int .i64 t205)) (fun _ hk => hk.1.2) (.slice Ao85 t206.length co85)) (fun _ hk => hk.2) (.int .i64 t205)) (fun _ hk => hk.2) (.slice Ao85 t206.length co85)) (fun _ hk => trivial)⟩, ⟨by (with_reducible repeat (first | refine blk_drewN ?_ _ | refine blk_drew ?_ | refine blk_alloc ?_ _)); refine blk_put (cs := #[.int .i64 t205, .slice (some ad184) x174001_2.length co31]) ?_ 1 _ rfl; (with_reducible repeat (first | refine blk_drewN ?_ _ | refine blk_drew ?_ | refine blk_alloc ?_ _)); refine blk_put (cs := #[.int .i64 x174000_2, .slice (some ad184) x174001_2.length co31]) ?_ 0 _ rfl; (with_reducible repeat (first | refine blk_drewN ?_ _ | refine blk_drew ?_ | refine blk_alloc ?_ _)); refine blk_far ?_ NB173_190.out _; (with_reducible repeat (first | refine blk_drewN ?_ _ | refine blk_drew ?_ | refine blk_alloc ?_ _)); refine blk_far ?_ NB173_190.out _; (with_reducible repeat (first | refine blk_drewN ?_ _ | refine blk_drew ?_ | refine blk_alloc ?_ _)); exact BK173.out⟩, ⟨by repeat (first | (with_reducible first | exact HB.out | apply below_alloc | apply pw_below_drewN | apply below_drew1 | refine below_set ?_ GE173.out | refine below_set ?_ GE190.out) | exact HB.out)⟩⟩
                                    · replace c71 := Bool.eq_false_iff.mpr c71
                                      subst c71
                                      have H1 : (some false) = some r := by rw [if_neg (show ¬ (false = true) by decide)] at H; exact H
                                      clear H
                                      have H := H1
                                      clear H1
                                      exact absurd (HR_.out.symm.trans (Option.some.inj H).symm) (by decide)
                                · rw [if_neg c40] at H
                                  exact absurd H (by simp)
                              · replace c39 := Bool.eq_false_iff.mpr c39
                                subst c39
                                have H1 : (some false) = some r := by rw [if_neg (show ¬ (false = true) by decide)] at H; exact H
                                clear H
                                have H := H1
                                clear H1
                                exact absurd (HR_.out.symm.trans (Option.some.inj H).symm) (by decide)
                            · rw [if_neg c37] at H
                              exact absurd H (by simp)
                          · rw [if_neg c36] at H
                            exact absurd H (by simp)
                  · replace c28 := Bool.eq_false_iff.mpr c28
                    subst c28
                    have H1 : (some true) = some r := by rw [if_neg (show ¬ (false = true) by decide)] at H; exact H
                    clear H
                    have H := H1
                    clear H1
                    obtain rfl := Option.some.inj H
                    have hcz89_0 : wr.cell? ⟨gb173, 0, none⟩ = some (.int .i64 x174000_2) := (blk_cell BK173.out 0).trans rfl
                    have hcz89_1 : wr.cell? ⟨gb173, 1, none⟩ = some (u174001) := (blk_cell BK173.out 1).trans rfl
                    have hfz89_0 := blk_frozen BK173.out 0
                    have hfz89_1 := blk_frozen BK173.out 1
                    obtain ⟨Ao90, co90, eo90⟩ := Kd.S_slice HO_174001.out
                    subst eo90
                    go_wp2_with (first | ((with_reducible refine gate_callee (f := 36) rfl ?_); refine goesL_ (some 67) rfl rfl Try.func36 (by kernel_rfl) rfl #[.agg #[.int .i64 x174000_2, .slice Ao90 x174001_2.length co90]] rfl (by (try simp only [List.map_toArray, List.map_cons, List.map_nil]); first | done | rfl | (simp only [List.length_drop, List.length_take]; rfl)) ?_; (with_reducible refine (meta_Plan.calls k2 x174000_2 _ _ x174001_2 t180 t181 t182 false _ ?side1 ?side2 A27.out).mono ?_); (case side1 => repeat (first | exact (Kd.S_reads' HO_174001.out).2.2 | (with_reducible refine Kd.C_alloc ?_ _) | (with_reducible refine Kd.C_drewN ?_ _) | (with_reducible refine Kd.C_drew ?_))); (case side2 => exact (Kd.S_reads' HO_174001.out).2.1); rintro e w91 ⟨rfl, hb⟩; refine ⟨_, rfl, ?_⟩; have n0_ := Aside0.mk (Kd.S_below (by (with_reducible repeat (first | apply Kd.S_alloc | apply Kd.S_drewN | apply Kd.S_drew)); exact HO_174001.out) hb); have n1_ := Aside0.mk (blk_below (g := gb173) (o := .cells #[.int .i64 x174000_2, .slice Ao90 x174001_2.length co90] 24 (0, 0)) (by (with_reducible repeat (first | refine blk_drewN ?_ _ | refine blk_drew ?_ | refine blk_alloc ?_ _)); exact BK173.out) hb); have n2_ := Aside0.mk (below_step (by repeat (first | (with_reducible first | exact HB.out | apply below_alloc | apply pw_below_drewN | apply below_drew1 | refine below_set ?_ GE173.out) | exact HB.out)) hb); clear HO_174001; clear BK173; clear HB; have HO_174001 := n0_; have BK173 := n1_; have HB := n2_; clear n0_ n1_ n2_; (try clear hb); (try clear hb2); (try clear hk); (try clear hi)))
                    go_ret
                    exact ⟨by first | rfl | (simp [errW_none, errW_some] <;> rfl) | (simp [*, errW_none, errW_some] <;> rfl), by repeat (first | (with_reducible first | exact HB.out | apply below_alloc | apply pw_below_drewN | apply below_drew1 | refine below_set ?_ GE173.out) | exact HB.out)⟩
                · rw [if_neg c26] at H
                  have c26b0 : decide (x13_2 < 60) = false := decide_eq_false c26
                  clear c26
                  exact absurd (HR_.out.symm.trans (Option.some.inj H).symm) (by decide)
      · rw [if_neg c9] at H
        have c9b0 : (t172 == 0) = false := beq_eq_false_iff_ne.mpr c9
        have c9b1 : (t172 != 0) = true := bne_iff_ne.mpr c9
        exact absurd (HR_.out.symm.trans (Option.some.inj H).symm) (by decide)
  · replace c6 := Bool.eq_false_iff.mpr c6
    subst c6
    have H1 : (some false) = some r := by rw [if_neg (show ¬ (false = true) by decide)] at H; exact H
    clear H
    have H := H1
    clear H1
    exact absurd (HR_.out.symm.trans (Option.some.inj H).symm) (by decide)

end Go.Proofs.Ytkoaeiiaagipeaa.PMetaEvens
