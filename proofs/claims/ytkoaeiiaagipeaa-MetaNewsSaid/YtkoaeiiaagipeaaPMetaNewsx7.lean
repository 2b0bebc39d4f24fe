-- WRITTEN BY A PROGRAM OF THIS SESSION (wip/patch_print.py: the kit's printer with rules of this session's own); Lean checks it.
import Derived.Test.YtkoaeiiaagipeaaPMetaNewsx0
import Derived.Test.YtkoaeiiaagipeaaPMetaNewsx1
import Derived.Test.YtkoaeiiaagipeaaPMetaNewsx2
import Derived.Test.YtkoaeiiaagipeaaPMetaNewsx3
import Derived.Test.YtkoaeiiaagipeaaPMetaNewsx4
import Derived.Test.YtkoaeiiaagipeaaPMetaNewsx5
import Derived.Test.YtkoaeiiaagipeaaPMetaNewsx6
namespace Go.Proofs.Ytkoaeiiaagipeaa.PMetaNews
open Go.RowKit Go.Proofs.YtkoaeiiaagipeaaW.PrintWords Go.Proofs.YtkoaeiiaagipeaaW.PrintLast Go.Proofs.YtkoaeiiaagipeaaW.PrintMore
open Go.Proofs.Ytkoaeiiaagipeaa.G
attribute [local go_sem] max2_int min2_int max_two min_two max_three min_three max_four min_four   -- for this text's walks alone
set_option linter.unusedVariables false
set_option linter.unusedSimpArgs false

/-! ### fascinelaw14_MetaNews: function 3 -/
mutual
def fascinelaw14_MetaNews.j0 : Nat → Int → Int → Int → Int → Bool → Int → List (S42) → Int → List (S42) → Option (Bool)
  | 0, _, _, _, _, _, _, _, _, _ => none
  | k + 1, x0, x1, x2, x10, x44, x172000, x172001, x179000, x179001 => if x44 = true then (if x10 = 1 then (if (x179001.length : Int) > 0 then (some false) else (fascinelaw14_MetaNews.j1 k x172000 x172001)) else (some false)) else (if x10 = 0 then ((fascineref14_New.f k x0 x1 x2).bind fun bt179 => ((fascineref14_Same.f k x179000 x179001 bt179.1 bt179.2).bind fun t183 => (if t183 = true then ((meta_Form.f k x179000 x179001).bind fun t184 => (if t184 = true then (fascinelaw14_MetaNews.j1 k x172000 x172001) else (some false))) else (some false)))) else (some false))
def fascinelaw14_MetaNews.j1 : Nat → Int → List (S42) → Option (Bool)
  | 0, _, _ => none
  | k + 1, x172000, x172001 => (meta_Form.f k x172000 x172001).bind fun t185 => ((fascineref14_Form.f k x172000 x172001).bind fun t186 => (if (t185 == t186) = true then ((meta_Copy.f k x172000 x172001).bind fun bt187 => ((fascineref14_Same.f k bt187.1 bt187.2 x172000 x172001).bind fun t191 => (some t191))) else (some false)))
end
def fascinelaw14_MetaNews.f (k : Nat) (a0 : Int) (a1 : Int) (a2 : Int) (a3_0 : Int) (l3_1 : List (S42)) : Option (Bool) := (fascinelaw14_awake.f k).bind fun t172 => (if t172 = true then ((meta_New.f k a0 a1 a2).bind fun bt173 => (if a0 < 1 then (fascinelaw14_MetaNews.j0 k a0 a1 a2 bt173.2.2 true a3_0 l3_1 bt173.1 bt173.2.1) else (if a0 > 5 then (fascinelaw14_MetaNews.j0 k a0 a1 a2 bt173.2.2 true a3_0 l3_1 bt173.1 bt173.2.1) else (if a1 < 1 then (fascinelaw14_MetaNews.j0 k a0 a1 a2 bt173.2.2 true a3_0 l3_1 bt173.1 bt173.2.1) else (if a1 > 8 then (fascinelaw14_MetaNews.j0 k a0 a1 a2 bt173.2.2 true a3_0 l3_1 bt173.1 bt173.2.1) else (if a2 < 1 then (fascinelaw14_MetaNews.j0 k a0 a1 a2 bt173.2.2 true a3_0 l3_1 bt173.1 bt173.2.1) else (fascinelaw14_MetaNews.j0 k a0 a1 a2 bt173.2.2 (decide (a2 > a0)) a3_0 l3_1 bt173.1 bt173.2.1))))))) else (some false))
theorem fascinelaw14_MetaNews.mono_l : ∀ k, (∀ y0 y1 y2 y3 y4 y5 y6 y7 y8, LeO (fascinelaw14_MetaNews.j0 k y0 y1 y2 y3 y4 y5 y6 y7 y8) (fascinelaw14_MetaNews.j0 (k + 1) y0 y1 y2 y3 y4 y5 y6 y7 y8)) ∧ (∀ y0 y1, LeO (fascinelaw14_MetaNews.j1 k y0 y1) (fascinelaw14_MetaNews.j1 (k + 1) y0 y1))
  | 0 => ⟨fun _ _ _ _ _ _ _ _ _ r h => by simp [fascinelaw14_MetaNews.j0] at h, fun _ _ r h => by simp [fascinelaw14_MetaNews.j1] at h⟩
  | k + 1 => by
    obtain ⟨ih0, ih1⟩ := fascinelaw14_MetaNews.mono_l k
    refine ⟨?_, ?_⟩
    · intro y0 y1 y2 y3 y4 y5 y6 y7 y8
      unfold fascinelaw14_MetaNews.j0
      repeat' first
      | (with_reducible exact ih0 _ _ _ _ _ _ _ _ _)
      | (with_reducible exact ih1 _ _)
      | (with_reducible exact fascinelaw14_awake.mono _)
      | (with_reducible exact fascineref14_Form.mono _ _ _)
      | (with_reducible exact fascineref14_New.mono _ _ _ _)
      | (with_reducible exact fascineref14_Same.mono _ _ _ _ _)
      | (with_reducible exact meta_Copy.mono _ _ _)
      | (with_reducible exact meta_Form.mono _ _ _)
      | (with_reducible exact meta_New.mono _ _ _ _)
      | (with_reducible exact LeO.refl _)
      | (with_reducible exact LeO.none _)
      | (with_reducible refine LeO.ite ?_ ?_)
      | (with_reducible refine LeO.bind ?_ (fun _ => ?_))
      | exact ih0 _ _ _ _ _ _ _ _ _
      | exact ih1 _ _
      | exact fascinelaw14_awake.mono _
      | exact fascineref14_Form.mono _ _ _
      | exact fascineref14_New.mono _ _ _ _
      | exact fascineref14_Same.mono _ _ _ _ _
      | exact meta_Copy.mono _ _ _
      | exact meta_Form.mono _ _ _
      | exact meta_New.mono _ _ _ _
      | exact LeO.none _
      | refine LeO.ite ?_ ?_
      | refine LeO.bind ?_ (fun _ => ?_)
    · intro y0 y1
      unfold fascinelaw14_MetaNews.j1
      repeat' first
      | (with_reducible exact ih0 _ _ _ _ _ _ _ _ _)
      | (with_reducible exact ih1 _ _)
      | (with_reducible exact fascinelaw14_awake.mono _)
      | (with_reducible exact fascineref14_Form.mono _ _ _)
      | (with_reducible exact fascineref14_New.mono _ _ _ _)
      | (with_reducible exact fascineref14_Same.mono _ _ _ _ _)
      | (with_reducible exact meta_Copy.mono _ _ _)
      | (with_reducible exact meta_Form.mono _ _ _)
      | (with_reducible exact meta_New.mono _ _ _ _)
      | (with_reducible exact LeO.refl _)
      | (with_reducible exact LeO.none _)
      | (with_reducible refine LeO.ite ?_ ?_)
      | (with_reducible refine LeO.bind ?_ (fun _ => ?_))
      | exact ih0 _ _ _ _ _ _ _ _ _
      | exact ih1 _ _
      | exact fascinelaw14_awake.mono _
      | exact fascineref14_Form.mono _ _ _
      | exact fascineref14_New.mono _ _ _ _
      | exact fascineref14_Same.mono _ _ _ _ _
      | exact meta_Copy.mono _ _ _
      | exact meta_Form.mono _ _ _
      | exact meta_New.mono _ _ _ _
      | exact LeO.none _
      | refine LeO.ite ?_ ?_
      | refine LeO.bind ?_ (fun _ => ?_)
theorem fascinelaw14_MetaNews.mono : ∀ a0 a1 a2 a3 a4 k, LeO (fascinelaw14_MetaNews.f k a0 a1 a2 a3 a4) (fascinelaw14_MetaNews.f (k + 1) a0 a1 a2 a3 a4) := by
  intro a0 a1 a2 a3 a4 k
  obtain ⟨ih0, ih1⟩ := fascinelaw14_MetaNews.mono_l k
  unfold fascinelaw14_MetaNews.f
  repeat' first
      | (with_reducible exact ih0 _ _ _ _ _ _ _ _ _)
      | (with_reducible exact ih1 _ _)
      | (with_reducible exact fascinelaw14_awake.mono _)
      | (with_reducible exact fascineref14_Form.mono _ _ _)
      | (with_reducible exact fascineref14_New.mono _ _ _ _)
      | (with_reducible exact fascineref14_Same.mono _ _ _ _ _)
      | (with_reducible exact meta_Copy.mono _ _ _)
      | (with_reducible exact meta_Form.mono _ _ _)
      | (with_reducible exact meta_New.mono _ _ _ _)
      | (with_reducible exact LeO.refl _)
      | (with_reducible exact LeO.none _)
      | (with_reducible refine LeO.ite ?_ ?_)
      | (with_reducible refine LeO.bind ?_ (fun _ => ?_))
      | exact ih0 _ _ _ _ _ _ _ _ _
      | exact ih1 _ _
      | exact fascinelaw14_awake.mono _
      | exact fascineref14_Form.mono _ _ _
      | exact fascineref14_New.mono _ _ _ _
      | exact fascineref14_Same.mono _ _ _ _ _
      | exact meta_Copy.mono _ _ _
      | exact meta_Form.mono _ _ _
      | exact meta_New.mono _ _ _ _
      | exact LeO.none _
      | refine LeO.ite ?_ ?_
      | refine LeO.bind ?_ (fun _ => ?_)
def fascinelaw14_MetaNews.T7 : Bool × List (List Nat × List Nat) := (true, [([], []), ([0], [0]), ([1], [1]), ([2], [2]), ([2], [2]), ([2], [2]), ([2], [2]), ([4, 5, 6, 2, 2], [2, 4, 5, 6]), ([3, 7, 7, 2], [2, 3, 7]), ([8, 2], [2, 8]), ([2, 9], [2, 9]), ([10, 8], [10]), ([11], [11]), ([12, 11, 11], [11, 12]), ([13, 11], [11, 13]), ([11, 14], [11, 14])])
def fascinelaw14_MetaNews.B7 : List Nat := [0, 1, 3, 7, 7, 7, 7, 119, 255, 511, 1023, 2047, 4095, 8191, 16383, 32767]
theorem fascinelaw14_MetaNews.tab7 : rtab .any (opsOf Try.f3 7) = fascinelaw14_MetaNews.T7 := by kernel_rfl
theorem fascinelaw14_MetaNews.bits7 : waitsOk fascinelaw14_MetaNews.T7.2 fascinelaw14_MetaNews.B7 = true := by kernel_rfl
def fascinelaw14_MetaNews.T9 : Bool × List (List Nat × List Nat) := (true, [([], []), ([0], [0]), ([], []), ([2, 1], [2]), ([1, 3], [1, 3]), ([4, 3], [4]), ([5], [5]), ([6, 5, 5], [5, 6]), ([5], [5]), ([7, 8, 7, 5], [5, 7, 8]), ([5, 9], [5, 9]), ([10, 9, 0, 1, 2, 3, 4, 5, 6, 7, 8, 9, 10], [10])])
def fascinelaw14_MetaNews.B9 : List Nat := [0, 1, 0, 7, 15, 31, 63, 127, 63, 511, 1023, 2047]
theorem fascinelaw14_MetaNews.tab9 : rtab .any (opsOf Try.f3 9) = fascinelaw14_MetaNews.T9 := by kernel_rfl
theorem fascinelaw14_MetaNews.bits9 : waitsOk fascinelaw14_MetaNews.T9.2 fascinelaw14_MetaNews.B9 = true := by kernel_rfl
set_option maxHeartbeats 8000000 in
set_option maxRecDepth 100000 in
theorem fascinelaw14_MetaNews.calls (k : Nat) (a0 : Int) (a1 : Int) (a2 : Int) (a3_0 : Int) (A3_1 : Option Addr) (c3_1 : Nat) (l3_1 : List (S42)) (r : Bool) (w : World) (hr3_1 : Kd.C k42 w A3_1 l3_1.length l3_1) (hc3_1 : l3_1.length ≤ c3_1) (h : fascinelaw14_MetaNews.f k a0 a1 a2 a3_0 l3_1 = some r) (hr_ : r = true) :
    Calls Try.prog 3 #[.int .i64 a0, .int .i64 a1, .int .i64 a2, .agg #[.int .i64 a3_0, .slice A3_1 l3_1.length c3_1]] w fun e w' => e = .returned (.bool r) ∧ Below w.heap.size w w' := by
  have HR_ := Aside0.mk hr_
  clear hr_
  have hu24 := Try.underlying24
  have HR3_1 := Aside0.mk hr3_1
  have HC3_1 := Aside0.mk hc3_1
  clear hr3_1 hc3_1
  have HB := Aside0.mk (Below.refl w.heap.size w)
  have H : ((fascinelaw14_awake.f k).bind fun t172 => (if t172 = true then ((meta_New.f k a0 a1 a2).bind fun bt173 => (if a0 < 1 then (fascinelaw14_MetaNews.j0 k a0 a1 a2 bt173.2.2 true a3_0 l3_1 bt173.1 bt173.2.1) else (if a0 > 5 then (fascinelaw14_MetaNews.j0 k a0 a1 a2 bt173.2.2 true a3_0 l3_1 bt173.1 bt173.2.1) else (if a1 < 1 then (fascinelaw14_MetaNews.j0 k a0 a1 a2 bt173.2.2 true a3_0 l3_1 bt173.1 bt173.2.1) else (if a1 > 8 then (fascinelaw14_MetaNews.j0 k a0 a1 a2 bt173.2.2 true a3_0 l3_1 bt173.1 bt173.2.1) else (if a2 < 1 then (fascinelaw14_MetaNews.j0 k a0 a1 a2 bt173.2.2 true a3_0 l3_1 bt173.1 bt173.2.1) else (fascinelaw14_MetaNews.j0 k a0 a1 a2 bt173.2.2 (decide (a2 > a0)) a3_0 l3_1 bt173.1 bt173.2.1))))))) else (some false))) = some r := h
  clear h
  replace H := Option.bind_eq_some_iff.mp H
  obtain ⟨t172, A50, H⟩ := H
  replace H : (if t172 = true then ((meta_New.f k a0 a1 a2).bind fun bt173 => (if a0 < 1 then (fascinelaw14_MetaNews.j0 k a0 a1 a2 bt173.2.2 true a3_0 l3_1 bt173.1 bt173.2.1) else (if a0 > 5 then (fascinelaw14_MetaNews.j0 k a0 a1 a2 bt173.2.2 true a3_0 l3_1 bt173.1 bt173.2.1) else (if a1 < 1 then (fascinelaw14_MetaNews.j0 k a0 a1 a2 bt173.2.2 true a3_0 l3_1 bt173.1 bt173.2.1) else (if a1 > 8 then (fascinelaw14_MetaNews.j0 k a0 a1 a2 bt173.2.2 true a3_0 l3_1 bt173.1 bt173.2.1) else (if a2 < 1 then (fascinelaw14_MetaNews.j0 k a0 a1 a2 bt173.2.2 true a3_0 l3_1 bt173.1 bt173.2.1) else (fascinelaw14_MetaNews.j0 k a0 a1 a2 bt173.2.2 (decide (a2 > a0)) a3_0 l3_1 bt173.1 bt173.2.1))))))) else (some false)) = some r := H
  have A5 := Aside0.mk A50
  clear A50
  by_cases c6 : t172 = true
  · subst c6
    have H1 : ((meta_New.f k a0 a1 a2).bind fun bt173 => (if a0 < 1 then (fascinelaw14_MetaNews.j0 k a0 a1 a2 bt173.2.2 true a3_0 l3_1 bt173.1 bt173.2.1) else (if a0 > 5 then (fascinelaw14_MetaNews.j0 k a0 a1 a2 bt173.2.2 true a3_0 l3_1 bt173.1 bt173.2.1) else (if a1 < 1 then (fascinelaw14_MetaNews.j0 k a0 a1 a2 bt173.2.2 true a3_0 l3_1 bt173.1 bt173.2.1) else (if a1 > 8 then (fascinelaw14_MetaNews.j0 k a0 a1 a2 bt173.2.2 true a3_0 l3_1 bt173.1 bt173.2.1) else (if a2 < 1 then (fascinelaw14_MetaNews.j0 k a0 a1 a2 bt173.2.2 true a3_0 l3_1 bt173.1 bt173.2.1) else (fascinelaw14_MetaNews.j0 k a0 a1 a2 bt173.2.2 (decide (a2 > a0)) a3_0 l3_1 bt173.1 bt173.2.1))))))) = some r := by rw [if_pos rfl] at H; exact H
    clear H
    have H := H1
    clear H1
    replace H := Option.bind_eq_some_iff.mp H
    obtain ⟨⟨t173, t174, t177⟩, A70, H⟩ := H
    replace H : (if a0 < 1 then (fascinelaw14_MetaNews.j0 k a0 a1 a2 t177 true a3_0 l3_1 t173 t174) else (if a0 > 5 then (fascinelaw14_MetaNews.j0 k a0 a1 a2 t177 true a3_0 l3_1 t173 t174) else (if a1 < 1 then (fascinelaw14_MetaNews.j0 k a0 a1 a2 t177 true a3_0 l3_1 t173 t174) else (if a1 > 8 then (fascinelaw14_MetaNews.j0 k a0 a1 a2 t177 true a3_0 l3_1 t173 t174) else (if a2 < 1 then (fascinelaw14_MetaNews.j0 k a0 a1 a2 t177 true a3_0 l3_1 t173 t174) else (fascinelaw14_MetaNews.j0 k a0 a1 a2 t177 (decide (a2 > a0)) a3_0 l3_1 t173 t174)))))) = some r := H
    have A7 := Aside0.mk A70
    clear A70
    have HC8 := Aside0.mk H
    clear H
    go_enter Try.func3, Try.ntmps3
    go_upto_region 4 with (first | ((with_reducible refine gate_dst (N := 7) rfl ?_); (try (refine gate_guard (by rfl) ?_; dsimp only)); refine box_event ?hg (N := 7) ?hd (cs := #[.int .i64 a3_0, .slice A3_1 l3_1.length c3_1]) (t := 24) ?hr ?_; (case hd => rfl); (case hg => rfl); (case hr => first | (go_simp; done) | (go_simp; rfl)); intro gb171 hg w9 hbox hb; have n0_ := Aside0.mk (below_step (by repeat (first | (with_reducible first | exact HB.out | apply below_alloc | apply pw_below_drewN | apply below_drew1) | exact HB.out)) hb); have n1_ := Aside0.mk (hbox); have n2_ := Aside0.mk ((by rw [hg]; exact (below_size (by repeat (first | (with_reducible first | exact HB.out | apply below_alloc | apply pw_below_drewN | apply below_drew1) | exact HB.out))) : w.heap.size ≤ gb171)); have n3_ := Aside0.mk ((by rw [hg]; exact (below_size (by repeat (first | (with_reducible first | exact HB.out | apply below_alloc | apply pw_below_drewN | apply below_drew1) | exact HB.out))) : w.heap.size ≤ gb171)); clear HB; have HB := n0_; have BK171 := n1_; have GW171 := n2_; have GE171 := n3_; clear n0_ n1_ n2_ n3_; clear hb hbox hg) | ((with_reducible refine gate_callee (f := 15) rfl ?_); refine goesL_ (some 11) rfl rfl Try.func15 (by kernel_rfl) rfl #[] rfl (by (try simp only [List.map_toArray, List.map_cons, List.map_nil]); first | done | rfl | (simp only [List.length_drop, List.length_take]; rfl)) ?_; (with_reducible refine (fascinelaw14_awake.calls k  true _ A5.out).mono ?_); rintro e w10 ⟨rfl, hb⟩; refine ⟨_, rfl, ?_⟩; have n0_ := Aside0.mk (blk_below (g := gb171) (o := .cells #[.int .i64 a3_0, .slice A3_1 l3_1.length c3_1] 24 (0, 0)) (by (with_reducible repeat (first | refine blk_drewN ?_ _ | refine blk_drew ?_ | refine blk_alloc ?_ _)); exact BK171.out) hb); have n1_ := Aside0.mk (below_step (by repeat (first | (with_reducible first | exact HB.out | apply below_alloc | apply pw_below_drewN | apply below_drew1 | refine below_set ?_ GE171.out) | exact HB.out)) hb); clear BK171; clear HB; have BK171 := n0_; have HB := n1_; clear n0_ n1_; (try clear hb); (try clear hb2); (try clear hk); (try clear hi)) | ((with_reducible refine gate_callee (f := 16) rfl ?_); refine goesL_ (some 19) rfl rfl Try.func16 (by kernel_rfl) rfl #[.int .i64 a0, .int .i64 a1, .int .i64 a2] rfl (by (try simp only [List.map_toArray, List.map_cons, List.map_nil]); first | done | rfl | (simp only [List.length_drop, List.length_take]; rfl)) ?_; (with_reducible refine (meta_New.calls k a0 a1 a2 t173 t174 t177 _ A7.out).mono ?_); rintro e w11 ⟨v175, rfl, ho0, hb⟩; refine ⟨_, rfl, ?_⟩; have n0_ := Aside0.mk (Kd.S_lower ho0 (below_size (by repeat (first | (with_reducible first | exact HB.out | apply below_alloc | apply pw_below_drewN | apply below_drew1 | refine below_set ?_ GE171.out) | exact HB.out)))); have n1_ := Aside0.mk (blk_below (g := gb171) (o := .cells #[.int .i64 a3_0, .slice A3_1 l3_1.length c3_1] 24 (0, 0)) (by (with_reducible repeat (first | refine blk_drewN ?_ _ | refine blk_drew ?_ | refine blk_alloc ?_ _)); exact BK171.out) hb); have n2_ := Aside0.mk (below_step (by repeat (first | (with_reducible first | exact HB.out | apply below_alloc | apply pw_below_drewN | apply below_drew1 | refine below_set ?_ GE171.out) | exact HB.out)) hb); clear BK171; clear HB; have HO176 := n0_; have BK171 := n1_; have HB := n2_; clear n0_ n1_ n2_; (try clear hb); (try clear hb2); (try clear hk); (try clear hi); (try clear ho0)) | ((with_reducible refine gate_dst (N := 9) rfl ?_); (try (refine gate_guard (by rfl) ?_; dsimp only)); refine box_event ?hg (N := 9) ?hd (cs := #[.int .i64 0, .slice none 0 0]) (t := 24) ?hr ?_; (case hd => rfl); (case hg => rfl); (case hr => first | (go_simp; done) | (go_simp; rfl)); intro gb178 hg w12 hbox hb; have n0_ := Aside0.mk (Kd.S_below (by (with_reducible repeat (first | apply Kd.S_alloc | apply Kd.S_drewN | apply Kd.S_drew)); exact HO176.out) hb); have n1_ := Aside0.mk (blk_below (g := gb171) (o := .cells #[.int .i64 a3_0, .slice A3_1 l3_1.length c3_1] 24 (0, 0)) (by (with_reducible repeat (first | refine blk_drewN ?_ _ | refine blk_drew ?_ | refine blk_alloc ?_ _)); exact BK171.out) hb); have n2_ := Aside0.mk (below_step (by repeat (first | (with_reducible first | exact HB.out | apply below_alloc | apply pw_below_drewN | apply below_drew1 | refine below_set ?_ GE171.out) | exact HB.out)) hb); have n3_ := Aside0.mk (hbox); have n4_ := Aside0.mk ((by rw [hg]; exact (below_size (by repeat (first | (with_reducible first | exact HB.out | apply below_alloc | apply pw_below_drewN | apply below_drew1 | refine below_set ?_ GE171.out) | exact HB.out))) : w.heap.size ≤ gb178)); have n5_ := Aside0.mk ((by rw [hg]; exact (below_size (by repeat (first | (with_reducible first | exact HB.out | apply below_alloc | apply pw_below_drewN | apply below_drew1 | refine below_set ?_ GE171.out) | exact HB.out))) : w.heap.size ≤ gb178)); have n6_ := Aside0.mk ((by rw [hg]; exact Nat.ne_of_lt (blk_lt (g := gb171) (o := .cells #[.int .i64 a3_0, .slice A3_1 l3_1.length c3_1] 24 (0, 0)) (by (with_reducible repeat (first | refine blk_drewN ?_ _ | refine blk_drew ?_ | refine blk_alloc ?_ _)); exact BK171.out)) : gb171 ≠ gb178)); have n7_ := Aside0.mk ((by rw [hg]; exact Nat.ne_of_gt (blk_lt (g := gb171) (o := .cells #[.int .i64 a3_0, .slice A3_1 l3_1.length c3_1] 24 (0, 0)) (by (with_reducible repeat (first | refine blk_drewN ?_ _ | refine blk_drew ?_ | refine blk_alloc ?_ _)); exact BK171.out)) : gb178 ≠ gb171)); clear HO176; clear BK171; clear HB; have HO176 := n0_; have BK171 := n1_; have HB := n2_; have BK178 := n3_; have GW178 := n4_; have GE178 := n5_; have NB171_178 := n6_; have NB178_171 := n7_; clear n0_ n1_ n2_ n3_ n4_ n5_ n6_ n7_; clear hb hbox hg; have hnb13 := NB178_171.out; have hnc13 := NB171_178.out; have hcz14_0 : w12.cell? ⟨gb178, 0, none⟩ = some (.int .i64 0) := (blk_cell BK178.out 0).trans rfl; have hcz14_1 : w12.cell? ⟨gb178, 1, none⟩ = some (.slice none 0 0) := (blk_cell BK178.out 1).trans rfl; have hfz14_0 := blk_frozen BK178.out 0; have hfz14_1 := blk_frozen BK178.out 1; obtain ⟨Ao15, co15, eo15⟩ := Kd.S_slice HO176.out; subst eo15))
    (try simp only [Act.put, List.setIfInBounds_toArray, List.set_cons_zero, List.set_cons_succ])
    go_cut [44] (fun v44 wc => ∃ (kq : Nat) (x44_7 : Bool), v44 = .bool x44_7 ∧ Aside0 (fascinelaw14_MetaNews.j0 kq a0 a1 a2 t177 x44_7 a3_0 l3_1 t173 t174 = some r) ∧ Aside0 (kq ≤ k) ∧ Aside0 (Kd.S k42 42 wc w.heap.size (fun _ => True) (.slice Ao15 t174.length co15) t174) ∧ Aside0 (wc.heap[gb171]? = some (.cells #[.int .i64 a3_0, (.slice A3_1 l3_1.length c3_1)] 24 (0, 0))) ∧ Aside0 (wc.heap[gb178]? = some (.cells #[.int .i64 t173, (.slice Ao15 t174.length co15)] 24 (0, 0))) ∧ Aside0 (Below w.heap.size w wc))
    case first =>
      have H := HC8.out
      clear HC8
      by_cases c16 : a0 < 1
      · rw [if_pos c16] at H
        have c16b0 : decide (a0 < 1) = true := decide_eq_true c16
        clear c16
        (first | rw [c16b0] | (simp only [i64_w, i32_w]; rw [c16b0]) | skip)
        have H' := Aside0.mk H
        clear H
        go_wp2
        go_meet
        case rel => exact ⟨_, (true), (by first | rfl | (simp; done) | (simp [*]; done)), H', ⟨by first | omega | exact Nat.le_refl _⟩, ⟨by (with_reducible repeat (first | apply Kd.S_alloc | apply Kd.S_drewN | apply Kd.S_drew)); exact Kd.S_mono (Kd.S_far (p := ⟨gb178, 1, none⟩) (Kd.S_far (p := ⟨gb178, 0, none⟩) (Kd.S_types HO176.out BK178.out (by decide)) (fun _ hk => hk.2) (.int .i64 t173)) (fun _ hk => hk.2) (.slice Ao15 t174.length co15)) (fun _ hk => trivial)⟩, ⟨by (with_reducible repeat (first | refine blk_drewN ?_ _ | refine blk_drew ?_ | refine blk_alloc ?_ _)); refine blk_far ?_ NB171_178.out _; (with_reducible repeat (first | refine blk_drewN ?_ _ | refine blk_drew ?_ | refine blk_alloc ?_ _)); refine blk_far ?_ NB171_178.out _; (with_reducible repeat (first | refine blk_drewN ?_ _ | refine blk_drew ?_ | refine blk_alloc ?_ _)); exact BK171.out⟩, ⟨by (with_reducible repeat (first | refine blk_drewN ?_ _ | refine blk_drew ?_ | refine blk_alloc ?_ _)); refine blk_put (cs := #[.int .i64 t173, .slice none 0 0]) ?_ 1 _ rfl; (with_reducible repeat (first | refine blk_drewN ?_ _ | refine blk_drew ?_ | refine blk_alloc ?_ _)); refine blk_put (cs := #[.int .i64 0, .slice none 0 0]) ?_ 0 _ rfl; (with_reducible repeat (first | refine blk_drewN ?_ _ | refine blk_drew ?_ | refine blk_alloc ?_ _)); exact BK178.out⟩, ⟨by repeat (first | (with_reducible first | exact HB.out | apply below_alloc | apply pw_below_drewN | apply below_drew1 | refine below_set ?_ GE171.out | refine below_set ?_ GE178.out) | exact HB.out)⟩⟩
      · rw [if_neg c16] at H
        have c16b0 : decide (a0 < 1) = false := decide_eq_false c16
        clear c16
        (first | rw [c16b0] | (simp only [i64_w, i32_w]; rw [c16b0]) | skip)
        by_cases c17 : a0 > 5
        · rw [if_pos c17] at H
          have c17b0 : decide (5 < a0) = true := decide_eq_true c17
          clear c17
          have H' := Aside0.mk H
          clear H
          go_wp2
          go_meet
          case rel => exact ⟨_, (true), (by first | rfl | (simp; done) | (simp [*]; done)), H', ⟨by first | omega | exact Nat.le_refl _⟩, ⟨by (with_reducible repeat (first | apply Kd.S_alloc | apply Kd.S_drewN | apply Kd.S_drew)); exact Kd.S_mono (Kd.S_far (p := ⟨gb178, 1, none⟩) (Kd.S_far (p := ⟨gb178, 0, none⟩) (Kd.S_types HO176.out BK178.out (by decide)) (fun _ hk => hk.2) (.int .i64 t173)) (fun _ hk => hk.2) (.slice Ao15 t174.length co15)) (fun _ hk => trivial)⟩, ⟨by (with_reducible repeat (first | refine blk_drewN ?_ _ | refine blk_drew ?_ | refine blk_alloc ?_ _)); refine blk_far ?_ NB171_178.out _; (with_reducible repeat (first | refine blk_drewN ?_ _ | refine blk_drew ?_ | refine blk_alloc ?_ _)); refine blk_far ?_ NB171_178.out _; (with_reducible repeat (first | refine blk_drewN ?_ _ | refine blk_drew ?_ | refine blk_alloc ?_ _)); exact BK171.out⟩, ⟨by (with_reducible repeat (first | refine blk_drewN ?_ _ | refine blk_drew ?_ | refine blk_alloc ?_ _)); refine blk_put (cs := #[.int .i64 t173, .slice none 0 0]) ?_ 1 _ rfl; (with_reducible repeat (first | refine blk_drewN ?_ _ | refine blk_drew ?_ | refine blk_alloc ?_ _)); refine blk_put (cs := #[.int .i64 0, .slice none 0 0]) ?_ 0 _ rfl; (with_reducible repeat (first | refine blk_drewN ?_ _ | refine blk_drew ?_ | refine blk_alloc ?_ _)); exact BK178.out⟩, ⟨by repeat (first | (with_reducible first | exact HB.out | apply below_alloc | apply pw_below_drewN | apply below_drew1 | refine below_set ?_ GE171.out | refine below_set ?_ GE178.out) | exact HB.out)⟩⟩
        · rw [if_neg c17] at H
          have c17b0 : decide (5 < a0) = false := decide_eq_false c17
          clear c17
          by_cases c18 : a1 < 1
          · rw [if_pos c18] at H
            have c18b0 : decide (a1 < 1) = true := decide_eq_true c18
            clear c18
            have H' := Aside0.mk H
            clear H
            go_wp2
            go_meet
            case rel => exact ⟨_, (true), (by first | rfl | (simp; done) | (simp [*]; done)), H', ⟨by first | omega | exact Nat.le_refl _⟩, ⟨by (with_reducible repeat (first | apply Kd.S_alloc | apply Kd.S_drewN | apply Kd.S_drew)); exact Kd.S_mono (Kd.S_far (p := ⟨gb178, 1, none⟩) (Kd.S_far (p := ⟨gb178, 0, none⟩) (Kd.S_types HO176.out BK178.out (by decide)) (fun _ hk => hk.2) (.int .i64 t173)) (fun _ hk => hk.2) (.slice Ao15 t174.length co15)) (fun _ hk => trivial)⟩, ⟨by (with_reducible repeat (first | refine blk_drewN ?_ _ | refine blk_drew ?_ | refine blk_alloc ?_ _)); refine blk_far ?_ NB171_178.out _; (with_reducible repeat (first | refine blk_drewN ?_ _ | refine blk_drew ?_ | refine blk_alloc ?_ _)); refine blk_far ?_ NB171_178.out _; (with_reducible repeat (first | refine blk_drewN ?_ _ | refine blk_drew ?_ | refine blk_alloc ?_ _)); exact BK171.out⟩, ⟨by (with_reducible repeat (first | refine blk_drewN ?_ _ | refine blk_drew ?_ | refine blk_alloc ?_ _)); refine blk_put (cs := #[.int .i64 t173, .slice none 0 0]) ?_ 1 _ rfl; (with_reducible repeat (first | refine blk_drewN ?_ _ | refine blk_drew ?_ | refine blk_alloc ?_ _)); refine blk_put (cs := #[.int .i64 0, .slice none 0 0]) ?_ 0 _ rfl; (with_reducible repeat (first | refine blk_drewN ?_ _ | refine blk_drew ?_ | refine blk_alloc ?_ _)); exact BK178.out⟩, ⟨by repeat (first | (with_reducible first | exact HB.out | apply below_alloc | apply pw_below_drewN | apply below_drew1 | refine below_set ?_ GE171.out | refine below_set ?_ GE178.out) | exact HB.out)⟩⟩
          · rw [if_neg c18] at H
            have c18b0 : decide (a1 < 1) = false := decide_eq_false c18
            clear c18
            by_cases c19 : a1 > 8
            · rw [if_pos c19] at H
              have c19b0 : decide (8 < a1) = true := decide_eq_true c19
              clear c19
              have H' := Aside0.mk H
              clear H
              go_wp2
              go_meet
              case rel => exact ⟨_, (true), (by first | rfl | (simp; done) | (simp [*]; done)), H', ⟨by first | omega | exact Nat.le_refl _⟩, ⟨by (with_reducible repeat (first | apply Kd.S_alloc | apply Kd.S_drewN | apply Kd.S_drew)); exact Kd.S_mono (Kd.S_far (p := ⟨gb178, 1, none⟩) (Kd.S_far (p := ⟨gb178, 0, none⟩) (Kd.S_types HO176.out BK178.out (by decide)) (fun _ hk => hk.2) (.int .i64 t173)) (fun _ hk => hk.2) (.slice Ao15 t174.length co15)) (fun _ hk => trivial)⟩, ⟨by (with_reducible repeat (first | refine blk_drewN ?_ _ | refine blk_drew ?_ | refine blk_alloc ?_ _)); refine blk_far ?_ NB171_178.out _; (with_reducible repeat (first | refine blk_drewN ?_ _ | refine blk_drew ?_ | refine blk_alloc ?_ _)); refine blk_far ?_ NB171_178.out _; (with_reducible repeat (first | refine blk_drewN ?_ _ | refine blk_drew ?_ | refine blk_alloc ?_ _)); exact BK171.out⟩, ⟨by (with_reducible repeat (first | refine blk_drewN ?_ _ | refine blk_drew ?_ | refine blk_alloc ?_ _)); refine blk_put (cs := #[.int .i64 t173, .slice none 0 0]) ?_ 1 _ rfl; (with_reducible repeat (first | refine blk_drewN ?_ _ | refine blk_drew ?_ | refine blk_alloc ?_ _)); refine blk_put (cs := #[.int .i64 0, .slice none 0 0]) ?_ 0 _ rfl; (with_reducible repeat (first | refine blk_drewN ?_ _ | refine blk_drew ?_ | refine blk_alloc ?_ _)); exact BK178.out⟩, ⟨by repeat (first | (with_reducible first | exact HB.out | apply below_alloc | apply pw_below_drewN | apply below_drew1 | refine below_set ?_ GE171.out | refine below_set ?_ GE178.out) | exact HB.out)⟩⟩
            · rw [if_neg c19] at H
              have c19b0 : decide (8 < a1) = false := decide_eq_false c19
              clear c19
              by_cases c20 : a2 < 1
              · rw [if_pos c20] at H
                have c20b0 : decide (a2 < 1) = true := decide_eq_true c20
                clear c20
                have H' := Aside0.mk H
                clear H
                go_wp2
                go_meet
                case rel => exact ⟨_, (true), (by first | rfl | (simp; done) | (simp [*]; done)), H', ⟨by first | omega | exact Nat.le_refl _⟩, ⟨by (with_reducible repeat (first | apply Kd.S_alloc | apply Kd.S_drewN | apply Kd.S_drew)); exact Kd.S_mono (Kd.S_far (p := ⟨gb178, 1, none⟩) (Kd.S_far (p := ⟨gb178, 0, none⟩) (Kd.S_types HO176.out BK178.out (by decide)) (fun _ hk => hk.2) (.int .i64 t173)) (fun _ hk => hk.2) (.slice Ao15 t174.length co15)) (fun _ hk => trivial)⟩, ⟨by (with_reducible repeat (first | refine blk_drewN ?_ _ | refine blk_drew ?_ | refine blk_alloc ?_ _)); refine blk_far ?_ NB171_178.out _; (with_reducible repeat (first | refine blk_drewN ?_ _ | refine blk_drew ?_ | refine blk_alloc ?_ _)); refine blk_far ?_ NB171_178.out _; (with_reducible repeat (first | refine blk_drewN ?_ _ | refine blk_drew ?_ | refine blk_alloc ?_ _)); exact BK171.out⟩, ⟨by (with_reducible repeat (first | refine blk_drewN ?_ _ | refine blk_drew ?_ | refine blk_alloc ?_ _)); refine blk_put (cs := #[.int .i64 t173, .slice none 0 0]) ?_ 1 _ rfl; (with_reducible repeat (first | refine blk_drewN ?_ _ | refine blk_drew ?_ | refine blk_alloc ?_ _)); refine blk_put (cs := #[.int .i64 0, .slice none 0 0]) ?_ 0 _ rfl; (with_reducible repeat (first | refine blk_drewN ?_ _ | refine blk_drew ?_ | refine blk_alloc ?_ _)); exact BK178.out⟩, ⟨by repeat (first | (with_reducible first | exact HB.out | apply below_alloc | apply pw_below_drewN | apply below_drew1 | refine below_set ?_ GE171.out | refine below_set ?_ GE178.out) | exact HB.out)⟩⟩
              · rw [if_neg c20] at H
                have c20b0 : decide (a2 < 1) = false := decide_eq_false c20
                clear c20
                have H' := Aside0.mk H
                clear H
                go_wp2
                go_meet
                case rel => exact ⟨_, (decide (a2 > a0)), (by first | rfl | (simp; done) | (simp [*]; done)), H', ⟨by first | omega | exact Nat.le_refl _⟩, ⟨by (with_reducible repeat (first | apply Kd.S_alloc | apply Kd.S_drewN | apply Kd.S_drew)); exact Kd.S_mono (Kd.S_far (p := ⟨gb178, 1, none⟩) (Kd.S_far (p := ⟨gb178, 0, none⟩) (Kd.S_types HO176.out BK178.out (by decide)) (fun _ hk => hk.2) (.int .i64 t173)) (fun _ hk => hk.2) (.slice Ao15 t174.length co15)) (fun _ hk => trivial)⟩, ⟨by (with_reducible repeat (first | refine blk_drewN ?_ _ | refine blk_drew ?_ | refine blk_alloc ?_ _)); refine blk_far ?_ NB171_178.out _; (with_reducible repeat (first | refine blk_drewN ?_ _ | refine blk_drew ?_ | refine blk_alloc ?_ _)); refine blk_far ?_ NB171_178.out _; (with_reducible repeat (first | refine blk_drewN ?_ _ | refine blk_drew ?_ | refine blk_alloc ?_ _)); exact BK171.out⟩, ⟨by (with_reducible repeat (first | refine blk_drewN ?_ _ | refine blk_drew ?_ | refine blk_alloc ?_ _)); refine blk_put (cs := #[.int .i64 t173, .slice none 0 0]) ?_ 1 _ rfl; (with_reducible repeat (first | refine blk_drewN ?_ _ | refine blk_drew ?_ | refine blk_alloc ?_ _)); refine blk_put (cs := #[.int .i64 0, .slice none 0 0]) ?_ 0 _ rfl; (with_reducible repeat (first | refine blk_drewN ?_ _ | refine blk_drew ?_ | refine blk_alloc ?_ _)); exact BK178.out⟩, ⟨by repeat (first | (with_reducible first | exact HB.out | apply below_alloc | apply pw_below_drewN | apply below_drew1 | refine below_set ?_ GE171.out | refine below_set ?_ GE178.out) | exact HB.out)⟩⟩
    case rest =>
      clear HC8
      try clear c1
      try clear c2
      try clear p2
      try clear c3
      try clear c6
      try clear c13
      try clear c15
      try clear c16
      try clear c16b0
      try clear c17
      try clear c17b0
      try clear c18
      try clear c18b0
      try clear c19
      try clear c19b0
      try clear c20
      try clear c20b0
      try clear hcz14_0
      try clear hcz14_1
      try clear hfz14_0
      try clear hfz14_1
      obtain ⟨kq, x44_7, rfl, HA, HJ7, HO_179001, BK171, BK178, HB⟩ := hcut
      cases kq with
      | zero => exact absurd HA.out (by simp [fascinelaw14_MetaNews.j0])
      | succ kj7 =>
        have H := HA.out
        clear HA
        simp only [fascinelaw14_MetaNews.j0] at H
        have HC21 := Aside0.mk H
        clear H
        go_upto_if 44 with (fail)
        go_cut [] (fun wc => ∃ (kq : Nat), Aside0 (fascinelaw14_MetaNews.j1 kq a3_0 l3_1 = some r) ∧ Aside0 (kq ≤ kj7) ∧ Aside0 (Kd.S k42 42 wc w.heap.size (fun _ => True) (.slice Ao15 t174.length co15) t174) ∧ Aside0 (wc.heap[gb171]? = some (.cells #[.int .i64 a3_0, (.slice A3_1 l3_1.length c3_1)] 24 (0, 0))) ∧ Aside0 (wc.heap[gb178]? = some (.cells #[.int .i64 t173, (.slice Ao15 t174.length co15)] 24 (0, 0))) ∧ Aside0 (Below w.heap.size w wc))
        case first =>
          have H := HC21.out
          clear HC21
          by_cases c22 : x44_7 = true
          · subst c22
            have H1 : (if t177 = 1 then (if (t174.length : Int) > 0 then (some false) else (fascinelaw14_MetaNews.j1 kj7 a3_0 l3_1)) else (some false)) = some r := by rw [if_pos rfl] at H; exact H
            clear H
            have H := H1
            clear H1
            by_cases c23 : t177 = 1
            · rw [if_pos c23] at H
              have c23b0 : (t177 == 1) = true := beq_iff_eq.mpr c23
              have c23b1 : (t177 != 1) = false := bne_eq_false_iff_eq.mpr c23
              clear c23
              (first | rw [c23b0] | (simp only [i64_w, i32_w]; rw [c23b0]) | skip)
              by_cases c24 : (t174.length : Int) > 0
              · rw [if_pos c24] at H
                have c24b0 : decide (0 < (t174.length : Int)) = true := decide_eq_true c24
                have c24b1 : decide (0 < t174.length) = true := decide_eq_true (by omega)
                clear c24
                exact absurd (HR_.out.symm.trans (Option.some.inj H).symm) (by decide)
              · rw [if_neg c24] at H
                have c24b0 : decide (0 < (t174.length : Int)) = false := decide_eq_false c24
                have c24b1 : decide (0 < t174.length) = false := decide_eq_false (by omega)
                clear c24
                have H' := Aside0.mk H
                clear H
                have hnb25 := NB178_171.out
                have hnc25 := NB171_178.out
                have hcz26_0 : wc.cell? ⟨gb178, 0, none⟩ = some (.int .i64 t173) := (blk_cell BK178.out 0).trans rfl
                have hcz26_1 : wc.cell? ⟨gb178, 1, none⟩ = some (.slice Ao15 t174.length co15) := (blk_cell BK178.out 1).trans rfl
                have hfz26_0 := blk_frozen BK178.out 0
                have hfz26_1 := blk_frozen BK178.out 1
                go_wp2
                go_meet
                case rel => exact ⟨_, H', ⟨by have := HJ7.out; first | omega | exact Nat.le_refl _⟩, ⟨by (with_reducible repeat (first | apply Kd.S_alloc | apply Kd.S_drewN | apply Kd.S_drew)); exact HO_179001.out⟩, ⟨by (with_reducible repeat (first | refine blk_drewN ?_ _ | refine blk_drew ?_ | refine blk_alloc ?_ _)); exact BK171.out⟩, ⟨by (with_reducible repeat (first | refine blk_drewN ?_ _ | refine blk_drew ?_ | refine blk_alloc ?_ _)); exact BK178.out⟩, ⟨by repeat (first | (with_reducible first | exact HB.out | apply below_alloc | apply pw_below_drewN | apply below_drew1 | refine below_set ?_ GE171.out | refine below_set ?_ GE178.out) | exact HB.out)⟩⟩
            · rw [if_neg c23] at H
              have c23b0 : (t177 == 1) = false := beq_eq_false_iff_ne.mpr c23
              have c23b1 : (t177 != 1) = true := bne_iff_ne.mpr c23
              (first | rw [c23b0] | (simp only [i64_w, i32_w]; rw [c23b0]) | skip)
              exact absurd (HR_.out.symm.trans (Option.some.inj H).symm) (by decide)
          · replace c22 := Bool.eq_false_iff.mpr c22
            subst c22
            have H1 : (if t177 = 0 then ((fascineref14_New.f kj7 a0 a1 a2).bind fun bt179 => ((fascineref14_Same.f kj7 t173 t174 bt179.1 bt179.2).bind fun t183 => (if t183 = true then ((meta_Form.f kj7 t173 t174).bind fun t184 => (if t184 = true then (fascinelaw14_MetaNews.j1 kj7 a3_0 l3_1) else (some false))) else (some false)))) else (some false)) = some r := by rw [if_neg (show ¬ (false = true) by decide)] at H; exact H
            clear H
            have H := H1
            clear H1
            by_cases c27 : t177 = 0
            · rw [if_pos c27] at H
              have c27b0 : (t177 == 0) = true := beq_iff_eq.mpr c27
              have c27b1 : (t177 != 0) = false := bne_eq_false_iff_eq.mpr c27
              clear c27
              replace H := Option.bind_eq_some_iff.mp H
              obtain ⟨⟨t179, t180⟩, A280, H⟩ := H
              replace H : ((fascineref14_Same.f kj7 t173 t174 t179 t180).bind fun t183 => (if t183 = true then ((meta_Form.f kj7 t173 t174).bind fun t184 => (if t184 = true then (fascinelaw14_MetaNews.j1 kj7 a3_0 l3_1) else (some false))) else (some false))) = some r := H
              have A28 := Aside0.mk A280
              clear A280
              replace H := Option.bind_eq_some_iff.mp H
              obtain ⟨t183, A290, H⟩ := H
              replace H : (if t183 = true then ((meta_Form.f kj7 t173 t174).bind fun t184 => (if t184 = true then (fascinelaw14_MetaNews.j1 kj7 a3_0 l3_1) else (some false))) else (some false)) = some r := H
              have A29 := Aside0.mk A290
              clear A290
              by_cases c30 : t183 = true
              · subst c30
                have H1 : ((meta_Form.f kj7 t173 t174).bind fun t184 => (if t184 = true then (fascinelaw14_MetaNews.j1 kj7 a3_0 l3_1) else (some false))) = some r := by rw [if_pos rfl] at H; exact H
                clear H
                have H := H1
                clear H1
                replace H := Option.bind_eq_some_iff.mp H
                obtain ⟨t184, A310, H⟩ := H
                replace H : (if t184 = true then (fascinelaw14_MetaNews.j1 kj7 a3_0 l3_1) else (some false)) = some r := H
                have A31 := Aside0.mk A310
                clear A310
                by_cases c32 : t184 = true
                · subst c32
                  have H1 : (fascinelaw14_MetaNews.j1 kj7 a3_0 l3_1) = some r := by rw [if_pos rfl] at H; exact H
                  clear H
                  have H := H1
                  clear H1
                  have H' := Aside0.mk H
                  clear H
                  try go_wp2
                  (try (rw [drewN_self wc]; generalize hq_ : World.drewN wc _ = wc; have n0_ : Aside0 (Kd.S k42 42 wc w.heap.size (fun _ => True) (.slice Ao15 t174.length co15) t174) := ⟨by rw [← hq_]; exact (by (with_reducible repeat (first | apply Kd.S_alloc | apply Kd.S_drewN | apply Kd.S_drew)); exact HO_179001.out)⟩; have n1_ : Aside0 (wc.heap[gb171]? = some (.cells #[.int .i64 a3_0, .slice A3_1 l3_1.length c3_1] 24 (0, 0))) := ⟨by rw [← hq_]; exact (by (with_reducible repeat (first | refine blk_drewN ?_ _ | refine blk_drew ?_ | refine blk_alloc ?_ _)); exact BK171.out)⟩; have n2_ : Aside0 (wc.heap[gb178]? = some (.cells #[.int .i64 t173, .slice Ao15 t174.length co15] 24 (0, 0))) := ⟨by rw [← hq_]; exact (by (with_reducible repeat (first | refine blk_drewN ?_ _ | refine blk_drew ?_ | refine blk_alloc ?_ _)); exact BK178.out)⟩; have n3_ : Aside0 (Below w.heap.size w wc) := ⟨by rw [← hq_]; exact (by repeat (first | (with_reducible first | exact HB.out | apply below_alloc | apply pw_below_drewN | apply below_drew1 | refine below_set ?_ GE171.out | refine below_set ?_ GE178.out) | exact HB.out))⟩; clear HO_179001 BK171 BK178 HB hq_; have HO_179001 := n0_; have BK171 := n1_; have BK178 := n2_; have HB := n3_; clear n0_ n1_ n2_ n3_))
                  have n0_ := Aside0.mk (Kd.S_drew HO_179001.out)
                  have n1_ := Aside0.mk (blk_drew BK171.out)
                  have n2_ := Aside0.mk (blk_drew BK178.out)
                  have n3_ := Aside0.mk (below_drew1 HB.out)
                  clear HO_179001
                  clear BK171
                  clear BK178
                  clear HB
                  have HO_179001 := n0_
                  have BK171 := n1_
                  have BK178 := n2_
                  have HB := n3_
                  clear n0_ n1_ n2_ n3_
                  refine start_ (n := 16) (S := fun w' => w'.cell? ⟨gb178, 0, none⟩ = some (.int .i64 t173) ∧ w'.cell? ⟨gb178, 1, none⟩ = some (.slice Ao15 t174.length co15)) (ds := []) #[false, false, false, false, false, false, false, false, false, false, false, false, false, false, false, false] (by kernel_rfl) rfl rfl ⟨(blk_cell BK178.out 0).trans rfl, (blk_cell BK178.out 1).trans rfl⟩ (fun hHeld => ?_); refine with_tabW fascinelaw14_MetaNews.tab7 fascinelaw14_MetaNews.bits7 (fun HT_ HW_ => ?_)
                  generalize wc.drew = w33 at HO_179001 BK171 BK178 HB hHeld ⊢
                  refine pure_ (i := 0) (N := some 53) (v := ?_) (a' := ?_) #[true, false, false, false, false, false, false, false, false, false, false, false, false, false, false, false] rfl rfl (any_of HT_.out (by kernel_rfl)) (fun _ _ _ h => h) (Or.inl ⟨by rfl, ?_⟩) ?_ ?_
                  rotate_left
                  · intro w'
                    go_simp
                    with_reducible rfl
                  rotate_left
                  · simp only [Act.put, List.setIfInBounds_toArray, List.set_cons_zero, List.set_cons_succ, i64_w, i32_w]
                    rfl
                  refine pure_ (i := 1) (N := some 54) (v := ?_) (a' := ?_) #[true, true, false, false, false, false, false, false, false, false, false, false, false, false, false, false] rfl rfl (any_of HT_.out (by kernel_rfl)) (fun _ _ _ h => h) (Or.inl ⟨by rfl, ?_⟩) ?_ ?_
                  rotate_left
                  · intro w'
                    go_simp
                    with_reducible rfl
                  rotate_left
                  · simp only [Act.put, List.setIfInBounds_toArray, List.set_cons_zero, List.set_cons_succ, i64_w, i32_w]
                    rfl
                  refine pure_ (i := 2) (N := some 55) (v := ?_) (a' := ?_) #[true, true, true, false, false, false, false, false, false, false, false, false, false, false, false, false] rfl rfl (any_of HT_.out (by kernel_rfl)) (fun _ _ _ h => h) (Or.inl ⟨by rfl, ?_⟩) ?_ ?_
                  rotate_left
                  · intro w'
                    go_simp
                    with_reducible rfl
                  rotate_left
                  · simp only [Act.put, List.setIfInBounds_toArray, List.set_cons_zero, List.set_cons_succ, i64_w, i32_w]
                    rfl
                  refine pure_ (i := 4) (N := some 57) (v := ?_) (a' := ?_) #[true, true, true, false, true, false, false, false, false, false, false, false, false, false, false, false] rfl rfl (any_of HT_.out (by kernel_rfl)) (fun _ _ _ h => h) (Or.inl ⟨by rfl, ?_⟩) ?_ ?_
                  rotate_left
                  · intro w'
                    go_simp
                    with_reducible rfl
                  rotate_left
                  · simp only [Act.put, List.setIfInBounds_toArray, List.set_cons_zero, List.set_cons_succ, i64_w, i32_w]
                    rfl
                  refine pure_ (i := 5) (N := some 58) (v := ?_) (a' := ?_) #[true, true, true, false, true, true, false, false, false, false, false, false, false, false, false, false] rfl rfl (any_of HT_.out (by kernel_rfl)) (fun _ _ _ h => h) (Or.inl ⟨by rfl, ?_⟩) ?_ ?_
                  rotate_left
                  · intro w'
                    go_simp
                    with_reducible rfl
                  rotate_left
                  · simp only [Act.put, List.setIfInBounds_toArray, List.set_cons_zero, List.set_cons_succ, i64_w, i32_w]
                    rfl
                  refine pure_ (i := 6) (N := some 59) (v := ?_) (a' := ?_) #[true, true, true, false, true, true, true, false, false, false, false, false, false, false, false, false] rfl rfl (any_of HT_.out (by kernel_rfl)) (fun _ _ _ h => h) (Or.inl ⟨by rfl, ?_⟩) ?_ ?_
                  rotate_left
                  · intro w'
                    go_simp
                    with_reducible rfl
                  rotate_left
                  · simp only [Act.put, List.setIfInBounds_toArray, List.set_cons_zero, List.set_cons_succ, i64_w, i32_w]
                    rfl
                  refine take_ (i := 3) (N := some 56) (v := ?_) (a' := ?_) #[true, true, true, true, true, true, true, false, false, false, false, false, false, false, false, false] rfl rfl (take_ofW HT_.out HW_.out (by kernel_rfl)) (fun _ _ _ h => h) (Or.inl ⟨by rfl, ?_⟩) hHeld ?_ ?_
                  rotate_left
                  · rintro w' ⟨s0, s1⟩
                    go_simp
                    with_reducible rfl
                  rotate_left
                  · simp only [Act.put, List.setIfInBounds_toArray, List.set_cons_zero, List.set_cons_succ, i64_w, i32_w]
                    rfl
                  refine one_ (i := 7) (N := some 60) #[true, true, true, true, true, true, true, true, false, false, false, false, false, false, false, false] rfl rfl (one_of HT_.out (by kernel_rfl)) (by decide) (fun K hK => ?_)
                  refine goes_ Try.func18 (by kernel_rfl) rfl #[.int .i64 a0, .int .i64 a1, .int .i64 a2] (by rfl) rfl rfl (by (try simp only [List.map_toArray, List.map_cons, List.map_nil]); first | done | rfl | (simp only [List.length_drop, List.length_take]; rfl)) ?_
                  with_reducible refine (fascineref14_New.calls kj7 a0 a1 a2 t179 t180 _ A28.out).mono ?_
                  rintro e w34 ⟨v181, rfl, ho0, hb⟩
                  refine ⟨_, rfl, ?_⟩
                  have n0_ := Aside0.mk (Kd.S_elder' (by (with_reducible repeat (first | apply Kd.S_alloc | apply Kd.S_drewN | apply Kd.S_drew)); exact HO_179001.out) (Kd.S_base ho0) hb)
                  have n1_ := Aside0.mk (Kd.S_lower (Kd.S_new' ho0 (Kd.S_lt (by (with_reducible repeat (first | apply Kd.S_alloc | apply Kd.S_drewN | apply Kd.S_drew)); exact HO_179001.out))) (below_size (by repeat (first | (with_reducible first | exact HB.out | apply below_alloc | apply pw_below_drewN | apply below_drew1 | refine below_set ?_ GE171.out | refine below_set ?_ GE178.out) | exact HB.out))))
                  have n2_ := Aside0.mk (blk_below (g := gb171) (o := .cells #[.int .i64 a3_0, .slice A3_1 l3_1.length c3_1] 24 (0, 0)) (by (with_reducible repeat (first | refine blk_drewN ?_ _ | refine blk_drew ?_ | refine blk_alloc ?_ _)); exact BK171.out) hb)
                  have n3_ := Aside0.mk (blk_below (g := gb178) (o := .cells #[.int .i64 t173, .slice Ao15 t174.length co15] 24 (0, 0)) (by (with_reducible repeat (first | refine blk_drewN ?_ _ | refine blk_drew ?_ | refine blk_alloc ?_ _)); exact BK178.out) hb)
                  have n4_ := Aside0.mk (below_step (by repeat (first | (with_reducible first | exact HB.out | apply below_alloc | apply pw_below_drewN | apply below_drew1 | refine below_set ?_ GE171.out | refine below_set ?_ GE178.out) | exact HB.out)) hb)
                  clear HO_179001
                  clear BK171
                  clear BK178
                  clear HB
                  have HO_179001 := n0_
                  have HO182 := n1_
                  have BK171 := n2_
                  have BK178 := n3_
                  have HB := n4_
                  clear n0_ n1_ n2_ n3_ n4_
                  (try clear hb)
                  (try clear hb2)
                  (try clear hk)
                  (try clear hi)
                  (try clear ho0)
                  obtain ⟨Ao35, co35, eo35⟩ := Kd.S_slice HO182.out
                  (first | subst eo35 | (injection eo35 with f1_ f2_ f3_; have f4_ := f1_.symm; have f5_ := f3_.symm; clear f1_ f2_ f3_; subst f4_; subst f5_))
                  refine hK.out _ _ ⟨(blk_cell BK178.out 0).trans rfl, (blk_cell BK178.out 1).trans rfl⟩ (fun hHeld => ?_)
                  clear hK K
                  refine norm_ (a' := ?_) ?_ ?_
                  rotate_left
                  · show Act.put _ (some 60) _ = _
                    simp only [Act.put, List.setIfInBounds_toArray, List.set_cons_zero, List.set_cons_succ, i64_w, i32_w]
                    rfl
                  refine one_ (i := 8) (N := some 61) #[true, true, true, true, true, true, true, true, true, false, false, false, false, false, false, false] rfl rfl (one_of HT_.out (by kernel_rfl)) (by decide) (fun K hK => ?_)
                  refine goes_ Try.func17 (by kernel_rfl) rfl #[.agg #[.int .i64 t173, .slice Ao15 t174.length co15], .agg #[.int .i64 t179, .slice Ao35 t180.length co35]] (by rfl) rfl rfl (by (try simp only [List.map_toArray, List.map_cons, List.map_nil]); first | done | rfl | (simp only [List.length_drop, List.length_take]; rfl)) ?_
                  with_reducible refine (fascineref14_Same.calls kj7 t173 _ _ t174 t179 _ _ t180 true _ ?side1 ?side2 ?side3 ?side4 A29.out).mono ?_
                  (case side1 => repeat (first | exact (Kd.S_reads' HO_179001.out).2.2 | (with_reducible refine Kd.C_alloc ?_ _) | (with_reducible refine Kd.C_drewN ?_ _) | (with_reducible refine Kd.C_drew ?_)))
                  (case side2 => exact (Kd.S_reads' HO_179001.out).2.1)
                  (case side3 => repeat (first | exact (Kd.S_reads' HO182.out).2.2 | (with_reducible refine Kd.C_alloc ?_ _) | (with_reducible refine Kd.C_drewN ?_ _) | (with_reducible refine Kd.C_drew ?_)))
                  (case side4 => exact (Kd.S_reads' HO182.out).2.1)
                  rintro e w36 ⟨rfl, hb⟩
                  refine ⟨_, rfl, ?_⟩
                  have n0_ := Aside0.mk (Kd.S_below (by (with_reducible repeat (first | apply Kd.S_alloc | apply Kd.S_drewN | apply Kd.S_drew)); exact HO_179001.out) hb)
                  have n1_ := Aside0.mk (Kd.S_below (by (with_reducible repeat (first | apply Kd.S_alloc | apply Kd.S_drewN | apply Kd.S_drew)); exact HO182.out) hb)
                  have n2_ := Aside0.mk (blk_below (g := gb171) (o := .cells #[.int .i64 a3_0, .slice A3_1 l3_1.length c3_1] 24 (0, 0)) (by (with_reducible repeat (first | refine blk_drewN ?_ _ | refine blk_drew ?_ | refine blk_alloc ?_ _)); exact BK171.out) hb)
                  have n3_ := Aside0.mk (blk_below (g := gb178) (o := .cells #[.int .i64 t173, .slice Ao15 t174.length co15] 24 (0, 0)) (by (with_reducible repeat (first | refine blk_drewN ?_ _ | refine blk_drew ?_ | refine blk_alloc ?_ _)); exact BK178.out) hb)
                  have n4_ := Aside0.mk (below_step (by repeat (first | (with_reducible first | exact HB.out | apply below_alloc | apply pw_below_drewN | apply below_drew1 | refine below_set ?_ GE171.out | refine below_set ?_ GE178.out) | exact HB.out)) hb)
                  clear HO_179001
                  clear HO182
                  clear BK171
                  clear BK178
                  clear HB
                  have HO_179001 := n0_
                  have HO182 := n1_
                  have BK171 := n2_
                  have BK178 := n3_
                  have HB := n4_
                  clear n0_ n1_ n2_ n3_ n4_
                  (try clear hb)
                  (try clear hb2)
                  (try clear hk)
                  (try clear hi)
                  refine hK.out _ _ ⟨(blk_cell BK178.out 0).trans rfl, (blk_cell BK178.out 1).trans rfl⟩ (fun hHeld => ?_)
                  clear hK K
                  refine norm_ (a' := ?_) ?_ ?_
                  rotate_left
                  · show Act.put _ (some 61) _ = _
                    simp only [Act.put, List.setIfInBounds_toArray, List.set_cons_zero, List.set_cons_succ, i64_w, i32_w]
                    rfl
                  refine pure_ (i := 9) (N := some 62) (v := ?_) (a' := ?_) #[true, true, true, true, true, true, true, true, true, true, false, false, false, false, false, false] rfl rfl (any_of HT_.out (by kernel_rfl)) (fun _ _ _ h => h) (Or.inl ⟨by rfl, ?_⟩) ?_ ?_
                  rotate_left
                  · intro w'
                    go_simp
                    with_reducible rfl
                  rotate_left
                  · simp only [Act.put, List.setIfInBounds_toArray, List.set_cons_zero, List.set_cons_succ, i64_w, i32_w]
                    rfl
                  refine pure_ (i := 10) (N := some 63) (v := ?_) (a' := ?_) #[true, true, true, true, true, true, true, true, true, true, true, false, false, false, false, false] rfl rfl (any_of HT_.out (by kernel_rfl)) (fun _ _ _ h => h) (Or.inl ⟨by rfl, ?_⟩) ?_ ?_
                  rotate_left
                  · intro w'
                    go_simp
                    with_reducible rfl
                  rotate_left
                  · simp only [Act.put, List.setIfInBounds_toArray, List.set_cons_zero, List.set_cons_succ, i64_w, i32_w]
                    rfl
                  refine pure_ (i := 11) (N := some 64) (v := ?_) (a' := ?_) #[true, true, true, true, true, true, true, true, true, true, true, true, false, false, false, false] rfl rfl (any_of HT_.out (by kernel_rfl)) (fun _ _ _ h => h) (Or.inl ⟨by rfl, ?_⟩) ?_ ?_
                  rotate_left
                  · intro w'
                    go_simp
                    with_reducible rfl
                  rotate_left
                  · simp only [Act.put, List.setIfInBounds_toArray, List.set_cons_zero, List.set_cons_succ, i64_w, i32_w]
                    rfl
                  refine take_ (i := 12) (N := some 65) (v := ?_) (a' := ?_) #[true, true, true, true, true, true, true, true, true, true, true, true, true, false, false, false] rfl rfl (take_ofW HT_.out HW_.out (by kernel_rfl)) (fun _ _ _ h => h) (Or.inl ⟨by rfl, ?_⟩) hHeld ?_ ?_
                  rotate_left
                  · rintro w' ⟨s0, s1⟩
                    go_simp
                    with_reducible rfl
                  rotate_left
                  · simp only [Act.put, List.setIfInBounds_toArray, List.set_cons_zero, List.set_cons_succ, i64_w, i32_w]
                    rfl
                  refine one_ (i := 13) (N := some 66) #[true, true, true, true, true, true, true, true, true, true, true, true, true, true, false, false] rfl rfl (one_of HT_.out (by kernel_rfl)) (by decide) (fun K hK => ?_)
                  refine goes_ Try.func19 (by kernel_rfl) rfl #[.agg #[.int .i64 t173, .slice Ao15 t174.length co15]] (by rfl) rfl rfl (by (try simp only [List.map_toArray, List.map_cons, List.map_nil]); first | done | rfl | (simp only [List.length_drop, List.length_take]; rfl)) ?_
                  with_reducible refine (meta_Form.calls kj7 t173 _ _ t174 true _ ?side1 ?side2 A31.out).mono ?_
                  (case side1 => repeat (first | exact (Kd.S_reads' HO_179001.out).2.2 | (with_reducible refine Kd.C_alloc ?_ _) | (with_reducible refine Kd.C_drewN ?_ _) | (with_reducible refine Kd.C_drew ?_)))
                  (case side2 => exact (Kd.S_reads' HO_179001.out).2.1)
                  rintro e w37 ⟨rfl, hb⟩
                  refine ⟨_, rfl, ?_⟩
                  have n0_ := Aside0.mk (Kd.S_below (by (with_reducible repeat (first | apply Kd.S_alloc | apply Kd.S_drewN | apply Kd.S_drew)); exact HO_179001.out) hb)
                  have n1_ := Aside0.mk (Kd.S_below (by (with_reducible repeat (first | apply Kd.S_alloc | apply Kd.S_drewN | apply Kd.S_drew)); exact HO182.out) hb)
                  have n2_ := Aside0.mk (blk_below (g := gb171) (o := .cells #[.int .i64 a3_0, .slice A3_1 l3_1.length c3_1] 24 (0, 0)) (by (with_reducible repeat (first | refine blk_drewN ?_ _ | refine blk_drew ?_ | refine blk_alloc ?_ _)); exact BK171.out) hb)
                  have n3_ := Aside0.mk (blk_below (g := gb178) (o := .cells #[.int .i64 t173, .slice Ao15 t174.length co15] 24 (0, 0)) (by (with_reducible repeat (first | refine blk_drewN ?_ _ | refine blk_drew ?_ | refine blk_alloc ?_ _)); exact BK178.out) hb)
                  have n4_ := Aside0.mk (below_step (by repeat (first | (with_reducible first | exact HB.out | apply below_alloc | apply pw_below_drewN | apply below_drew1 | refine below_set ?_ GE171.out | refine below_set ?_ GE178.out) | exact HB.out)) hb)
                  clear HO_179001
                  clear HO182
                  clear BK171
                  clear BK178
                  clear HB
                  have HO_179001 := n0_
                  have HO182 := n1_
                  have BK171 := n2_
                  have BK178 := n3_
                  have HB := n4_
                  clear n0_ n1_ n2_ n3_ n4_
                  (try clear hb)
                  (try clear hb2)
                  (try clear hk)
                  (try clear hi)
                  refine hK.out _ _ ⟨(blk_cell BK178.out 0).trans rfl, (blk_cell BK178.out 1).trans rfl⟩ (fun hHeld => ?_)
                  clear hK K
                  refine norm_ (a' := ?_) ?_ ?_
                  rotate_left
                  · show Act.put _ (some 66) _ = _
                    simp only [Act.put, List.setIfInBounds_toArray, List.set_cons_zero, List.set_cons_succ, i64_w, i32_w]
                    rfl
                  refine pure_ (i := 14) (N := some 67) (v := ?_) (a' := ?_) #[true, true, true, true, true, true, true, true, true, true, true, true, true, true, true, false] rfl rfl (any_of HT_.out (by kernel_rfl)) (fun _ _ _ h => h) (Or.inl ⟨by rfl, ?_⟩) ?_ ?_
                  rotate_left
                  · intro w'
                    go_simp
                    with_reducible rfl
                  rotate_left
                  · simp only [Act.put, List.setIfInBounds_toArray, List.set_cons_zero, List.set_cons_succ, i64_w, i32_w]
                    rfl
                  refine pure_ (i := 15) (N := some 68) (v := ?_) (a' := ?_) #[true, true, true, true, true, true, true, true, true, true, true, true, true, true, true, true] rfl rfl (any_of HT_.out (by kernel_rfl)) (fun _ _ _ h => h) (Or.inl ⟨by rfl, ?_⟩) ?_ ?_
                  rotate_left
                  · intro w'
                    go_simp
                    with_reducible rfl
                  rotate_left
                  · simp only [Act.put, List.setIfInBounds_toArray, List.set_cons_zero, List.set_cons_succ, i64_w, i32_w]
                    rfl
                  refine done_ (done_of HT_.out (by kernel_rfl)) ?_
                  try go_wp2
                  go_meet
                  case rel => exact ⟨_, H', ⟨by have := HJ7.out; first | omega | exact Nat.le_refl _⟩, ⟨by (with_reducible repeat (first | apply Kd.S_alloc | apply Kd.S_drewN | apply Kd.S_drew)); exact Kd.S_mono HO_179001.out (fun _ hk => trivial)⟩, ⟨by (with_reducible repeat (first | refine blk_drewN ?_ _ | refine blk_drew ?_ | refine blk_alloc ?_ _)); exact BK171.out⟩, ⟨by (with_reducible repeat (first | refine blk_drewN ?_ _ | refine blk_drew ?_ | refine blk_alloc ?_ _)); exact BK178.out⟩, ⟨by repeat (first | (with_reducible first | exact HB.out | apply below_alloc | apply pw_below_drewN | apply below_drew1 | refine below_set ?_ GE171.out | refine below_set ?_ GE178.out) | exact HB.out)⟩⟩
                · replace c32 := Bool.eq_false_iff.mpr c32
                  subst c32
                  have H1 : (some false) = some r := by rw [if_neg (show ¬ (false = true) by decide)] at H; exact H
                  clear H
                  have H := H1
                  clear H1
                  exact absurd (HR_.out.symm.trans (Option.some.inj H).symm) (by decide)
              · replace c30 := Bool.eq_false_iff.mpr c30
                subst c30
                have H1 : (some false) = some r := by rw [if_neg (show ¬ (false = true) by decide)] at H; exact H
                clear H
                have H := H1
                clear H1
                exact absurd (HR_.out.symm.trans (Option.some.inj H).symm) (by decide)
            · rw [if_neg c27] at H
              have c27b0 : (t177 == 0) = false := beq_eq_false_iff_ne.mpr c27
              have c27b1 : (t177 != 0) = true := bne_iff_ne.mpr c27
              exact absurd (HR_.out.symm.trans (Option.some.inj H).symm) (by decide)
        case rest =>
          clear HC21
          try clear c1
          try clear c2
          try clear p2
          try clear c3
          try clear c6
          try clear c13
          try clear c15
          try clear c16
          try clear c16b0
          try clear c17
          try clear c17b0
          try clear c18
          try clear c18b0
          try clear c19
          try clear c19b0
          try clear c20
          try clear c20b0
          try clear c22
          try clear c23
          try clear c23b0
          try clear c23b1
          try clear c24
          try clear c24b0
          try clear c24b1
          try clear c25
          try clear c27
          try clear c27b0
          try clear c27b1
          try clear c30
          try clear c32
          try clear hcz14_0
          try clear hcz14_1
          try clear hcz26_0
          try clear hcz26_1
          try clear hfz14_0
          try clear hfz14_1
          try clear hfz26_0
          try clear hfz26_1
          try clear p2
          obtain ⟨kq, HA, HJ20, HO_179001, BK171, BK178, HB⟩ := hcut
          cases kq with
          | zero => exact absurd HA.out (by simp [fascinelaw14_MetaNews.j1])
          | succ kj20 =>
            have H := HA.out
            clear HA
            simp only [fascinelaw14_MetaNews.j1] at H
            replace H := Option.bind_eq_some_iff.mp H
            obtain ⟨t185, A380, H⟩ := H
            replace H : ((fascineref14_Form.f kj20 a3_0 l3_1).bind fun t186 => (if (t185 == t186) = true then ((meta_Copy.f kj20 a3_0 l3_1).bind fun bt187 => ((fascineref14_Same.f kj20 bt187.1 bt187.2 a3_0 l3_1).bind fun t191 => (some t191))) else (some false))) = some r := H
            have A38 := Aside0.mk A380
            clear A380
            replace H := Option.bind_eq_some_iff.mp H
            obtain ⟨t186, A390, H⟩ := H
            replace H : (if (t185 == t186) = true then ((meta_Copy.f kj20 a3_0 l3_1).bind fun bt187 => ((fascineref14_Same.f kj20 bt187.1 bt187.2 a3_0 l3_1).bind fun t191 => (some t191))) else (some false)) = some r := H
            have A39 := Aside0.mk A390
            clear A390
            by_cases c40 : (t185 == t186) = true
            · rw [if_pos c40] at H
              have c40b0 : (t185 == t186) = true := c40
              (try (have c40b1 : decide (t185 = t186) = true := by simpa using c40))
              (try (have c40b2 : (t185 == t186) = true := by simpa using c40))
              clear c40
              replace H := Option.bind_eq_some_iff.mp H
              obtain ⟨⟨t187, t188⟩, A410, H⟩ := H
              replace H : ((fascineref14_Same.f kj20 t187 t188 a3_0 l3_1).bind fun t191 => (some t191)) = some r := H
              have A41 := Aside0.mk A410
              clear A410
              replace H := Option.bind_eq_some_iff.mp H
              obtain ⟨t191, A420, H⟩ := H
              replace H : (some t191) = some r := H
              have A42 := Aside0.mk A420
              clear A420
              obtain rfl := Option.some.inj H
              try go_wp2
              (try (rw [drewN_self wc]; generalize hq_ : World.drewN wc _ = wc; have n0_ : Aside0 (Kd.S k42 42 wc w.heap.size (fun _ => True) (.slice Ao15 t174.length co15) t174) := ⟨by rw [← hq_]; exact (by (with_reducible repeat (first | apply Kd.S_alloc | apply Kd.S_drewN | apply Kd.S_drew)); exact HO_179001.out)⟩; have n1_ : Aside0 (wc.heap[gb171]? = some (.cells #[.int .i64 a3_0, .slice A3_1 l3_1.length c3_1] 24 (0, 0))) := ⟨by rw [← hq_]; exact (by (with_reducible repeat (first | refine blk_drewN ?_ _ | refine blk_drew ?_ | refine blk_alloc ?_ _)); exact BK171.out)⟩; have n2_ : Aside0 (wc.heap[gb178]? = some (.cells #[.int .i64 t173, .slice Ao15 t174.length co15] 24 (0, 0))) := ⟨by rw [← hq_]; exact (by (with_reducible repeat (first | refine blk_drewN ?_ _ | refine blk_drew ?_ | refine blk_alloc ?_ _)); exact BK178.out)⟩; have n3_ : Aside0 (Below w.heap.size w wc) := ⟨by rw [← hq_]; exact (by repeat (first | (with_reducible first | exact HB.out | apply below_alloc | apply pw_below_drewN | apply below_drew1 | refine below_set ?_ GE171.out | refine below_set ?_ GE178.out) | exact HB.out))⟩; clear HO_179001 BK171 BK178 HB hq_; have HO_179001 := n0_; have BK171 := n1_; have BK178 := n2_; have HB := n3_; clear n0_ n1_ n2_ n3_))
              have n0_ := Aside0.mk (Kd.S_drew HO_179001.out)
              have n1_ := Aside0.mk (blk_drew BK171.out)
              have n2_ := Aside0.mk (blk_drew BK178.out)
              have n3_ := Aside0.mk (below_drew1 HB.out)
              clear HO_179001
              clear BK171
              clear BK178
              clear HB
              have HO_179001 := n0_
              have BK171 := n1_
              have BK178 := n2_
              have HB := n3_
              clear n0_ n1_ n2_ n3_
              refine start_ (n := 12) (S := fun w' => w'.cell? ⟨gb171, 0, none⟩ = some (.int .i64 a3_0) ∧ w'.cell? ⟨gb171, 1, none⟩ = some (.slice A3_1 l3_1.length c3_1)) (ds := []) #[false, false, false, false, false, false, false, false, false, false, false, false] (by kernel_rfl) rfl rfl ⟨(blk_cell BK171.out 0).trans rfl, (blk_cell BK171.out 1).trans rfl⟩ (fun hHeld => ?_); refine with_tabW fascinelaw14_MetaNews.tab9 fascinelaw14_MetaNews.bits9 (fun HT_ HW_ => ?_)
              generalize wc.drew = w43 at HO_179001 BK171 BK178 HB hHeld ⊢
              refine take_ (i := 0) (N := some 69) (v := ?_) (a' := ?_) #[true, false, false, false, false, false, false, false, false, false, false, false] rfl rfl (take_ofW HT_.out HW_.out (by kernel_rfl)) (fun _ _ _ h => h) (Or.inl ⟨by rfl, ?_⟩) hHeld ?_ ?_
              rotate_left
              · rintro w' ⟨s0, s1⟩
                go_simp
                with_reducible rfl
              rotate_left
              · simp only [Act.put, List.setIfInBounds_toArray, List.set_cons_zero, List.set_cons_succ, i64_w, i32_w]
                rfl
              refine take_ (i := 2) (N := some 71) (v := ?_) (a' := ?_) #[true, false, true, false, false, false, false, false, false, false, false, false] rfl rfl (take_ofW HT_.out HW_.out (by kernel_rfl)) (fun _ _ _ h => h) (Or.inl ⟨by rfl, ?_⟩) hHeld ?_ ?_
              rotate_left
              · rintro w' ⟨s0, s1⟩
                go_simp
                with_reducible rfl
              rotate_left
              · simp only [Act.put, List.setIfInBounds_toArray, List.set_cons_zero, List.set_cons_succ, i64_w, i32_w]
                rfl
              refine one_ (i := 1) (N := some 70) #[true, true, true, false, false, false, false, false, false, false, false, false] rfl rfl (one_of HT_.out (by kernel_rfl)) (by decide) (fun K hK => ?_)
              refine goes_ Try.func19 (by kernel_rfl) rfl #[.agg #[.int .i64 a3_0, .slice A3_1 l3_1.length c3_1]] (by rfl) rfl rfl (by (try simp only [List.map_toArray, List.map_cons, List.map_nil]); first | done | rfl | (simp only [List.length_drop, List.length_take]; rfl)) ?_
              with_reducible refine (meta_Form.calls kj20 a3_0 _ _ l3_1 t185 _ ?side1 ?side2 A38.out).mono ?_
              (case side1 => repeat (first | exact (Kd.C_below HR3_1.out HB.out) | (with_reducible refine Kd.C_alloc ?_ _) | (with_reducible refine Kd.C_drewN ?_ _) | (with_reducible refine Kd.C_drew ?_)))
              (case side2 => exact HC3_1.out)
              rintro e w44 ⟨rfl, hb⟩
              refine ⟨_, rfl, ?_⟩
              have n0_ := Aside0.mk (Kd.S_below (by (with_reducible repeat (first | apply Kd.S_alloc | apply Kd.S_drewN | apply Kd.S_drew)); exact HO_179001.out) hb)
              have n1_ := Aside0.mk (blk_below (g := gb171) (o := .cells #[.int .i64 a3_0, .slice A3_1 l3_1.length c3_1] 24 (0, 0)) (by (with_reducible repeat (first | refine blk_drewN ?_ _ | refine blk_drew ?_ | refine blk_alloc ?_ _)); exact BK171.out) hb)
              have n2_ := Aside0.mk (blk_below (g := gb178) (o := .cells #[.int .i64 t173, .slice Ao15 t174.length co15] 24 (0, 0)) (by (with_reducible repeat (first | refine blk_drewN ?_ _ | refine blk_drew ?_ | refine blk_alloc ?_ _)); exact BK178.out) hb)
              have n3_ := Aside0.mk (below_step (by repeat (first | (with_reducible first | exact HB.out | apply below_alloc | apply pw_below_drewN | apply below_drew1 | refine below_set ?_ GE171.out | refine below_set ?_ GE178.out) | exact HB.out)) hb)
              clear HO_179001
              clear BK171
              clear BK178
              clear HB
              have HO_179001 := n0_
              have BK171 := n1_
              have BK178 := n2_
              have HB := n3_
              clear n0_ n1_ n2_ n3_
              (try clear hb)
              (try clear hb2)
              (try clear hk)
              (try clear hi)
              refine hK.out _ _ ⟨(blk_cell BK171.out 0).trans rfl, (blk_cell BK171.out 1).trans rfl⟩ (fun hHeld => ?_)
              clear hK K
              refine norm_ (a' := ?_) ?_ ?_
              rotate_left
              · show Act.put _ (some 70) _ = _
                simp only [Act.put, List.setIfInBounds_toArray, List.set_cons_zero, List.set_cons_succ, i64_w, i32_w]
                rfl
              refine one_ (i := 3) (N := some 72) #[true, true, true, true, false, false, false, false, false, false, false, false] rfl rfl (one_of HT_.out (by kernel_rfl)) (by decide) (fun K hK => ?_)
              refine goes_ Try.func20 (by kernel_rfl) rfl #[.agg #[.int .i64 a3_0, .slice A3_1 l3_1.length c3_1]] (by rfl) rfl rfl (by (try simp only [List.map_toArray, List.map_cons, List.map_nil]); first | done | rfl | (simp only [List.length_drop, List.length_take]; rfl)) ?_
              with_reducible refine (fascineref14_Form.calls kj20 a3_0 _ _ l3_1 t186 _ ?side1 ?side2 A39.out).mono ?_
              (case side1 => repeat (first | exact (Kd.C_below HR3_1.out HB.out) | (with_reducible refine Kd.C_alloc ?_ _) | (with_reducible refine Kd.C_drewN ?_ _) | (with_reducible refine Kd.C_drew ?_)))
              (case side2 => exact HC3_1.out)
              rintro e w45 ⟨rfl, hb⟩
              refine ⟨_, rfl, ?_⟩
              have n0_ := Aside0.mk (Kd.S_below (by (with_reducible repeat (first | apply Kd.S_alloc | apply Kd.S_drewN | apply Kd.S_drew)); exact HO_179001.out) hb)
              have n1_ := Aside0.mk (blk_below (g := gb171) (o := .cells #[.int .i64 a3_0, .slice A3_1 l3_1.length c3_1] 24 (0, 0)) (by (with_reducible repeat (first | refine blk_drewN ?_ _ | refine blk_drew ?_ | refine blk_alloc ?_ _)); exact BK171.out) hb)
              have n2_ := Aside0.mk (blk_below (g := gb178) (o := .cells #[.int .i64 t173, .slice Ao15 t174.length co15] 24 (0, 0)) (by (with_reducible repeat (first | refine blk_drewN ?_ _ | refine blk_drew ?_ | refine blk_alloc ?_ _)); exact BK178.out) hb)
              have n3_ := Aside0.mk (below_step (by repeat (first | (with_reducible first | exact HB.out | apply below_alloc | apply pw_below_drewN | apply below_drew1 | refine below_set ?_ GE171.out | refine below_set ?_ GE178.out) | exact HB.out)) hb)
              clear HO_179001
              clear BK171
              clear BK178
              clear HB
              have HO_179001 := n0_
              have BK171 := n1_
              have BK178 := n2_
              have HB := n3_
              clear n0_ n1_ n2_ n3_
              (try clear hb)
              (try clear hb2)
              (try clear hk)
              (try clear hi)
              refine hK.out _ _ ⟨(blk_cell BK171.out 0).trans rfl, (blk_cell BK171.out 1).trans rfl⟩ (fun hHeld => ?_)
              clear hK K
              refine norm_ (a' := ?_) ?_ ?_
              rotate_left
              · show Act.put _ (some 72) _ = _
                simp only [Act.put, List.setIfInBounds_toArray, List.set_cons_zero, List.set_cons_succ, i64_w, i32_w]
                rfl
              refine pure_ (i := 4) (N := some 73) (v := ?_) (a' := ?_) #[true, true, true, true, true, false, false, false, false, false, false, false] rfl rfl (any_of HT_.out (by kernel_rfl)) (fun _ _ _ h => h) (Or.inl ⟨by rfl, ?_⟩) ?_ ?_
              rotate_left
              · intro w'
                go_simp
                with_reducible rfl
              rotate_left
              · simp only [Act.put, List.setIfInBounds_toArray, List.set_cons_zero, List.set_cons_succ, i64_w, i32_w]
                rfl
              refine pure_ (i := 5) (N := some 74) (v := ?_) (a' := ?_) #[true, true, true, true, true, true, false, false, false, false, false, false] rfl rfl (any_of HT_.out (by kernel_rfl)) (fun _ _ _ h => h) (Or.inl ⟨by rfl, ?_⟩) ?_ ?_
              rotate_left
              · intro w'
                go_simp
                with_reducible rfl
              rotate_left
              · simp only [Act.put, List.setIfInBounds_toArray, List.set_cons_zero, List.set_cons_succ, i64_w, i32_w]
                rfl
              refine take_ (i := 6) (N := some 75) (v := ?_) (a' := ?_) #[true, true, true, true, true, true, true, false, false, false, false, false] rfl rfl (take_ofW HT_.out HW_.out (by kernel_rfl)) (fun _ _ _ h => h) (Or.inl ⟨by rfl, ?_⟩) hHeld ?_ ?_
              rotate_left
              · rintro w' ⟨s0, s1⟩
                go_simp
                with_reducible rfl
              rotate_left
              · simp only [Act.put, List.setIfInBounds_toArray, List.set_cons_zero, List.set_cons_succ, i64_w, i32_w]
                rfl
              refine take_ (i := 8) (N := some 77) (v := ?_) (a' := ?_) #[true, true, true, true, true, true, true, false, true, false, false, false] rfl rfl (take_ofW HT_.out HW_.out (by kernel_rfl)) (fun _ _ _ h => h) (Or.inl ⟨by rfl, ?_⟩) hHeld ?_ ?_
              rotate_left
              · rintro w' ⟨s0, s1⟩
                go_simp
                with_reducible rfl
              rotate_left
              · simp only [Act.put, List.setIfInBounds_toArray, List.set_cons_zero, List.set_cons_succ, i64_w, i32_w]
                rfl
              refine one_ (i := 7) (N := some 76) #[true, true, true, true, true, true, true, true, true, false, false, false] rfl rfl (one_of HT_.out (by kernel_rfl)) (by decide) (fun K hK => ?_)
              refine goes_ Try.func21 (by kernel_rfl) rfl #[.agg #[.int .i64 a3_0, .slice A3_1 l3_1.length c3_1]] (by rfl) rfl rfl (by (try simp only [List.map_toArray, List.map_cons, List.map_nil]); first | done | rfl | (simp only [List.length_drop, List.length_take]; rfl)) ?_
              with_reducible refine (meta_Copy.calls kj20 a3_0 _ _ l3_1 t187 t188 _ ?side1 ?side2 A41.out).mono ?_
              (case side1 => repeat (first | exact (Kd.C_below HR3_1.out HB.out) | (with_reducible refine Kd.C_alloc ?_ _) | (with_reducible refine Kd.C_drewN ?_ _) | (with_reducible refine Kd.C_drew ?_)))
              (case side2 => exact HC3_1.out)
              rintro e w46 ⟨v189, rfl, ho0, hb⟩
              refine ⟨_, rfl, ?_⟩
              have n0_ := Aside0.mk (Kd.S_elder' (by (with_reducible repeat (first | apply Kd.S_alloc | apply Kd.S_drewN | apply Kd.S_drew)); exact HO_179001.out) (Kd.S_base ho0) hb)
              have n1_ := Aside0.mk (Kd.S_lower (Kd.S_new' ho0 (Kd.S_lt (by (with_reducible repeat (first | apply Kd.S_alloc | apply Kd.S_drewN | apply Kd.S_drew)); exact HO_179001.out))) (below_size (by repeat (first | (with_reducible first | exact HB.out | apply below_alloc | apply pw_below_drewN | apply below_drew1 | refine below_set ?_ GE171.out | refine below_set ?_ GE178.out) | exact HB.out))))
              have n2_ := Aside0.mk (blk_below (g := gb171) (o := .cells #[.int .i64 a3_0, .slice A3_1 l3_1.length c3_1] 24 (0, 0)) (by (with_reducible repeat (first | refine blk_drewN ?_ _ | refine blk_drew ?_ | refine blk_alloc ?_ _)); exact BK171.out) hb)
              have n3_ := Aside0.mk (blk_below (g := gb178) (o := .cells #[.int .i64 t173, .slice Ao15 t174.length co15] 24 (0, 0)) (by (with_reducible repeat (first | refine blk_drewN ?_ _ | refine blk_drew ?_ | refine blk_alloc ?_ _)); exact BK178.out) hb)
              have n4_ := Aside0.mk (below_step (by repeat (first | (with_reducible first | exact HB.out | apply below_alloc | apply pw_below_drewN | apply below_drew1 | refine below_set ?_ GE171.out | refine below_set ?_ GE178.out) | exact HB.out)) hb)
              clear HO_179001
              clear BK171
              clear BK178
              clear HB
              have HO_179001 := n0_
              have HO190 := n1_
              have BK171 := n2_
              have BK178 := n3_
              have HB := n4_
              clear n0_ n1_ n2_ n3_ n4_
              (try clear hb)
              (try clear hb2)
              (try clear hk)
              (try clear hi)
              (try clear ho0)
              obtain ⟨Ao47, co47, eo47⟩ := Kd.S_slice HO190.out
              (first | subst eo47 | (injection eo47 with f1_ f2_ f3_; have f4_ := f1_.symm; have f5_ := f3_.symm; clear f1_ f2_ f3_; subst f4_; subst f5_))
              refine hK.out _ _ ⟨(blk_cell BK171.out 0).trans rfl, (blk_cell BK171.out 1).trans rfl⟩ (fun hHeld => ?_)
              clear hK K
              refine norm_ (a' := ?_) ?_ ?_
              rotate_left
              · show Act.put _ (some 76) _ = _
                simp only [Act.put, List.setIfInBounds_toArray, List.set_cons_zero, List.set_cons_succ, i64_w, i32_w]
                rfl
              refine one_ (i := 9) (N := some 78) #[true, true, true, true, true, true, true, true, true, true, false, false] rfl rfl (one_of HT_.out (by kernel_rfl)) (by decide) (fun K hK => ?_)
              refine goes_ Try.func17 (by kernel_rfl) rfl #[.agg #[.int .i64 t187, .slice Ao47 t188.length co47], .agg #[.int .i64 a3_0, .slice A3_1 l3_1.length c3_1]] (by rfl) rfl rfl (by (try simp only [List.map_toArray, List.map_cons, List.map_nil]); first | done | rfl | (simp only [List.length_drop, List.length_take]; rfl)) ?_
              with_reducible refine (fascineref14_Same.calls kj20 t187 _ _ t188 a3_0 _ _ l3_1 t191 _ ?side1 ?side2 ?side3 ?side4 A42.out).mono ?_
              (case side1 => repeat (first | exact (Kd.S_reads' HO190.out).2.2 | (with_reducible refine Kd.C_alloc ?_ _) | (with_reducible refine Kd.C_drewN ?_ _) | (with_reducible refine Kd.C_drew ?_)))
              (case side2 => exact (Kd.S_reads' HO190.out).2.1)
              (case side3 => repeat (first | exact (Kd.C_below HR3_1.out HB.out) | (with_reducible refine Kd.C_alloc ?_ _) | (with_reducible refine Kd.C_drewN ?_ _) | (with_reducible refine Kd.C_drew ?_)))
              (case side4 => exact HC3_1.out)
              rintro e w48 ⟨rfl, hb⟩
              refine ⟨_, rfl, ?_⟩
              have n0_ := Aside0.mk (Kd.S_below (by (with_reducible repeat (first | apply Kd.S_alloc | apply Kd.S_drewN | apply Kd.S_drew)); exact HO_179001.out) hb)
              have n1_ := Aside0.mk (Kd.S_below (by (with_reducible repeat (first | apply Kd.S_alloc | apply Kd.S_drewN | apply Kd.S_drew)); exact HO190.out) hb)
              have n2_ := Aside0.mk (blk_below (g := gb171) (o := .cells #[.int .i64 a3_0, .slice A3_1 l3_1.length c3_1] 24 (0, 0)) (by (with_reducible repeat (first | refine blk_drewN ?_ _ | refine blk_drew ?_ | refine blk_alloc ?_ _)); exact BK171.out) hb)
              have n3_ := Aside0.mk (blk_below (g := gb178) (o := .cells #[.int .i64 t173, .slice Ao15 t174.length co15] 24 (0, 0)) (by (with_reducible repeat (first | refine blk_drewN ?_ _ | refine blk_drew ?_ | refine blk_alloc ?_ _)); exact BK178.out) hb)
              have n4_ := Aside0.mk (below_step (by repeat (first | (with_reducible first | exact HB.out | apply below_alloc | apply pw_below_drewN | apply below_drew1 | refine below_set ?_ GE171.out | refine below_set ?_ GE178.out) | exact HB.out)) hb)
              clear HO_179001
              clear HO190
              clear BK171
              clear BK178
              clear HB
              have HO_179001 := n0_
              have HO190 := n1_
              have BK171 := n2_
              have BK178 := n3_
              have HB := n4_
              clear n0_ n1_ n2_ n3_ n4_
              (try clear hb)
              (try clear hb2)
              (try clear hk)
              (try clear hi)
              refine hK.out _ _ ⟨(blk_cell BK171.out 0).trans rfl, (blk_cell BK171.out 1).trans rfl⟩ (fun hHeld => ?_)
              clear hK K
              refine norm_ (a' := ?_) ?_ ?_
              rotate_left
              · show Act.put _ (some 78) _ = _
                simp only [Act.put, List.setIfInBounds_toArray, List.set_cons_zero, List.set_cons_succ, i64_w, i32_w]
                rfl
              refine pure_ (i := 10) (N := some 79) (v := ?_) (a' := ?_) #[true, true, true, true, true, true, true, true, true, true, true, false] rfl rfl (any_of HT_.out (by kernel_rfl)) (fun _ _ _ h => h) (Or.inl ⟨by rfl, ?_⟩) ?_ ?_
              rotate_left
              · intro w'
                go_simp
                with_reducible rfl
              rotate_left
              · simp only [Act.put, List.setIfInBounds_toArray, List.set_cons_zero, List.set_cons_succ, i64_w, i32_w]
                rfl
              refine pure_ (i := 11) (N := some 8) (v := ?_) (a' := ?_) #[true, true, true, true, true, true, true, true, true, true, true, true] rfl rfl (any_of HT_.out (by kernel_rfl)) (fun _ _ _ h => h) (Or.inl ⟨by rfl, ?_⟩) ?_ ?_
              rotate_left
              · intro w'
                go_simp
                with_reducible rfl
              rotate_left
              · simp only [Act.put, List.setIfInBounds_toArray, List.set_cons_zero, List.set_cons_succ, i64_w, i32_w]
                rfl
              refine done_ (done_of HT_.out (by kernel_rfl)) ?_
              try go_wp2
              go_ret
              exact ⟨by first | rfl | (simp [errW_none, errW_some] <;> rfl) | (simp [*, errW_none, errW_some] <;> rfl), by repeat (first | (with_reducible first | exact HB.out | apply below_alloc | apply pw_below_drewN | apply below_drew1 | refine below_set ?_ GE171.out | refine below_set ?_ GE178.out) | exact HB.out)⟩
            · rw [if_neg c40] at H
              have c40b0 : (t185 == t186) = false := (by first | exact Bool.eq_false_iff.mpr c40 | simpa using c40)
              (try (have c40b1 : decide (t185 = t186) = false := by simpa using c40))
              (try (have c40b2 : (t185 == t186) = false := by simpa using c40))
              (try (have c40b3 : ¬ (t185 = t186) := by simpa using c40))
              clear c40
              exact absurd (HR_.out.symm.trans (Option.some.inj H).symm) (by decide)
  · replace c6 := Bool.eq_false_iff.mpr c6
    subst c6
    have H1 : (some false) = some r := by rw [if_neg (show ¬ (false = true) by decide)] at H; exact H
    clear H
    have H := H1
    clear H1
    exact absurd (HR_.out.symm.trans (Option.some.inj H).symm) (by decide)

end Go.Proofs.Ytkoaeiiaagipeaa.PMetaNews
