-- WRITTEN BY A PROGRAM OF THIS SESSION (wip/patch_print.py: the kit's printer with rules of this session's own); Lean checks it.
import Derived.Test.YtkoaeiiaagipeaaPMetaAppliesx0
namespace Go.Proofs.Ytkoaeiiaagipeaa.PMetaApplies
open Go.RowKit Go.Proofs.YtkoaeiiaagipeaaW.PrintWords Go.Proofs.YtkoaeiiaagipeaaW.PrintLast Go.Proofs.YtkoaeiiaagipeaaW.PrintMore
open Go.Proofs.Ytkoaeiiaagipeaa.G
attribute [local go_sem] max2_int min2_int max_two min_two max_three min_three max_four min_four   -- for this text's walks alone
set_option linter.unusedVariables false
set_option linter.unusedSimpArgs false

/-! ### fascineref14_Same: function 17 -/
mutual
def fascineref14_Same.j0 : Nat → Bool → Int → List (S42) → Int → List (S42) → Option (Bool)
  | 0, _, _, _, _, _ => none
  | k + 1, x22, x146000, x146001, x147000, x147001 => if x22 = true then (some false) else (fascineref14_Same.l0 k 0 x146000 x146001 x147000 x147001)
def fascineref14_Same.l0 : Nat → Int → Int → List (S42) → Int → List (S42) → Option (Bool)
  | 0, _, _, _, _, _ => none
  | k + 1, x5, x146000, x146001, x147000, x147001 => if x5 < (x146001.length : Int) then (if 0 ≤ x5 then (if x5 < (x147001.length : Int) then (if ((rd_T42 x146001 x5).f0) = ((rd_T42 x147001 x5).f0) then (if ((rd_T42 x146001 x5).f1) = ((rd_T42 x147001 x5).f1) then (if ((rd_T42 x146001 x5).f2) = ((rd_T42 x147001 x5).f2) then (fascineref14_Same.j2 k x5 ((((rd_T42 x146001 x5).f3).length : Int) != (((rd_T42 x147001 x5).f3).length : Int)) x146000 x146001 x147000 x147001 ((rd_T42 x146001 x5).f0) ((rd_T42 x146001 x5).f1) ((rd_T42 x146001 x5).f2) ((rd_T42 x146001 x5).f3) ((rd_T42 x147001 x5).f0) ((rd_T42 x147001 x5).f1) ((rd_T42 x147001 x5).f2) ((rd_T42 x147001 x5).f3)) else (fascineref14_Same.j2 k x5 true x146000 x146001 x147000 x147001 ((rd_T42 x146001 x5).f0) ((rd_T42 x146001 x5).f1) ((rd_T42 x146001 x5).f2) ((rd_T42 x146001 x5).f3) ((rd_T42 x147001 x5).f0) ((rd_T42 x147001 x5).f1) ((rd_T42 x147001 x5).f2) ((rd_T42 x147001 x5).f3))) else (fascineref14_Same.j2 k x5 true x146000 x146001 x147000 x147001 ((rd_T42 x146001 x5).f0) ((rd_T42 x146001 x5).f1) ((rd_T42 x146001 x5).f2) ((rd_T42 x146001 x5).f3) ((rd_T42 x147001 x5).f0) ((rd_T42 x147001 x5).f1) ((rd_T42 x147001 x5).f2) ((rd_T42 x147001 x5).f3))) else (fascineref14_Same.j2 k x5 true x146000 x146001 x147000 x147001 ((rd_T42 x146001 x5).f0) ((rd_T42 x146001 x5).f1) ((rd_T42 x146001 x5).f2) ((rd_T42 x146001 x5).f3) ((rd_T42 x147001 x5).f0) ((rd_T42 x147001 x5).f1) ((rd_T42 x147001 x5).f2) ((rd_T42 x147001 x5).f3))) else (none)) else (none)) else (some true)
def fascineref14_Same.j2 : Nat → Int → Bool → Int → List (S42) → Int → List (S42) → Int → Int → Int → List Int → Int → Int → Int → List Int → Option (Bool)
  | 0, _, _, _, _, _, _, _, _, _, _, _, _, _, _ => none
  | k + 1, x5, x67, x146000, x146001, x147000, x147001, x149000, x149001, x149002, x149003, x151000, x151001, x151002, x151003 => if x67 = true then (some false) else (fascineref14_Same.l1 k x5 0 x146000 x146001 x147000 x147001 x149000 x149001 x149002 x149003 x151000 x151001 x151002 x151003)
def fascineref14_Same.l1 : Nat → Int → Int → Int → List (S42) → Int → List (S42) → Int → Int → Int → List Int → Int → Int → Int → List Int → Option (Bool)
  | 0, _, _, _, _, _, _, _, _, _, _, _, _, _, _ => none
  | k + 1, x5, x8, x146000, x146001, x147000, x147001, x149000, x149001, x149002, x149003, x151000, x151001, x151002, x151003 => if x8 < (x149003.length : Int) then (if 0 ≤ x8 then (if x8 < (x151003.length : Int) then (if (rd x149003 x8) = (rd x151003 x8) then (fascineref14_Same.l1 k x5 (wrap64 (x8 + 1)) x146000 x146001 x147000 x147001 x149000 x149001 x149002 x149003 x151000 x151001 x151002 x151003) else (some false)) else (none)) else (none)) else (fascineref14_Same.l0 k (wrap64 (x5 + 1)) x146000 x146001 x147000 x147001)
end
def fascineref14_Same.f (k : Nat) (a0_0 : Int) (l0_1 : List (S42)) (a1_0 : Int) (l1_1 : List (S42)) : Option (Bool) := if a0_0 = a1_0 then (fascineref14_Same.j0 k ((l0_1.length : Int) != (l1_1.length : Int)) a0_0 l0_1 a1_0 l1_1) else (fascineref14_Same.j0 k true a0_0 l0_1 a1_0 l1_1)
theorem fascineref14_Same.mono_l : ∀ k, (∀ y0 y1 y2 y3 y4, LeO (fascineref14_Same.j0 k y0 y1 y2 y3 y4) (fascineref14_Same.j0 (k + 1) y0 y1 y2 y3 y4)) ∧ (∀ y0 y1 y2 y3 y4, LeO (fascineref14_Same.l0 k y0 y1 y2 y3 y4) (fascineref14_Same.l0 (k + 1) y0 y1 y2 y3 y4)) ∧ (∀ y0 y1 y2 y3 y4 y5 y6 y7 y8 y9 y10 y11 y12 y13, LeO (fascineref14_Same.j2 k y0 y1 y2 y3 y4 y5 y6 y7 y8 y9 y10 y11 y12 y13) (fascineref14_Same.j2 (k + 1) y0 y1 y2 y3 y4 y5 y6 y7 y8 y9 y10 y11 y12 y13)) ∧ (∀ y0 y1 y2 y3 y4 y5 y6 y7 y8 y9 y10 y11 y12 y13, LeO (fascineref14_Same.l1 k y0 y1 y2 y3 y4 y5 y6 y7 y8 y9 y10 y11 y12 y13) (fascineref14_Same.l1 (k + 1) y0 y1 y2 y3 y4 y5 y6 y7 y8 y9 y10 y11 y12 y13))
  | 0 => ⟨fun _ _ _ _ _ r h => by simp [fascineref14_Same.j0] at h, fun _ _ _ _ _ r h => by simp [fascineref14_Same.l0] at h, fun _ _ _ _ _ _ _ _ _ _ _ _ _ _ r h => by simp [fascineref14_Same.j2] at h, fun _ _ _ _ _ _ _ _ _ _ _ _ _ _ r h => by simp [fascineref14_Same.l1] at h⟩
  | k + 1 => by
    obtain ⟨ih0, ih1, ih2, ih3⟩ := fascineref14_Same.mono_l k
    refine ⟨?_, ?_, ?_, ?_⟩
    · intro y0 y1 y2 y3 y4
      unfold fascineref14_Same.j0
      repeat' first
      | (with_reducible exact ih0 _ _ _ _ _)
      | (with_reducible exact ih1 _ _ _ _ _)
      | (with_reducible exact ih2 _ _ _ _ _ _ _ _ _ _ _ _ _ _)
      | (with_reducible exact ih3 _ _ _ _ _ _ _ _ _ _ _ _ _ _)
      | (with_reducible exact LeO.refl _)
      | (with_reducible exact LeO.none _)
      | (with_reducible refine LeO.ite ?_ ?_)
      | (with_reducible refine LeO.bind ?_ (fun _ => ?_))
      | exact ih0 _ _ _ _ _
      | exact ih1 _ _ _ _ _
      | exact ih2 _ _ _ _ _ _ _ _ _ _ _ _ _ _
      | exact ih3 _ _ _ _ _ _ _ _ _ _ _ _ _ _
      | exact LeO.none _
      | refine LeO.ite ?_ ?_
      | refine LeO.bind ?_ (fun _ => ?_)
    · intro y0 y1 y2 y3 y4
      unfold fascineref14_Same.l0
      repeat' first
      | (with_reducible exact ih0 _ _ _ _ _)
      | (with_reducible exact ih1 _ _ _ _ _)
      | (with_reducible exact ih2 _ _ _ _ _ _ _ _ _ _ _ _ _ _)
      | (with_reducible exact ih3 _ _ _ _ _ _ _ _ _ _ _ _ _ _)
      | (with_reducible exact LeO.refl _)
      | (with_reducible exact LeO.none _)
      | (with_reducible refine LeO.ite ?_ ?_)
      | (with_reducible refine LeO.bind ?_ (fun _ => ?_))
      | exact ih0 _ _ _ _ _
      | exact ih1 _ _ _ _ _
      | exact ih2 _ _ _ _ _ _ _ _ _ _ _ _ _ _
      | exact ih3 _ _ _ _ _ _ _ _ _ _ _ _ _ _
      | exact LeO.none _
      | refine LeO.ite ?_ ?_
      | refine LeO.bind ?_ (fun _ => ?_)
    · intro y0 y1 y2 y3 y4 y5 y6 y7 y8 y9 y10 y11 y12 y13
      unfold fascineref14_Same.j2
      repeat' first
      | (with_reducible exact ih0 _ _ _ _ _)
      | (with_reducible exact ih1 _ _ _ _ _)
      | (with_reducible exact ih2 _ _ _ _ _ _ _ _ _ _ _ _ _ _)
      | (with_reducible exact ih3 _ _ _ _ _ _ _ _ _ _ _ _ _ _)
      | (with_reducible exact LeO.refl _)
      | (with_reducible exact LeO.none _)
      | (with_reducible refine LeO.ite ?_ ?_)
      | (with_reducible refine LeO.bind ?_ (fun _ => ?_))
      | exact ih0 _ _ _ _ _
      | exact ih1 _ _ _ _ _
      | exact ih2 _ _ _ _ _ _ _ _ _ _ _ _ _ _
      | exact ih3 _ _ _ _ _ _ _ _ _ _ _ _ _ _
      | exact LeO.none _
      | refine LeO.ite ?_ ?_
      | refine LeO.bind ?_ (fun _ => ?_)
    · intro y0 y1 y2 y3 y4 y5 y6 y7 y8 y9 y10 y11 y12 y13
      unfold fascineref14_Same.l1
      repeat' first
      | (with_reducible exact ih0 _ _ _ _ _)
      | (with_reducible exact ih1 _ _ _ _ _)
      | (with_reducible exact ih2 _ _ _ _ _ _ _ _ _ _ _ _ _ _)
      | (with_reducible exact ih3 _ _ _ _ _ _ _ _ _ _ _ _ _ _)
      | (with_reducible exact LeO.refl _)
      | (with_reducible exact LeO.none _)
      | (with_reducible refine LeO.ite ?_ ?_)
      | (with_reducible refine LeO.bind ?_ (fun _ => ?_))
      | exact ih0 _ _ _ _ _
      | exact ih1 _ _ _ _ _
      | exact ih2 _ _ _ _ _ _ _ _ _ _ _ _ _ _
      | exact ih3 _ _ _ _ _ _ _ _ _ _ _ _ _ _
      | exact LeO.none _
      | refine LeO.ite ?_ ?_
      | refine LeO.bind ?_ (fun _ => ?_)
theorem fascineref14_Same.mono : ∀ a0 a1 a2 a3 k, LeO (fascineref14_Same.f k a0 a1 a2 a3) (fascineref14_Same.f (k + 1) a0 a1 a2 a3) := by
  intro a0 a1 a2 a3 k
  obtain ⟨ih0, ih1, ih2, ih3⟩ := fascineref14_Same.mono_l k
  unfold fascineref14_Same.f
  repeat' first
      | (with_reducible exact ih0 _ _ _ _ _)
      | (with_reducible exact ih1 _ _ _ _ _)
      | (with_reducible exact ih2 _ _ _ _ _ _ _ _ _ _ _ _ _ _)
      | (with_reducible exact ih3 _ _ _ _ _ _ _ _ _ _ _ _ _ _)
      | (with_reducible exact LeO.refl _)
      | (with_reducible exact LeO.none _)
      | (with_reducible refine LeO.ite ?_ ?_)
      | (with_reducible refine LeO.bind ?_ (fun _ => ?_))
      | exact ih0 _ _ _ _ _
      | exact ih1 _ _ _ _ _
      | exact ih2 _ _ _ _ _ _ _ _ _ _ _ _ _ _
      | exact ih3 _ _ _ _ _ _ _ _ _ _ _ _ _ _
      | exact LeO.none _
      | refine LeO.ite ?_ ?_
      | refine LeO.bind ?_ (fun _ => ?_)
set_option maxHeartbeats 8000000 in
set_option maxRecDepth 100000 in
theorem fascineref14_Same.calls (k : Nat) (a0_0 : Int) (A0_1 : Option Addr) (c0_1 : Nat) (l0_1 : List (S42)) (a1_0 : Int) (A1_1 : Option Addr) (c1_1 : Nat) (l1_1 : List (S42)) (r : Bool) (w : World) (hr0_1 : Kd.C k42 w A0_1 l0_1.length l0_1) (hc0_1 : l0_1.length ≤ c0_1) (hr1_1 : Kd.C k42 w A1_1 l1_1.length l1_1) (hc1_1 : l1_1.length ≤ c1_1) (h : fascineref14_Same.f k a0_0 l0_1 a1_0 l1_1 = some r) :
    Calls Try.prog 17 #[.agg #[.int .i64 a0_0, .slice A0_1 l0_1.length c0_1], .agg #[.int .i64 a1_0, .slice A1_1 l1_1.length c1_1]] w fun e w' => e = .returned (.bool r) ∧ Below w.heap.size w w' := by
  have hu24 := Try.underlying24
  have hu42 := Try.underlying42
  have HR0_1 := Aside0.mk hr0_1
  have HC0_1 := Aside0.mk hc0_1
  clear hr0_1 hc0_1
  have HR1_1 := Aside0.mk hr1_1
  have HC1_1 := Aside0.mk hc1_1
  clear hr1_1 hc1_1
  have HB := Aside0.mk (Below.refl w.heap.size w)
  have H : (if a0_0 = a1_0 then (fascineref14_Same.j0 k ((l0_1.length : Int) != (l1_1.length : Int)) a0_0 l0_1 a1_0 l1_1) else (fascineref14_Same.j0 k true a0_0 l0_1 a1_0 l1_1)) = some r := h
  clear h
  have HC3 := Aside0.mk H
  clear H
  go_enter Try.func17, Try.ntmps17
  go_upto_region 1 with (first | ((with_reducible refine gate_dst (N := 2) rfl ?_); (try (refine gate_guard (by rfl) ?_; dsimp only)); refine box_event ?hg (N := 2) ?hd (cs := #[.int .i64 a0_0, .slice A0_1 l0_1.length c0_1]) (t := 24) ?hr ?_; (case hd => rfl); (case hg => rfl); (case hr => first | (go_simp; done) | (go_simp; rfl)); intro gb145 hg w4 hbox hb; have n0_ := Aside0.mk (below_step (by repeat (first | (with_reducible first | exact HB.out | apply below_alloc | apply pw_below_drewN | apply below_drew1) | exact HB.out)) hb); have n1_ := Aside0.mk (hbox); have n2_ := Aside0.mk ((by rw [hg]; exact (below_size (by repeat (first | (with_reducible first | exact HB.out | apply below_alloc | apply pw_below_drewN | apply below_drew1) | exact HB.out))) : w.heap.size ≤ gb145)); have n3_ := Aside0.mk ((by rw [hg]; exact (below_size (by repeat (first | (with_reducible first | exact HB.out | apply below_alloc | apply pw_below_drewN | apply below_drew1) | exact HB.out))) : w.heap.size ≤ gb145)); clear HB; have HB := n0_; have BK145 := n1_; have GW145 := n2_; have GE145 := n3_; clear n0_ n1_ n2_ n3_; clear hb hbox hg) | ((with_reducible refine gate_dst (N := 3) rfl ?_); (try (refine gate_guard (by rfl) ?_; dsimp only)); refine box_event ?hg (N := 3) ?hd (cs := #[.int .i64 a1_0, .slice A1_1 l1_1.length c1_1]) (t := 24) ?hr ?_; (case hd => rfl); (case hg => rfl); (case hr => first | (go_simp; done) | (go_simp; rfl)); intro gb146 hg w5 hbox hb; have n0_ := Aside0.mk (blk_below (g := gb145) (o := .cells #[.int .i64 a0_0, .slice A0_1 l0_1.length c0_1] 24 (0, 0)) (by (with_reducible repeat (first | refine blk_drewN ?_ _ | refine blk_drew ?_ | refine blk_alloc ?_ _)); exact BK145.out) hb); have n1_ := Aside0.mk (below_step (by repeat (first | (with_reducible first | exact HB.out | apply below_alloc | apply pw_below_drewN | apply below_drew1 | refine below_set ?_ GE145.out) | exact HB.out)) hb); have n2_ := Aside0.mk (hbox); have n3_ := Aside0.mk ((by rw [hg]; exact (below_size (by repeat (first | (with_reducible first | exact HB.out | apply below_alloc | apply pw_below_drewN | apply below_drew1 | refine below_set ?_ GE145.out) | exact HB.out))) : w.heap.size ≤ gb146)); have n4_ := Aside0.mk ((by rw [hg]; exact (below_size (by repeat (first | (with_reducible first | exact HB.out | apply below_alloc | apply pw_below_drewN | apply below_drew1 | refine below_set ?_ GE145.out) | exact HB.out))) : w.heap.size ≤ gb146)); have n5_ := Aside0.mk ((by rw [hg]; exact Nat.ne_of_lt (blk_lt (g := gb145) (o := .cells #[.int .i64 a0_0, .slice A0_1 l0_1.length c0_1] 24 (0, 0)) (by (with_reducible repeat (first | refine blk_drewN ?_ _ | refine blk_drew ?_ | refine blk_alloc ?_ _)); exact BK145.out)) : gb145 ≠ gb146)); have n6_ := Aside0.mk ((by rw [hg]; exact Nat.ne_of_gt (blk_lt (g := gb145) (o := .cells #[.int .i64 a0_0, .slice A0_1 l0_1.length c0_1] 24 (0, 0)) (by (with_reducible repeat (first | refine blk_drewN ?_ _ | refine blk_drew ?_ | refine blk_alloc ?_ _)); exact BK145.out)) : gb146 ≠ gb145)); clear BK145; clear HB; have BK145 := n0_; have HB := n1_; have BK146 := n2_; have GW146 := n3_; have GE146 := n4_; have NB145_146 := n5_; have NB146_145 := n6_; clear n0_ n1_ n2_ n3_ n4_ n5_ n6_; clear hb hbox hg))
  repeat (go_quiet (first | ((with_reducible refine gate_dst (N := 2) rfl ?_); (try (refine gate_guard (by rfl) ?_; dsimp only)); refine box_event ?hg (N := 2) ?hd (cs := #[.int .i64 a0_0, .slice A0_1 l0_1.length c0_1]) (t := 24) ?hr ?_; (case hd => rfl); (case hg => rfl); (case hr => first | (go_simp; done) | (go_simp; rfl)); intro gb145 hg w4 hbox hb; have n0_ := Aside0.mk (below_step (by repeat (first | (with_reducible first | exact HB.out | apply below_alloc | apply pw_below_drewN | apply below_drew1) | exact HB.out)) hb); have n1_ := Aside0.mk (hbox); have n2_ := Aside0.mk ((by rw [hg]; exact (below_size (by repeat (first | (with_reducible first | exact HB.out | apply below_alloc | apply pw_below_drewN | apply below_drew1) | exact HB.out))) : w.heap.size ≤ gb145)); have n3_ := Aside0.mk ((by rw [hg]; exact (below_size (by repeat (first | (with_reducible first | exact HB.out | apply below_alloc | apply pw_below_drewN | apply below_drew1) | exact HB.out))) : w.heap.size ≤ gb145)); clear HB; have HB := n0_; have BK145 := n1_; have GW145 := n2_; have GE145 := n3_; clear n0_ n1_ n2_ n3_; clear hb hbox hg) | ((with_reducible refine gate_dst (N := 3) rfl ?_); (try (refine gate_guard (by rfl) ?_; dsimp only)); refine box_event ?hg (N := 3) ?hd (cs := #[.int .i64 a1_0, .slice A1_1 l1_1.length c1_1]) (t := 24) ?hr ?_; (case hd => rfl); (case hg => rfl); (case hr => first | (go_simp; done) | (go_simp; rfl)); intro gb146 hg w5 hbox hb; have n0_ := Aside0.mk (blk_below (g := gb145) (o := .cells #[.int .i64 a0_0, .slice A0_1 l0_1.length c0_1] 24 (0, 0)) (by (with_reducible repeat (first | refine blk_drewN ?_ _ | refine blk_drew ?_ | refine blk_alloc ?_ _)); exact BK145.out) hb); have n1_ := Aside0.mk (below_step (by repeat (first | (with_reducible first | exact HB.out | apply below_alloc | apply pw_below_drewN | apply below_drew1 | refine below_set ?_ GE145.out) | exact HB.out)) hb); have n2_ := Aside0.mk (hbox); have n3_ := Aside0.mk ((by rw [hg]; exact (below_size (by repeat (first | (with_reducible first | exact HB.out | apply below_alloc | apply pw_below_drewN | apply below_drew1 | refine below_set ?_ GE145.out) | exact HB.out))) : w.heap.size ≤ gb146)); have n4_ := Aside0.mk ((by rw [hg]; exact (below_size (by repeat (first | (with_reducible first | exact HB.out | apply below_alloc | apply pw_below_drewN | apply below_drew1 | refine below_set ?_ GE145.out) | exact HB.out))) : w.heap.size ≤ gb146)); have n5_ := Aside0.mk ((by rw [hg]; exact Nat.ne_of_lt (blk_lt (g := gb145) (o := .cells #[.int .i64 a0_0, .slice A0_1 l0_1.length c0_1] 24 (0, 0)) (by (with_reducible repeat (first | refine blk_drewN ?_ _ | refine blk_drew ?_ | refine blk_alloc ?_ _)); exact BK145.out)) : gb145 ≠ gb146)); have n6_ := Aside0.mk ((by rw [hg]; exact Nat.ne_of_gt (blk_lt (g := gb145) (o := .cells #[.int .i64 a0_0, .slice A0_1 l0_1.length c0_1] 24 (0, 0)) (by (with_reducible repeat (first | refine blk_drewN ?_ _ | refine blk_drew ?_ | refine blk_alloc ?_ _)); exact BK145.out)) : gb146 ≠ gb145)); clear BK145; clear HB; have BK145 := n0_; have HB := n1_; have BK146 := n2_; have GW146 := n3_; have GE146 := n4_; have NB145_146 := n5_; have NB146_145 := n6_; clear n0_ n1_ n2_ n3_ n4_ n5_ n6_; clear hb hbox hg)); go_upto_region 1 with (first | ((with_reducible refine gate_dst (N := 2) rfl ?_); (try (refine gate_guard (by rfl) ?_; dsimp only)); refine box_event ?hg (N := 2) ?hd (cs := #[.int .i64 a0_0, .slice A0_1 l0_1.length c0_1]) (t := 24) ?hr ?_; (case hd => rfl); (case hg => rfl); (case hr => first | (go_simp; done) | (go_simp; rfl)); intro gb145 hg w4 hbox hb; have n0_ := Aside0.mk (below_step (by repeat (first | (with_reducible first | exact HB.out | apply below_alloc | apply pw_below_drewN | apply below_drew1) | exact HB.out)) hb); have n1_ := Aside0.mk (hbox); have n2_ := Aside0.mk ((by rw [hg]; exact (below_size (by repeat (first | (with_reducible first | exact HB.out | apply below_alloc | apply pw_below_drewN | apply below_drew1) | exact HB.out))) : w.heap.size ≤ gb145)); have n3_ := Aside0.mk ((by rw [hg]; exact (below_size (by repeat (first | (with_reducible first | exact HB.out | apply below_alloc | apply pw_below_drewN | apply below_drew1) | exact HB.out))) : w.heap.size ≤ gb145)); clear HB; have HB := n0_; have BK145 := n1_; have GW145 := n2_; have GE145 := n3_; clear n0_ n1_ n2_ n3_; clear hb hbox hg) | ((with_reducible refine gate_dst (N := 3) rfl ?_); (try (refine gate_guard (by rfl) ?_; dsimp only)); refine box_event ?hg (N := 3) ?hd (cs := #[.int .i64 a1_0, .slice A1_1 l1_1.length c1_1]) (t := 24) ?hr ?_; (case hd => rfl); (case hg => rfl); (case hr => first | (go_simp; done) | (go_simp; rfl)); intro gb146 hg w5 hbox hb; have n0_ := Aside0.mk (blk_below (g := gb145) (o := .cells #[.int .i64 a0_0, .slice A0_1 l0_1.length c0_1] 24 (0, 0)) (by (with_reducible repeat (first | refine blk_drewN ?_ _ | refine blk_drew ?_ | refine blk_alloc ?_ _)); exact BK145.out) hb); have n1_ := Aside0.mk (below_step (by repeat (first | (with_reducible first | exact HB.out | apply below_alloc | apply pw_below_drewN | apply below_drew1 | refine below_set ?_ GE145.out) | exact HB.out)) hb); have n2_ := Aside0.mk (hbox); have n3_ := Aside0.mk ((by rw [hg]; exact (below_size (by repeat (first | (with_reducible first | exact HB.out | apply below_alloc | apply pw_below_drewN | apply below_drew1 | refine below_set ?_ GE145.out) | exact HB.out))) : w.heap.size ≤ gb146)); have n4_ := Aside0.mk ((by rw [hg]; exact (below_size (by repeat (first | (with_reducible first | exact HB.out | apply below_alloc | apply pw_below_drewN | apply below_drew1 | refine below_set ?_ GE145.out) | exact HB.out))) : w.heap.size ≤ gb146)); have n5_ := Aside0.mk ((by rw [hg]; exact Nat.ne_of_lt (blk_lt (g := gb145) (o := .cells #[.int .i64 a0_0, .slice A0_1 l0_1.length c0_1] 24 (0, 0)) (by (with_reducible repeat (first | refine blk_drewN ?_ _ | refine blk_drew ?_ | refine blk_alloc ?_ _)); exact BK145.out)) : gb145 ≠ gb146)); have n6_ := Aside0.mk ((by rw [hg]; exact Nat.ne_of_gt (blk_lt (g := gb145) (o := .cells #[.int .i64 a0_0, .slice A0_1 l0_1.length c0_1] 24 (0, 0)) (by (with_reducible repeat (first | refine blk_drewN ?_ _ | refine blk_drew ?_ | refine blk_alloc ?_ _)); exact BK145.out)) : gb146 ≠ gb145)); clear BK145; clear HB; have BK145 := n0_; have HB := n1_; have BK146 := n2_; have GW146 := n3_; have GE146 := n4_; have NB145_146 := n5_; have NB146_145 := n6_; clear n0_ n1_ n2_ n3_ n4_ n5_ n6_; clear hb hbox hg)))
  (try simp only [Act.put, List.setIfInBounds_toArray, List.set_cons_zero, List.set_cons_succ])
  go_cut [22] (fun v22 wc => ∃ (kq : Nat) (x22_2 : Bool), v22 = .bool x22_2 ∧ Aside0 (fascineref14_Same.j0 kq x22_2 a0_0 l0_1 a1_0 l1_1 = some r) ∧ Aside0 (kq ≤ k) ∧ Aside0 (wc.heap[gb145]? = some (.cells #[.int .i64 a0_0, (.slice A0_1 l0_1.length c0_1)] 24 (0, 0))) ∧ Aside0 (wc.heap[gb146]? = some (.cells #[.int .i64 a1_0, (.slice A1_1 l1_1.length c1_1)] 24 (0, 0))) ∧ Aside0 (Below w.heap.size w wc))
  case first =>
    have H := HC3.out
    clear HC3
    by_cases c6 : a0_0 = a1_0
    · rw [if_pos c6] at H
      have c6b0 : (a0_0 == a1_0) = true := beq_iff_eq.mpr c6
      have c6b1 : (a0_0 != a1_0) = false := bne_eq_false_iff_eq.mpr c6
      clear c6
      (first | rw [c6b0] | (simp only [i64_w, i32_w]; rw [c6b0]) | skip)
      have H' := Aside0.mk H
      clear H
      have hnb7 := NB145_146.out
      have hnc7 := NB146_145.out
      have hcz8_0 : w5.cell? ⟨gb145, 0, none⟩ = some (.int .i64 a0_0) := (blk_cell BK145.out 0).trans rfl
      have hcz8_1 : w5.cell? ⟨gb145, 1, none⟩ = some (.slice A0_1 l0_1.length c0_1) := (blk_cell BK145.out 1).trans rfl
      have hfz8_0 := blk_frozen BK145.out 0
      have hfz8_1 := blk_frozen BK145.out 1
      have hcz9_0 : w5.cell? ⟨gb146, 0, none⟩ = some (.int .i64 a1_0) := (blk_cell BK146.out 0).trans rfl
      have hcz9_1 : w5.cell? ⟨gb146, 1, none⟩ = some (.slice A1_1 l1_1.length c1_1) := (blk_cell BK146.out 1).trans rfl
      have hfz9_0 := blk_frozen BK146.out 0
      have hfz9_1 := blk_frozen BK146.out 1
      go_wp2
      repeat (go_quiet (fail); try go_wp2)
      go_meet
      case rel => exact ⟨_, (((l0_1.length : Int) != (l1_1.length : Int))), (by first | rfl | (simp; done) | (simp [*]; done)), H', ⟨by first | omega | exact Nat.le_refl _⟩, ⟨by (with_reducible repeat (first | refine blk_drewN ?_ _ | refine blk_drew ?_ | refine blk_alloc ?_ _)); exact BK145.out⟩, ⟨by (with_reducible repeat (first | refine blk_drewN ?_ _ | refine blk_drew ?_ | refine blk_alloc ?_ _)); exact BK146.out⟩, ⟨by repeat (first | (with_reducible first | exact HB.out | apply below_alloc | apply pw_below_drewN | apply below_drew1 | refine below_set ?_ GE145.out | refine below_set ?_ GE146.out) | exact HB.out)⟩⟩
    · rw [if_neg c6] at H
      have c6b0 : (a0_0 == a1_0) = false := beq_eq_false_iff_ne.mpr c6
      have c6b1 : (a0_0 != a1_0) = true := bne_iff_ne.mpr c6
      (first | rw [c6b0] | (simp only [i64_w, i32_w]; rw [c6b0]) | skip)
      have H' := Aside0.mk H
      clear H
      have hnb10 := NB145_146.out
      have hnc10 := NB146_145.out
      have hcz11_0 : w5.cell? ⟨gb145, 0, none⟩ = some (.int .i64 a0_0) := (blk_cell BK145.out 0).trans rfl
      have hcz11_1 : w5.cell? ⟨gb145, 1, none⟩ = some (.slice A0_1 l0_1.length c0_1) := (blk_cell BK145.out 1).trans rfl
      have hfz11_0 := blk_frozen BK145.out 0
      have hfz11_1 := blk_frozen BK145.out 1
      have hcz12_0 : w5.cell? ⟨gb146, 0, none⟩ = some (.int .i64 a1_0) := (blk_cell BK146.out 0).trans rfl
      have hcz12_1 : w5.cell? ⟨gb146, 1, none⟩ = some (.slice A1_1 l1_1.length c1_1) := (blk_cell BK146.out 1).trans rfl
      have hfz12_0 := blk_frozen BK146.out 0
      have hfz12_1 := blk_frozen BK146.out 1
      go_wp2
      repeat (go_quiet (fail); try go_wp2)
      go_meet
      case rel => exact ⟨_, (true), (by first | rfl | (simp; done) | (simp [*]; done)), H', ⟨by first | omega | exact Nat.le_refl _⟩, ⟨by (with_reducible repeat (first | refine blk_drewN ?_ _ | refine blk_drew ?_ | refine blk_alloc ?_ _)); exact BK145.out⟩, ⟨by (with_reducible repeat (first | refine blk_drewN ?_ _ | refine blk_drew ?_ | refine blk_alloc ?_ _)); exact BK146.out⟩, ⟨by repeat (first | (with_reducible first | exact HB.out | apply below_alloc | apply pw_below_drewN | apply below_drew1 | refine below_set ?_ GE145.out | refine below_set ?_ GE146.out) | exact HB.out)⟩⟩
  case rest =>
    clear HC3
    try clear c1
    try clear p2
    try clear c6
    try clear c6b0
    try clear c6b1
    try clear c7
    try clear c10
    try clear hcz11_0
    try clear hcz11_1
    try clear hcz12_0
    try clear hcz12_1
    try clear hcz8_0
    try clear hcz8_1
    try clear hcz9_0
    try clear hcz9_1
    try clear hfz11_0
    try clear hfz11_1
    try clear hfz12_0
    try clear hfz12_1
    try clear hfz8_0
    try clear hfz8_1
    try clear hfz9_0
    try clear hfz9_1
    obtain ⟨kq, x22_2, rfl, HA, HJ2, BK145, BK146, HB⟩ := hcut
    cases kq with
    | zero => exact absurd HA.out (by simp [fascineref14_Same.j0])
    | succ kj2 =>
      have H := HA.out
      clear HA
      simp only [fascineref14_Same.j0] at H
      by_cases c13 : x22_2 = true
      · subst c13
        have H1 : (some false) = some r := by rw [if_pos rfl] at H; exact H
        clear H
        have H := H1
        clear H1
        obtain rfl := Option.some.inj H
        go_wp2
        repeat (go_quiet (fail); try go_wp2)
        go_ret
        exact ⟨by first | rfl | (simp [errW_none, errW_some] <;> rfl) | (simp [*, errW_none, errW_some] <;> rfl), by repeat (first | (with_reducible first | exact HB.out | apply below_alloc | apply pw_below_drewN | apply below_drew1 | refine below_set ?_ GE145.out | refine below_set ?_ GE146.out) | exact HB.out)⟩
      · replace c13 := Bool.eq_false_iff.mpr c13
        subst c13
        have H1 : (fascineref14_Same.l0 kj2 0 a0_0 l0_1 a1_0 l1_1) = some r := by rw [if_neg (show ¬ (false = true) by decide)] at H; exact H
        clear H
        have H := H1
        clear H1
        have H' := Aside0.mk H
        clear H
        go_wp2
        repeat (go_quiet (fail); try go_wp2)
        go_loopg [5] kj2 (fun kq v5 w' => ∃ (x5_2 : Int), v5 = .int .i64 x5_2 ∧ Aside0 (fascineref14_Same.l0 kq x5_2 a0_0 l0_1 a1_0 l1_1 = some r) ∧ Aside0 (kq ≤ kj2) ∧ Aside0 (w'.heap[gb145]? = some (.cells #[.int .i64 a0_0, (.slice A0_1 l0_1.length c0_1)] 24 (0, 0))) ∧ Aside0 (w'.heap[gb146]? = some (.cells #[.int .i64 a1_0, (.slice A1_1 l1_1.length c1_1)] 24 (0, 0))) ∧ Aside0 (Below w.heap.size w w'))
        case atStart => exact ⟨(0), (by first | rfl | (simp; done) | (simp [*]; done)), H', ⟨Nat.le_refl _⟩, ⟨by (with_reducible repeat (first | refine blk_drewN ?_ _ | refine blk_drew ?_ | refine blk_alloc ?_ _)); exact BK145.out⟩, ⟨by (with_reducible repeat (first | refine blk_drewN ?_ _ | refine blk_drew ?_ | refine blk_alloc ?_ _)); exact BK146.out⟩, ⟨by repeat (first | (with_reducible first | exact HB.out | apply below_alloc | apply pw_below_drewN | apply below_drew1 | refine below_set ?_ GE145.out | refine below_set ?_ GE146.out) | exact HB.out)⟩⟩
        case round =>
          clear H'
          try clear c1
          try clear p2
          try clear c6
          try clear c6b0
          try clear c6b1
          try clear c7
          try clear c10
          try clear c13
          try clear hcz11_0
          try clear hcz11_1
          try clear hcz12_0
          try clear hcz12_1
          try clear hcz8_0
          try clear hcz8_1
          try clear hcz9_0
          try clear hcz9_1
          try clear hfz11_0
          try clear hfz11_1
          try clear hfz12_0
          try clear hfz12_1
          try clear hfz8_0
          try clear hfz8_1
          try clear hfz9_0
          try clear hfz9_1
          try clear p2
          obtain ⟨x5_2, rfl, HA, HK2, BK145, BK146, HB⟩ := hrel
          cases gk with
          | zero => exact absurd HA.out (by simp [fascineref14_Same.l0])
          | succ k2 =>
            have H := HA.out
            clear HA
            simp only [fascineref14_Same.l0] at H
            by_cases c14 : x5_2 < (l0_1.length : Int)
            · rw [if_pos c14] at H
              have c14b0 : decide (x5_2 < (l0_1.length : Int)) = true := decide_eq_true c14
              clear c14
              by_cases c15 : 0 ≤ x5_2
              · rw [if_pos c15] at H
                have c15b0 : decide (0 ≤ x5_2) = true := decide_eq_true c15
                clear c15
                by_cases c16 : x5_2 < (l1_1.length : Int)
                · rw [if_pos c16] at H
                  have c16b0 : decide (x5_2 < (l1_1.length : Int)) = true := decide_eq_true c16
                  clear c16
                  have HC17 := Aside0.mk H
                  clear H
                  have hnb18 := NB145_146.out
                  have hnc18 := NB146_145.out
                  have hcz19_0 : wr.cell? ⟨gb145, 0, none⟩ = some (.int .i64 a0_0) := (blk_cell BK145.out 0).trans rfl
                  have hcz19_1 : wr.cell? ⟨gb145, 1, none⟩ = some (.slice A0_1 l0_1.length c0_1) := (blk_cell BK145.out 1).trans rfl
                  have hfz19_0 := blk_frozen BK145.out 0
                  have hfz19_1 := blk_frozen BK145.out 1
                  have p147 : 0 ≤ (x5_2 : Int) := of_decide_eq_true (by first | (with_reducible assumption) | assumption)
                  have q147 : x5_2 < (l0_1.length : Int) := of_decide_eq_true (by first | (with_reducible assumption) | assumption)
                  obtain ⟨ad147, A147_3, c147_3, e147, hx147_0, hx147_1, hx147_2, hx147_3, hl147_3, hi147_3⟩ := at_T42 HR0_1.out x5_2 p147 q147
                  cases e147
                  replace hx147_0 := (HB.out.cell (World.block_lt_of_cell? w _ hx147_0)).trans hx147_0
                  replace hx147_1 := (HB.out.cell (World.block_lt_of_cell? w _ hx147_1)).trans hx147_1
                  replace hx147_2 := (HB.out.cell (World.block_lt_of_cell? w _ hx147_2)).trans hx147_2
                  replace hx147_3 := (HB.out.cell (World.block_lt_of_cell? w _ hx147_3)).trans hx147_3
                  have HR147_3 := Aside0.mk hi147_3
                  have HC147_3 := Aside0.mk hl147_3
                  clear hi147_3 hl147_3
                  replace p147 := eq_true p147
                  replace q147 := eq_true q147
                  go_upto_region 8 with (first | ((with_reducible refine gate_dst (N := 6) rfl ?_); (try (refine gate_guard (by rfl) ?_; dsimp only)); refine box_event ?hg (N := 6) ?hd (cs := #[.int .u64 0, .int .u64 0, .int .i64 0, .slice none 0 0]) (t := 42) ?hr ?_; (case hd => rfl); (case hg => rfl); (case hr => first | (go_simp; done) | (go_simp; rfl)); intro gb148 hg w20 hbox hb; have n0_ := Aside0.mk (blk_below (g := gb145) (o := .cells #[.int .i64 a0_0, .slice (some ad147) l0_1.length c0_1] 24 (0, 0)) (by (with_reducible repeat (first | refine blk_drewN ?_ _ | refine blk_drew ?_ | refine blk_alloc ?_ _)); exact BK145.out) hb); have n1_ := Aside0.mk (blk_below (g := gb146) (o := .cells #[.int .i64 a1_0, .slice A1_1 l1_1.length c1_1] 24 (0, 0)) (by (with_reducible repeat (first | refine blk_drewN ?_ _ | refine blk_drew ?_ | refine blk_alloc ?_ _)); exact BK146.out) hb); have n2_ := Aside0.mk (below_step (by repeat (first | (with_reducible first | exact HB.out | apply below_alloc | apply pw_below_drewN | apply below_drew1 | refine below_set ?_ GE145.out | refine below_set ?_ GE146.out) | exact HB.out)) hb); have n3_ := Aside0.mk (hbox); have n4_ := Aside0.mk ((by rw [hg]; exact (below_size (by repeat (first | (with_reducible first | exact HB.out | apply below_alloc | apply pw_below_drewN | apply below_drew1 | refine below_set ?_ GE145.out | refine below_set ?_ GE146.out) | exact HB.out))) : w.heap.size ≤ gb148)); have n5_ := Aside0.mk ((by rw [hg]; exact (below_size (by repeat (first | (with_reducible first | exact HB.out | apply below_alloc | apply pw_below_drewN | apply below_drew1 | refine below_set ?_ GE145.out | refine below_set ?_ GE146.out) | exact HB.out))) : w.heap.size ≤ gb148)); have n6_ := Aside0.mk ((by rw [hg]; exact Nat.ne_of_lt (blk_lt (g := gb145) (o := .cells #[.int .i64 a0_0, .slice (some ad147) l0_1.length c0_1] 24 (0, 0)) (by (with_reducible repeat (first | refine blk_drewN ?_ _ | refine blk_drew ?_ | refine blk_alloc ?_ _)); exact BK145.out)) : gb145 ≠ gb148)); have n7_ := Aside0.mk ((by rw [hg]; exact Nat.ne_of_gt (blk_lt (g := gb145) (o := .cells #[.int .i64 a0_0, .slice (some ad147) l0_1.length c0_1] 24 (0, 0)) (by (with_reducible repeat (first | refine blk_drewN ?_ _ | refine blk_drew ?_ | refine blk_alloc ?_ _)); exact BK145.out)) : gb148 ≠ gb145)); have n8_ := Aside0.mk ((by rw [hg]; exact Nat.ne_of_lt (blk_lt (g := gb146) (o := .cells #[.int .i64 a1_0, .slice A1_1 l1_1.length c1_1] 24 (0, 0)) (by (with_reducible repeat (first | refine blk_drewN ?_ _ | refine blk_drew ?_ | refine blk_alloc ?_ _)); exact BK146.out)) : gb146 ≠ gb148)); have n9_ := Aside0.mk ((by rw [hg]; exact Nat.ne_of_gt (blk_lt (g := gb146) (o := .cells #[.int .i64 a1_0, .slice A1_1 l1_1.length c1_1] 24 (0, 0)) (by (with_reducible repeat (first | refine blk_drewN ?_ _ | refine blk_drew ?_ | refine blk_alloc ?_ _)); exact BK146.out)) : gb148 ≠ gb146)); clear BK145; clear BK146; clear HB; have BK145 := n0_; have BK146 := n1_; have HB := n2_; have BK148 := n3_; have GW148 := n4_; have GE148 := n5_; have NB145_148 := n6_; have NB148_145 := n7_; have NB146_148 := n8_; have NB148_146 := n9_; clear n0_ n1_ n2_ n3_ n4_ n5_ n6_ n7_ n8_ n9_; clear hb hbox hg; have hnb21 := NB148_145.out; have hnc21 := NB145_148.out; have hnb22 := NB148_146.out; have hnc22 := NB146_148.out; have hcz23_0 : w20.cell? ⟨gb148, 0, none⟩ = some (.int .u64 0) := (blk_cell BK148.out 0).trans rfl; have hcz23_1 : w20.cell? ⟨gb148, 1, none⟩ = some (.int .u64 0) := (blk_cell BK148.out 1).trans rfl; have hcz23_2 : w20.cell? ⟨gb148, 2, none⟩ = some (.int .i64 0) := (blk_cell BK148.out 2).trans rfl; have hcz23_3 : w20.cell? ⟨gb148, 3, none⟩ = some (.slice none 0 0) := (blk_cell BK148.out 3).trans rfl; have hfz23_0 := blk_frozen BK148.out 0; have hfz23_1 := blk_frozen BK148.out 1; have hfz23_2 := blk_frozen BK148.out 2; have hfz23_3 := blk_frozen BK148.out 3; have hcz24_0 : w20.cell? ⟨gb146, 0, none⟩ = some (.int .i64 a1_0) := (blk_cell BK146.out 0).trans rfl; have hcz24_1 : w20.cell? ⟨gb146, 1, none⟩ = some (.slice A1_1 l1_1.length c1_1) := (blk_cell BK146.out 1).trans rfl; have hfz24_0 := blk_frozen BK146.out 0; have hfz24_1 := blk_frozen BK146.out 1; have p149 : 0 ≤ (x5_2 : Int) := of_decide_eq_true (by first | (with_reducible assumption) | assumption); have q149 : x5_2 < (l1_1.length : Int) := of_decide_eq_true (by first | (with_reducible assumption) | assumption); obtain ⟨ad149, A149_3, c149_3, e149, hx149_0, hx149_1, hx149_2, hx149_3, hl149_3, hi149_3⟩ := at_T42 HR1_1.out x5_2 p149 q149; cases e149; have hn149_0 : ad149.block ≠ gb148 := Nat.ne_of_lt (Nat.lt_of_lt_of_le (by have := World.block_lt_of_cell? _ _ hx149_0; first | rwa [add_block] at this | exact this) GW148.out); have hn149_1 : ad149.block ≠ gb148 := Nat.ne_of_lt (Nat.lt_of_lt_of_le (by have := World.block_lt_of_cell? _ _ hx149_0; first | rwa [add_block] at this | exact this) GW148.out); have hn149_2 : ad149.block ≠ gb148 := Nat.ne_of_lt (Nat.lt_of_lt_of_le (by have := World.block_lt_of_cell? _ _ hx149_0; first | rwa [add_block] at this | exact this) GW148.out); have hn149_3 : ad149.block ≠ gb148 := Nat.ne_of_lt (Nat.lt_of_lt_of_le (by have := World.block_lt_of_cell? _ _ hx149_0; first | rwa [add_block] at this | exact this) GW148.out); replace hx149_0 := (HB.out.cell (World.block_lt_of_cell? w _ hx149_0)).trans hx149_0; replace hx149_1 := (HB.out.cell (World.block_lt_of_cell? w _ hx149_1)).trans hx149_1; replace hx149_2 := (HB.out.cell (World.block_lt_of_cell? w _ hx149_2)).trans hx149_2; replace hx149_3 := (HB.out.cell (World.block_lt_of_cell? w _ hx149_3)).trans hx149_3; have HR149_3 := Aside0.mk hi149_3; have HC149_3 := Aside0.mk hl149_3; clear hi149_3 hl149_3; replace hx149_0 := (cell_far (p := ⟨gb148, 0, none⟩) (by first | (rw [add_block]; exact hn149_0) | (show (Addr.add _ _).block ≠ _; rw [add_block]; exact hn149_0) | exact hn149_0) (.int .u64 ((rd_T42 l0_1 x5_2).f0))).trans hx149_0; replace hx149_1 := (cell_far (p := ⟨gb148, 0, none⟩) (by first | (rw [add_block]; exact hn149_0) | (show (Addr.add _ _).block ≠ _; rw [add_block]; exact hn149_0) | exact hn149_0) (.int .u64 ((rd_T42 l0_1 x5_2).f0))).trans hx149_1; replace hx149_2 := (cell_far (p := ⟨gb148, 0, none⟩) (by first | (rw [add_block]; exact hn149_0) | (show (Addr.add _ _).block ≠ _; rw [add_block]; exact hn149_0) | exact hn149_0) (.int .u64 ((rd_T42 l0_1 x5_2).f0))).trans hx149_2; replace hx149_3 := (cell_far (p := ⟨gb148, 0, none⟩) (by first | (rw [add_block]; exact hn149_0) | (show (Addr.add _ _).block ≠ _; rw [add_block]; exact hn149_0) | exact hn149_0) (.int .u64 ((rd_T42 l0_1 x5_2).f0))).trans hx149_3; replace hx149_0 := (cell_far (p := ⟨gb148, 1, none⟩) (by first | (rw [add_block]; exact hn149_1) | (show (Addr.add _ _).block ≠ _; rw [add_block]; exact hn149_1) | exact hn149_1) (.int .u64 ((rd_T42 l0_1 x5_2).f1))).trans hx149_0; replace hx149_1 := (cell_far (p := ⟨gb148, 1, none⟩) (by first | (rw [add_block]; exact hn149_1) | (show (Addr.add _ _).block ≠ _; rw [add_block]; exact hn149_1) | exact hn149_1) (.int .u64 ((rd_T42 l0_1 x5_2).f1))).trans hx149_1; replace hx149_2 := (cell_far (p := ⟨gb148, 1, none⟩) (by first | (rw [add_block]; exact hn149_1) | (show (Addr.add _ _).block ≠ _; rw [add_block]; exact hn149_1) | exact hn149_1) (.int .u64 ((rd_T42 l0_1 x5_2).f1))).trans hx149_2; replace hx149_3 := (cell_far (p := ⟨gb148, 1, none⟩) (by first | (rw [add_block]; exact hn149_1) | (show (Addr.add _ _).block ≠ _; rw [add_block]; exact hn149_1) | exact hn149_1) (.int .u64 ((rd_T42 l0_1 x5_2).f1))).trans hx149_3; replace hx149_0 := (cell_far (p := ⟨gb148, 2, none⟩) (by first | (rw [add_block]; exact hn149_2) | (show (Addr.add _ _).block ≠ _; rw [add_block]; exact hn149_2) | exact hn149_2) (.int .i64 ((rd_T42 l0_1 x5_2).f2))).trans hx149_0; replace hx149_1 := (cell_far (p := ⟨gb148, 2, none⟩) (by first | (rw [add_block]; exact hn149_2) | (show (Addr.add _ _).block ≠ _; rw [add_block]; exact hn149_2) | exact hn149_2) (.int .i64 ((rd_T42 l0_1 x5_2).f2))).trans hx149_1; replace hx149_2 := (cell_far (p := ⟨gb148, 2, none⟩) (by first | (rw [add_block]; exact hn149_2) | (show (Addr.add _ _).block ≠ _; rw [add_block]; exact hn149_2) | exact hn149_2) (.int .i64 ((rd_T42 l0_1 x5_2).f2))).trans hx149_2; replace hx149_3 := (cell_far (p := ⟨gb148, 2, none⟩) (by first | (rw [add_block]; exact hn149_2) | (show (Addr.add _ _).block ≠ _; rw [add_block]; exact hn149_2) | exact hn149_2) (.int .i64 ((rd_T42 l0_1 x5_2).f2))).trans hx149_3; replace hx149_0 := (cell_far (p := ⟨gb148, 3, none⟩) (by first | (rw [add_block]; exact hn149_3) | (show (Addr.add _ _).block ≠ _; rw [add_block]; exact hn149_3) | exact hn149_3) (.slice A147_3 ((rd_T42 l0_1 x5_2).f3).length c147_3)).trans hx149_0; replace hx149_1 := (cell_far (p := ⟨gb148, 3, none⟩) (by first | (rw [add_block]; exact hn149_3) | (show (Addr.add _ _).block ≠ _; rw [add_block]; exact hn149_3) | exact hn149_3) (.slice A147_3 ((rd_T42 l0_1 x5_2).f3).length c147_3)).trans hx149_1; replace hx149_2 := (cell_far (p := ⟨gb148, 3, none⟩) (by first | (rw [add_block]; exact hn149_3) | (show (Addr.add _ _).block ≠ _; rw [add_block]; exact hn149_3) | exact hn149_3) (.slice A147_3 ((rd_T42 l0_1 x5_2).f3).length c147_3)).trans hx149_2; replace hx149_3 := (cell_far (p := ⟨gb148, 3, none⟩) (by first | (rw [add_block]; exact hn149_3) | (show (Addr.add _ _).block ≠ _; rw [add_block]; exact hn149_3) | exact hn149_3) (.slice A147_3 ((rd_T42 l0_1 x5_2).f3).length c147_3)).trans hx149_3; (try have hy149_0 := fun (n_ : Nat) => (show ((((((w20.drewN n_).setCell ⟨gb148, 0, none⟩ (.int .u64 ((rd_T42 l0_1 x5_2).f0))).setCell ⟨gb148, 1, none⟩ (.int .u64 ((rd_T42 l0_1 x5_2).f1))).setCell ⟨gb148, 2, none⟩ (.int .i64 ((rd_T42 l0_1 x5_2).f2))).setCell ⟨gb148, 3, none⟩ (.slice A147_3 ((rd_T42 l0_1 x5_2).f3).length c147_3))).cell? _ = some _ from hx149_0)); (try have hy149_1 := fun (n_ : Nat) => (show ((((((w20.drewN n_).setCell ⟨gb148, 0, none⟩ (.int .u64 ((rd_T42 l0_1 x5_2).f0))).setCell ⟨gb148, 1, none⟩ (.int .u64 ((rd_T42 l0_1 x5_2).f1))).setCell ⟨gb148, 2, none⟩ (.int .i64 ((rd_T42 l0_1 x5_2).f2))).setCell ⟨gb148, 3, none⟩ (.slice A147_3 ((rd_T42 l0_1 x5_2).f3).length c147_3))).cell? _ = some _ from hx149_1)); (try have hy149_2 := fun (n_ : Nat) => (show ((((((w20.drewN n_).setCell ⟨gb148, 0, none⟩ (.int .u64 ((rd_T42 l0_1 x5_2).f0))).setCell ⟨gb148, 1, none⟩ (.int .u64 ((rd_T42 l0_1 x5_2).f1))).setCell ⟨gb148, 2, none⟩ (.int .i64 ((rd_T42 l0_1 x5_2).f2))).setCell ⟨gb148, 3, none⟩ (.slice A147_3 ((rd_T42 l0_1 x5_2).f3).length c147_3))).cell? _ = some _ from hx149_2)); (try have hy149_3 := fun (n_ : Nat) => (show ((((((w20.drewN n_).setCell ⟨gb148, 0, none⟩ (.int .u64 ((rd_T42 l0_1 x5_2).f0))).setCell ⟨gb148, 1, none⟩ (.int .u64 ((rd_T42 l0_1 x5_2).f1))).setCell ⟨gb148, 2, none⟩ (.int .i64 ((rd_T42 l0_1 x5_2).f2))).setCell ⟨gb148, 3, none⟩ (.slice A147_3 ((rd_T42 l0_1 x5_2).f3).length c147_3))).cell? _ = some _ from hx149_3)); clear hn149_0; clear hn149_1; clear hn149_2; clear hn149_3; replace p149 := eq_true p149; replace q149 := eq_true q149) | ((with_reducible refine gate_dst (N := 7) rfl ?_); (try (refine gate_guard (by rfl) ?_; dsimp only)); refine box_event ?hg (N := 7) ?hd (cs := #[.int .u64 0, .int .u64 0, .int .i64 0, .slice none 0 0]) (t := 42) ?hr ?_; (case hd => rfl); (case hg => rfl); (case hr => first | (go_simp; done) | (go_simp; rfl)); intro gb150 hg w25 hbox hb; have n0_ := Aside0.mk (blk_below (g := gb145) (o := .cells #[.int .i64 a0_0, .slice (some ad147) l0_1.length c0_1] 24 (0, 0)) (by (with_reducible repeat (first | refine blk_drewN ?_ _ | refine blk_drew ?_ | refine blk_alloc ?_ _)); refine blk_far ?_ NB145_148.out _; (with_reducible repeat (first | refine blk_drewN ?_ _ | refine blk_drew ?_ | refine blk_alloc ?_ _)); refine blk_far ?_ NB145_148.out _; (with_reducible repeat (first | refine blk_drewN ?_ _ | refine blk_drew ?_ | refine blk_alloc ?_ _)); refine blk_far ?_ NB145_148.out _; (with_reducible repeat (first | refine blk_drewN ?_ _ | refine blk_drew ?_ | refine blk_alloc ?_ _)); refine blk_far ?_ NB145_148.out _; (with_reducible repeat (first | refine blk_drewN ?_ _ | refine blk_drew ?_ | refine blk_alloc ?_ _)); exact BK145.out) hb); have n1_ := Aside0.mk (blk_below (g := gb146) (o := .cells #[.int .i64 a1_0, .slice (some ad149) l1_1.length c1_1] 24 (0, 0)) (by (with_reducible repeat (first | refine blk_drewN ?_ _ | refine blk_drew ?_ | refine blk_alloc ?_ _)); refine blk_far ?_ NB146_148.out _; (with_reducible repeat (first | refine blk_drewN ?_ _ | refine blk_drew ?_ | refine blk_alloc ?_ _)); refine blk_far ?_ NB146_148.out _; (with_reducible repeat (first | refine blk_drewN ?_ _ | refine blk_drew ?_ | refine blk_alloc ?_ _)); refine blk_far ?_ NB146_148.out _; (with_reducible repeat (first | refine blk_drewN ?_ _ | refine blk_drew ?_ | refine blk_alloc ?_ _)); refine blk_far ?_ NB146_148.out _; (with_reducible repeat (first | refine blk_drewN ?_ _ | refine blk_drew ?_ | refine blk_alloc ?_ _)); exact BK146.out) hb); have n2_ := Aside0.mk (blk_below (g := gb148) (o := .cells #[.int .u64 ((rd_T42 l0_1 x5_2).f0), .int .u64 ((rd_T42 l0_1 x5_2).f1), .int .i64 ((rd_T42 l0_1 x5_2).f2), .slice A147_3 ((rd_T42 l0_1 x5_2).f3).length c147_3] 42 (0, 0)) (by (with_reducible repeat (first | refine blk_drewN ?_ _ | refine blk_drew ?_ | refine blk_alloc ?_ _)); refine blk_put (cs := #[.int .u64 ((rd_T42 l0_1 x5_2).f0), .int .u64 ((rd_T42 l0_1 x5_2).f1), .int .i64 ((rd_T42 l0_1 x5_2).f2), .slice none 0 0]) ?_ 3 _ rfl; (with_reducible repeat (first | refine blk_drewN ?_ _ | refine blk_drew ?_ | refine blk_alloc ?_ _)); refine blk_put (cs := #[.int .u64 ((rd_T42 l0_1 x5_2).f0), .int .u64 ((rd_T42 l0_1 x5_2).f1), .int .i64 0, .slice none 0 0]) ?_ 2 _ rfl; (with_reducible repeat (first | refine blk_drewN ?_ _ | refine blk_drew ?_ | refine blk_alloc ?_ _)); refine blk_put (cs := #[.int .u64 ((rd_T42 l0_1 x5_2).f0), .int .u64 0, .int .i64 0, .slice none 0 0]) ?_ 1 _ rfl; (with_reducible repeat (first | refine blk_drewN ?_ _ | refine blk_drew ?_ | refine blk_alloc ?_ _)); refine blk_put (cs := #[.int .u64 0, .int .u64 0, .int .i64 0, .slice none 0 0]) ?_ 0 _ rfl; (with_reducible repeat (first | refine blk_drewN ?_ _ | refine blk_drew ?_ | refine blk_alloc ?_ _)); exact BK148.out) hb); have n3_ := Aside0.mk (below_step (by repeat (first | (with_reducible first | exact HB.out | apply below_alloc | apply pw_below_drewN | apply below_drew1 | refine below_set ?_ GE145.out | refine below_set ?_ GE146.out | refine below_set ?_ GE148.out) | exact HB.out)) hb); have n4_ := Aside0.mk (hbox); have n5_ := Aside0.mk ((by rw [hg]; exact (below_size (by repeat (first | (with_reducible first | exact HB.out | apply below_alloc | apply pw_below_drewN | apply below_drew1 | refine below_set ?_ GE145.out | refine below_set ?_ GE146.out | refine below_set ?_ GE148.out) | exact HB.out))) : w.heap.size ≤ gb150)); have n6_ := Aside0.mk ((by rw [hg]; exact (below_size (by repeat (first | (with_reducible first | exact HB.out | apply below_alloc | apply pw_below_drewN | apply below_drew1 | refine below_set ?_ GE145.out | refine below_set ?_ GE146.out | refine below_set ?_ GE148.out) | exact HB.out))) : w.heap.size ≤ gb150)); have n7_ := Aside0.mk ((by rw [hg]; exact Nat.ne_of_lt (blk_lt (g := gb145) (o := .cells #[.int .i64 a0_0, .slice (some ad147) l0_1.length c0_1] 24 (0, 0)) (by (with_reducible repeat (first | refine blk_drewN ?_ _ | refine blk_drew ?_ | refine blk_alloc ?_ _)); refine blk_far ?_ NB145_148.out _; (with_reducible repeat (first | refine blk_drewN ?_ _ | refine blk_drew ?_ | refine blk_alloc ?_ _)); refine blk_far ?_ NB145_148.out _; (with_reducible repeat (first | refine blk_drewN ?_ _ | refine blk_drew ?_ | refine blk_alloc ?_ _)); refine blk_far ?_ NB145_148.out _; (with_reducible repeat (first | refine blk_drewN ?_ _ | refine blk_drew ?_ | refine blk_alloc ?_ _)); refine blk_far ?_ NB145_148.out _; (with_reducible repeat (first | refine blk_drewN ?_ _ | refine blk_drew ?_ | refine blk_alloc ?_ _)); exact BK145.out)) : gb145 ≠ gb150)); have n8_ := Aside0.mk ((by rw [hg]; exact Nat.ne_of_gt (blk_lt (g := gb145) (o := .cells #[.int .i64 a0_0, .slice (some ad147) l0_1.length c0_1] 24 (0, 0)) (by (with_reducible repeat (first | refine blk_drewN ?_ _ | refine blk_drew ?_ | refine blk_alloc ?_ _)); refine blk_far ?_ NB145_148.out _; (with_reducible repeat (first | refine blk_drewN ?_ _ | refine blk_drew ?_ | refine blk_alloc ?_ _)); refine blk_far ?_ NB145_148.out _; (with_reducible repeat (first | refine blk_drewN ?_ _ | refine blk_drew ?_ | refine blk_alloc ?_ _)); refine blk_far ?_ NB145_148.out _; (with_reducible repeat (first | refine blk_drewN ?_ _ | refine blk_drew ?_ | refine blk_alloc ?_ _)); refine blk_far ?_ NB145_148.out _; (with_reducible repeat (first | refine blk_drewN ?_ _ | refine blk_drew ?_ | refine blk_alloc ?_ _)); exact BK145.out)) : gb150 ≠ gb145)); have n9_ := Aside0.mk ((by rw [hg]; exact Nat.ne_of_lt (blk_lt (g := gb146) (o := .cells #[.int .i64 a1_0, .slice (some ad149) l1_1.length c1_1] 24 (0, 0)) (by (with_reducible repeat (first | refine blk_drewN ?_ _ | refine blk_drew ?_ | refine blk_alloc ?_ _)); refine blk_far ?_ NB146_148.out _; (with_reducible repeat (first | refine blk_drewN ?_ _ | refine blk_drew ?_ | refine blk_alloc ?_ _)); refine blk_far ?_ NB146_148.out _; (with_reducible repeat (first | refine blk_drewN ?_ _ | refine blk_drew ?_ | refine blk_alloc ?_ _)); refine blk_far ?_ NB146_148.out _; (with_reducible repeat (first | refine blk_drewN ?_ _ | refine blk_drew ?_ | refine blk_alloc ?_ _)); refine blk_far ?_ NB146_148.out _; (with_reducible repeat (first | refine blk_drewN ?_ _ | refine blk_drew ?_ | refine blk_alloc ?_ _)); exact BK146.out)) : gb146 ≠ gb150)); have n10_ := Aside0.mk ((by rw [hg]; exact Nat.ne_of_gt (blk_lt (g := gb146) (o := .cells #[.int .i64 a1_0, .slice (some ad149) l1_1.length c1_1] 24 (0, 0)) (by (with_reducible repeat (first | refine blk_drewN ?_ _ | refine blk_drew ?_ | refine blk_alloc ?_ _)); refine blk_far ?_ NB146_148.out _; (with_reducible repeat (first | refine blk_drewN ?_ _ | refine blk_drew ?_ | refine blk_alloc ?_ _)); refine blk_far ?_ NB146_148.out _; (with_reducible repeat (first | refine blk_drewN ?_ _ | refine blk_drew ?_ | refine blk_alloc ?_ _)); refine blk_far ?_ NB146_148.out _; (with_reducible repeat (first | refine blk_drewN ?_ _ | refine blk_drew ?_ | refine blk_alloc ?_ _)); refine blk_far ?_ NB146_148.out _; (with_reducible repeat (first | refine blk_drewN ?_ _ | refine blk_drew ?_ | refine blk_alloc ?_ _)); exact BK146.out)) : gb150 ≠ gb146)); have n11_ := Aside0.mk ((by rw [hg]; exact Nat.ne_of_lt (blk_lt (g := gb148) (o := .cells #[.int .u64 ((rd_T42 l0_1 x5_2).f0), .int .u64 ((rd_T42 l0_1 x5_2).f1), .int .i64 ((rd_T42 l0_1 x5_2).f2), .slice A147_3 ((rd_T42 l0_1 x5_2).f3).length c147_3] 42 (0, 0)) (by (with_reducible repeat (first | refine blk_drewN ?_ _ | refine blk_drew ?_ | refine blk_alloc ?_ _)); refine blk_put (cs := #[.int .u64 ((rd_T42 l0_1 x5_2).f0), .int .u64 ((rd_T42 l0_1 x5_2).f1), .int .i64 ((rd_T42 l0_1 x5_2).f2), .slice none 0 0]) ?_ 3 _ rfl; (with_reducible repeat (first | refine blk_drewN ?_ _ | refine blk_drew ?_ | refine blk_alloc ?_ _)); refine blk_put (cs := #[.int .u64 ((rd_T42 l0_1 x5_2).f0), .int .u64 ((rd_T42 l0_1 x5_2).f1), .int .i64 0, .slice none 0 0]) ?_ 2 _ rfl; (with_reducible repeat (first | refine blk_drewN ?_ _ | refine blk_drew ?_ | refine blk_alloc ?_ _)); refine blk_put (cs := #[.int .u64 ((rd_T42 l0_1 x5_2).f0), .int .u64 0, .int .i64 0, .slice none 0 0]) ?_ 1 _ rfl; (with_reducible repeat (first | refine blk_drewN ?_ _ | refine blk_drew ?_ | refine blk_alloc ?_ _)); refine blk_put (cs := #[.int .u64 0, .int .u64 0, .int .i64 0, .slice none 0 0]) ?_ 0 _ rfl; (with_reducible repeat (first | refine blk_drewN ?_ _ | refine blk_drew ?_ | refine blk_alloc ?_ _)); exact BK148.out)) : gb148 ≠ gb150)); have n12_ := Aside0.mk ((by rw [hg]; exact Nat.ne_of_gt (blk_lt (g := gb148) (o := .cells #[.int .u64 ((rd_T42 l0_1 x5_2).f0), .int .u64 ((rd_T42 l0_1 x5_2).f1), .int .i64 ((rd_T42 l0_1 x5_2).f2), .slice A147_3 ((rd_T42 l0_1 x5_2).f3).length c147_3] 42 (0, 0)) (by (with_reducible repeat (first | refine blk_drewN ?_ _ | refine blk_drew ?_ | refine blk_alloc ?_ _)); refine blk_put (cs := #[.int .u64 ((rd_T42 l0_1 x5_2).f0), .int .u64 ((rd_T42 l0_1 x5_2).f1), .int .i64 ((rd_T42 l0_1 x5_2).f2), .slice none 0 0]) ?_ 3 _ rfl; (with_reducible repeat (first | refine blk_drewN ?_ _ | refine blk_drew ?_ | refine blk_alloc ?_ _)); refine blk_put (cs := #[.int .u64 ((rd_T42 l0_1 x5_2).f0), .int .u64 ((rd_T42 l0_1 x5_2).f1), .int .i64 0, .slice none 0 0]) ?_ 2 _ rfl; (with_reducible repeat (first | refine blk_drewN ?_ _ | refine blk_drew ?_ | refine blk_alloc ?_ _)); refine blk_put (cs := #[.int .u64 ((rd_T42 l0_1 x5_2).f0), .int .u64 0, .int .i64 0, .slice none 0 0]) ?_ 1 _ rfl; (with_reducible repeat (first | refine blk_drewN ?_ _ | refine blk_drew ?_ | refine blk_alloc ?_ _)); refine blk_put (cs := #[.int .u64 0, .int .u64 0, .int .i64 0, .slice none 0 0]) ?_ 0 _ rfl; (with_reducible repeat (first | refine blk_drewN ?_ _ | refine blk_drew ?_ | refine blk_alloc ?_ _)); exact BK148.out)) : gb150 ≠ gb148)); clear BK145; clear BK146; clear BK148; clear HB; have BK145 := n0_; have BK146 := n1_; have BK148 := n2_; have HB := n3_; have BK150 := n4_; have GW150 := n5_; have GE150 := n6_; have NB145_150 := n7_; have NB150_145 := n8_; have NB146_150 := n9_; have NB150_146 := n10_; have NB148_150 := n11_; have NB150_148 := n12_; clear n0_ n1_ n2_ n3_ n4_ n5_ n6_ n7_ n8_ n9_ n10_ n11_ n12_; clear hb hbox hg; have hnb26 := NB150_145.out; have hnc26 := NB145_150.out; have hnb27 := NB150_146.out; have hnc27 := NB146_150.out; have hnb28 := NB150_148.out; have hnc28 := NB148_150.out; have hcz29_0 : w25.cell? ⟨gb150, 0, none⟩ = some (.int .u64 0) := (blk_cell BK150.out 0).trans rfl; have hcz29_1 : w25.cell? ⟨gb150, 1, none⟩ = some (.int .u64 0) := (blk_cell BK150.out 1).trans rfl; have hcz29_2 : w25.cell? ⟨gb150, 2, none⟩ = some (.int .i64 0) := (blk_cell BK150.out 2).trans rfl; have hcz29_3 : w25.cell? ⟨gb150, 3, none⟩ = some (.slice none 0 0) := (blk_cell BK150.out 3).trans rfl; have hfz29_0 := blk_frozen BK150.out 0; have hfz29_1 := blk_frozen BK150.out 1; have hfz29_2 := blk_frozen BK150.out 2; have hfz29_3 := blk_frozen BK150.out 3))
                  repeat (go_quiet (first | ((with_reducible refine gate_dst (N := 6) rfl ?_); (try (refine gate_guard (by rfl) ?_; dsimp only)); refine box_event ?hg (N := 6) ?hd (cs := #[.int .u64 0, .int .u64 0, .int .i64 0, .slice none 0 0]) (t := 42) ?hr ?_; (case hd => rfl); (case hg => rfl); (case hr => first | (go_simp; done) | (go_simp; rfl)); intro gb148 hg w20 hbox hb; have n0_ := Aside0.mk (blk_below (g := gb145) (o := .cells #[.int .i64 a0_0, .slice (some ad147) l0_1.length c0_1] 24 (0, 0)) (by (with_reducible repeat (first | refine blk_drewN ?_ _ | refine blk_drew ?_ | refine blk_alloc ?_ _)); exact BK145.out) hb); have n1_ := Aside0.mk (blk_below (g := gb146) (o := .cells #[.int .i64 a1_0, .slice A1_1 l1_1.length c1_1] 24 (0, 0)) (by (with_reducible repeat (first | refine blk_drewN ?_ _ | refine blk_drew ?_ | refine blk_alloc ?_ _)); exact BK146.out) hb); have n2_ := Aside0.mk (below_step (by repeat (first | (with_reducible first | exact HB.out | apply below_alloc | apply pw_below_drewN | apply below_drew1 | refine below_set ?_ GE145.out | refine below_set ?_ GE146.out) | exact HB.out)) hb); have n3_ := Aside0.mk (hbox); have n4_ := Aside0.mk ((by rw [hg]; exact (below_size (by repeat (first | (with_reducible first | exact HB.out | apply below_alloc | apply pw_below_drewN | apply below_drew1 | refine below_set ?_ GE145.out | refine below_set ?_ GE146.out) | exact HB.out))) : w.heap.size ≤ gb148)); have n5_ := Aside0.mk ((by rw [hg]; exact (below_size (by repeat (first | (with_reducible first | exact HB.out | apply below_alloc | apply pw_below_drewN | apply below_drew1 | refine below_set ?_ GE145.out | refine below_set ?_ GE146.out) | exact HB.out))) : w.heap.size ≤ gb148)); have n6_ := Aside0.mk ((by rw [hg]; exact Nat.ne_of_lt (blk_lt (g := gb145) (o := .cells #[.int .i64 a0_0, .slice (some ad147) l0_1.length c0_1] 24 (0, 0)) (by (with_reducible repeat (first | refine blk_drewN ?_ _ | refine blk_drew ?_ | refine blk_alloc ?_ _)); exact BK145.out)) : gb145 ≠ gb148)); have n7_ := Aside0.mk ((by rw [hg]; exact Nat.ne_of_gt (blk_lt (g := gb145) (o := .cells #[.int .i64 a0_0, .slice (some ad147) l0_1.length c0_1] 24 (0, 0)) (by (with_reducible repeat (first | refine blk_drewN ?_ _ | refine blk_drew ?_ | refine blk_alloc ?_ _)); exact BK145.out)) : gb148 ≠ gb145)); have n8_ := Aside0.mk ((by rw [hg]; exact Nat.ne_of_lt (blk_lt (g := gb146) (o := .cells #[.int .i64 a1_0, .slice A1_1 l1_1.length c1_1] 24 (0, 0)) (by (with_reducible repeat (first | refine blk_drewN ?_ _ | refine blk_drew ?_ | refine blk_alloc ?_ _)); exact BK146.out)) : gb146 ≠ gb148)); have n9_ := Aside0.mk ((by rw [hg]; exact Nat.ne_of_gt (blk_lt (g := gb146) (o := .cells #[.int .i64 a1_0, .slice A1_1 l1_1.length c1_1] 24 (0, 0)) (by (with_reducible repeat (first | refine blk_drewN ?_ _ | refine blk_drew ?_ | refine blk_alloc ?_ _)); exact BK146.out)) : gb148 ≠ gb146)); clear BK145; clear BK146; clear HB; have BK145 := n0_; have BK146 := n1_; have HB := n2_; have BK148 := n3_; have GW148 := n4_; have GE148 := n5_; have NB145_148 := n6_; have NB148_145 := n7_; have NB146_148 := n8_; have NB148_146 := n9_; clear n0_ n1_ n2_ n3_ n4_ n5_ n6_ n7_ n8_ n9_; clear hb hbox hg; have hnb21 := NB148_145.out; have hnc21 := NB145_148.out; have hnb22 := NB148_146.out; have hnc22 := NB146_148.out; have hcz23_0 : w20.cell? ⟨gb148, 0, none⟩ = some (.int .u64 0) := (blk_cell BK148.out 0).trans rfl; have hcz23_1 : w20.cell? ⟨gb148, 1, none⟩ = some (.int .u64 0) := (blk_cell BK148.out 1).trans rfl; have hcz23_2 : w20.cell? ⟨gb148, 2, none⟩ = some (.int .i64 0) := (blk_cell BK148.out 2).trans rfl; have hcz23_3 : w20.cell? ⟨gb148, 3, none⟩ = some (.slice none 0 0) := (blk_cell BK148.out 3).trans rfl; have hfz23_0 := blk_frozen BK148.out 0; have hfz23_1 := blk_frozen BK148.out 1; have hfz23_2 := blk_frozen BK148.out 2; have hfz23_3 := blk_frozen BK148.out 3; have hcz24_0 : w20.cell? ⟨gb146, 0, none⟩ = some (.int .i64 a1_0) := (blk_cell BK146.out 0).trans rfl; have hcz24_1 : w20.cell? ⟨gb146, 1, none⟩ = some (.slice A1_1 l1_1.length c1_1) := (blk_cell BK146.out 1).trans rfl; have hfz24_0 := blk_frozen BK146.out 0; have hfz24_1 := blk_frozen BK146.out 1; have p149 : 0 ≤ (x5_2 : Int) := of_decide_eq_true (by first | (with_reducible assumption) | assumption); have q149 : x5_2 < (l1_1.length : Int) := of_decide_eq_true (by first | (with_reducible assumption) | assumption); obtain ⟨ad149, A149_3, c149_3, e149, hx149_0, hx149_1, hx149_2, hx149_3, hl149_3, hi149_3⟩ := at_T42 HR1_1.out x5_2 p149 q149; cases e149; have hn149_0 : ad149.block ≠ gb148 := Nat.ne_of_lt (Nat.lt_of_lt_of_le (by have := World.block_lt_of_cell? _ _ hx149_0; first | rwa [add_block] at this | exact this) GW148.out); have hn149_1 : ad149.block ≠ gb148 := Nat.ne_of_lt (Nat.lt_of_lt_of_le (by have := World.block_lt_of_cell? _ _ hx149_0; first | rwa [add_block] at this | exact this) GW148.out); have hn149_2 : ad149.block ≠ gb148 := Nat.ne_of_lt (Nat.lt_of_lt_of_le (by have := World.block_lt_of_cell? _ _ hx149_0; first | rwa [add_block] at this | exact this) GW148.out); have hn149_3 : ad149.block ≠ gb148 := Nat.ne_of_lt (Nat.lt_of_lt_of_le (by have := World.block_lt_of_cell? _ _ hx149_0; first | rwa [add_block] at this | exact this) GW148.out); replace hx149_0 := (HB.out.cell (World.block_lt_of_cell? w _ hx149_0)).trans hx149_0; replace hx149_1 := (HB.out.cell (World.block_lt_of_cell? w _ hx149_1)).trans hx149_1; replace hx149_2 := (HB.out.cell (World.block_lt_of_cell? w _ hx149_2)).trans hx149_2; replace hx149_3 := (HB.out.cell (World.block_lt_of_cell? w _ hx149_3)).trans hx149_3; have HR149_3 := Aside0.mk hi149_3; have HC149_3 := Aside0.mk hl149_3; clear hi149_3 hl149_3; replace hx149_0 := (cell_far (p := ⟨gb148, 0, none⟩) (by first | (rw [add_block]; exact hn149_0) | (show (Addr.add _ _).block ≠ _; rw [add_block]; exact hn149_0) | exact hn149_0) (.int .u64 ((rd_T42 l0_1 x5_2).f0))).trans hx149_0; replace hx149_1 := (cell_far (p := ⟨gb148, 0, none⟩) (by first | (rw [add_block]; exact hn149_0) | (show (Addr.add _ _).block ≠ _; rw [add_block]; exact hn149_0) | exact hn149_0) (.int .u64 ((rd_T42 l0_1 x5_2).f0))).trans hx149_1; replace hx149_2 := (cell_far (p := ⟨gb148, 0, none⟩) (by first | (rw [add_block]; exact hn149_0) | (show (Addr.add _ _).block ≠ _; rw [add_block]; exact hn149_0) | exact hn149_0) (.int .u64 ((rd_T42 l0_1 x5_2).f0))).trans hx149_2; replace hx149_3 := (cell_far (p := ⟨gb148, 0, none⟩) (by first | (rw [add_block]; exact hn149_0) | (show (Addr.add _ _).block ≠ _; rw [add_block]; exact hn149_0) | exact hn149_0) (.int .u64 ((rd_T42 l0_1 x5_2).f0))).trans hx149_3; replace hx149_0 := (cell_far (p := ⟨gb148, 1, none⟩) (by first | (rw [add_block]; exact hn149_1) | (show (Addr.add _ _).block ≠ _; rw [add_block]; exact hn149_1) | exact hn149_1) (.int .u64 ((rd_T42 l0_1 x5_2).f1))).trans hx149_0; replace hx149_1 := (cell_far (p := ⟨gb148, 1, none⟩) (by first | (rw [add_block]; exact hn149_1) | (show (Addr.add _ _).block ≠ _; rw [add_block]; exact hn149_1) | exact hn149_1) (.int .u64 ((rd_T42 l0_1 x5_2).f1))).trans hx149_1; replace hx149_2 := (cell_far (p := ⟨gb148, 1, none⟩) (by first | (rw [add_block]; exact hn149_1) | (show (Addr.add _ _).block ≠ _; rw [add_block]; exact hn149_1) | exact hn149_1) (.int .u64 ((rd_T42 l0_1 x5_2).f1))).trans hx149_2; replace hx149_3 := (cell_far (p := ⟨gb148, 1, none⟩) (by first | (rw [add_block]; exact hn149_1) | (show (Addr.add _ _).block ≠ _; rw [add_block]; exact hn149_1) | exact hn149_1) (.int .u64 ((rd_T42 l0_1 x5_2).f1))).trans hx149_3; replace hx149_0 := (cell_far (p := ⟨gb148, 2, none⟩) (by first | (rw [add_block]; exact hn149_2) | (show (Addr.add _ _).block ≠ _; rw [add_block]; exact hn149_2) | exact hn149_2) (.int .i64 ((rd_T42 l0_1 x5_2).f2))).trans hx149_0; replace hx149_1 := (cell_far (p := ⟨gb148, 2, none⟩) (by first | (rw [add_block]; exact hn149_2) | (show (Addr.add _ _).block ≠ _; rw [add_block]; exact hn149_2) | exact hn149_2) (.int .i64 ((rd_T42 l0_1 x5_2).f2))).trans hx149_1; replace hx149_2 := (cell_far (p := ⟨gb148, 2, none⟩) (by first | (rw [add_block]; exact hn149_2) | (show (Addr.add _ _).block ≠ _; rw [add_block]; exact hn149_2) | exact hn149_2) (.int .i64 ((rd_T42 l0_1 x5_2).f2))).trans hx149_2; replace hx149_3 := (cell_far (p := ⟨gb148, 2, none⟩) (by first | (rw [add_block]; exact hn149_2) | (show (Addr.add _ _).block ≠ _; rw [add_block]; exact hn149_2) | exact hn149_2) (.int .i64 ((rd_T42 l0_1 x5_2).f2))).trans hx149_3; replace hx149_0 := (cell_far (p := ⟨gb148, 3, none⟩) (by first | (rw [add_block]; exact hn149_3) | (show (Addr.add _ _).block ≠ _; rw [add_block]; exact hn149_3) | exact hn149_3) (.slice A147_3 ((rd_T42 l0_1 x5_2).f3).length c147_3)).trans hx149_0; replace hx149_1 := (cell_far (p := ⟨gb148, 3, none⟩) (by first | (rw [add_block]; exact hn149_3) | (show (Addr.add _ _).block ≠ _; rw [add_block]; exact hn149_3) | exact hn149_3) (.slice A147_3 ((rd_T42 l0_1 x5_2).f3).length c147_3)).trans hx149_1; replace hx149_2 := (cell_far (p := ⟨gb148, 3, none⟩) (by first | (rw [add_block]; exact hn149_3) | (show (Addr.add _ _).block ≠ _; rw [add_block]; exact hn149_3) | exact hn149_3) (.slice A147_3 ((rd_T42 l0_1 x5_2).f3).length c147_3)).trans hx149_2; replace hx149_3 := (cell_far (p := ⟨gb148, 3, none⟩) (by first | (rw [add_block]; exact hn149_3) | (show (Addr.add _ _).block ≠ _; rw [add_block]; exact hn149_3) | exact hn149_3) (.slice A147_3 ((rd_T42 l0_1 x5_2).f3).length c147_3)).trans hx149_3; (try have hy149_0 := fun (n_ : Nat) => (show ((((((w20.drewN n_).setCell ⟨gb148, 0, none⟩ (.int .u64 ((rd_T42 l0_1 x5_2).f0))).setCell ⟨gb148, 1, none⟩ (.int .u64 ((rd_T42 l0_1 x5_2).f1))).setCell ⟨gb148, 2, none⟩ (.int .i64 ((rd_T42 l0_1 x5_2).f2))).setCell ⟨gb148, 3, none⟩ (.slice A147_3 ((rd_T42 l0_1 x5_2).f3).length c147_3))).cell? _ = some _ from hx149_0)); (try have hy149_1 := fun (n_ : Nat) => (show ((((((w20.drewN n_).setCell ⟨gb148, 0, none⟩ (.int .u64 ((rd_T42 l0_1 x5_2).f0))).setCell ⟨gb148, 1, none⟩ (.int .u64 ((rd_T42 l0_1 x5_2).f1))).setCell ⟨gb148, 2, none⟩ (.int .i64 ((rd_T42 l0_1 x5_2).f2))).setCell ⟨gb148, 3, none⟩ (.slice A147_3 ((rd_T42 l0_1 x5_2).f3).length c147_3))).cell? _ = some _ from hx149_1)); (try have hy149_2 := fun (n_ : Nat) => (show ((((((w20.drewN n_).setCell ⟨gb148, 0, none⟩ (.int .u64 ((rd_T42 l0_1 x5_2).f0))).setCell ⟨gb148, 1, none⟩ (.int .u64 ((rd_T42 l0_1 x5_2).f1))).setCell ⟨gb148, 2, none⟩ (.int .i64 ((rd_T42 l0_1 x5_2).f2))).setCell ⟨gb148, 3, none⟩ (.slice A147_3 ((rd_T42 l0_1 x5_2).f3).length c147_3))).cell? _ = some _ from hx149_2)); (try have hy149_3 := fun (n_ : Nat) => (show ((((((w20.drewN n_).setCell ⟨gb148, 0, none⟩ (.int .u64 ((rd_T42 l0_1 x5_2).f0))).setCell ⟨gb148, 1, none⟩ (.int .u64 ((rd_T42 l0_1 x5_2).f1))).setCell ⟨gb148, 2, none⟩ (.int .i64 ((rd_T42 l0_1 x5_2).f2))).setCell ⟨gb148, 3, none⟩ (.slice A147_3 ((rd_T42 l0_1 x5_2).f3).length c147_3))).cell? _ = some _ from hx149_3)); clear hn149_0; clear hn149_1; clear hn149_2; clear hn149_3; replace p149 := eq_true p149; replace q149 := eq_true q149) | ((with_reducible refine gate_dst (N := 7) rfl ?_); (try (refine gate_guard (by rfl) ?_; dsimp only)); refine box_event ?hg (N := 7) ?hd (cs := #[.int .u64 0, .int .u64 0, .int .i64 0, .slice none 0 0]) (t := 42) ?hr ?_; (case hd => rfl); (case hg => rfl); (case hr => first | (go_simp; done) | (go_simp; rfl)); intro gb150 hg w25 hbox hb; have n0_ := Aside0.mk (blk_below (g := gb145) (o := .cells #[.int .i64 a0_0, .slice (some ad147) l0_1.length c0_1] 24 (0, 0)) (by (with_reducible repeat (first | refine blk_drewN ?_ _ | refine blk_drew ?_ | refine blk_alloc ?_ _)); refine blk_far ?_ NB145_148.out _; (with_reducible repeat (first | refine blk_drewN ?_ _ | refine blk_drew ?_ | refine blk_alloc ?_ _)); refine blk_far ?_ NB145_148.out _; (with_reducible repeat (first | refine blk_drewN ?_ _ | refine blk_drew ?_ | refine blk_alloc ?_ _)); refine blk_far ?_ NB145_148.out _; (with_reducible repeat (first | refine blk_drewN ?_ _ | refine blk_drew ?_ | refine blk_alloc ?_ _)); refine blk_far ?_ NB145_148.out _; (with_reducible repeat (first | refine blk_drewN ?_ _ | refine blk_drew ?_ | refine blk_alloc ?_ _)); exact BK145.out) hb); have n1_ := Aside0.mk (blk_below (g := gb146) (o := .cells #[.int .i64 a1_0, .slice (some ad149) l1_1.length c1_1] 24 (0, 0)) (by (with_reducible repeat (first | refine blk_drewN ?_ _ | refine blk_drew ?_ | refine blk_alloc ?_ _)); refine blk_far ?_ NB146_148.out _; (with_reducible repeat (first | refine blk_drewN ?_ _ | refine blk_drew ?_ | refine blk_alloc ?_ _)); refine blk_far ?_ NB146_148.out _; (with_reducible repeat (first | refine blk_drewN ?_ _ | refine blk_drew ?_ | refine blk_alloc ?_ _)); refine blk_far ?_ NB146_148.out _; (with_reducible repeat (first | refine blk_drewN ?_ _ | refine blk_drew ?_ | refine blk_alloc ?_ _)); refine blk_far ?_ NB146_148.out _; (with_reducible repeat (first | refine blk_drewN ?_ _ | refine blk_drew ?_ | refine blk_alloc ?_ _)); exact BK146.out) hb); have n2_ := Aside0.mk (blk_below (g := gb148) (o := .cells #[.int .u64 ((rd_T42 l0_1 x5_2).f0), .int .u64 ((rd_T42 l0_1 x5_2).f1), .int .i64 ((rd_T42 l0_1 x5_2).f2), .slice A147_3 ((rd_T42 l0_1 x5_2).f3).length c147_3] 42 (0, 0)) (by (with_reducible repeat (first | refine blk_drewN ?_ _ | refine blk_drew ?_ | refine blk_alloc ?_ _)); refine blk_put (cs := #[.int .u64 ((rd_T42 l0_1 x5_2).f0), .int .u64 ((rd_T42 l0_1 x5_2).f1), .int .i64 ((rd_T42 l0_1 x5_2).f2), .slice none 0 0]) ?_ 3 _ rfl; (with_reducible repeat (first | refine blk_drewN ?_ _ | refine blk_drew ?_ | refine blk_alloc ?_ _)); refine blk_put (cs := #[.int .u64 ((rd_T42 l0_1 x5_2).f0), .int .u64 ((rd_T42 l0_1 x5_2).f1), .int .i64 0, .slice none 0 0]) ?_ 2 _ rfl; (with_reducible repeat (first | refine blk_drewN ?_ _ | refine blk_drew ?_ | refine blk_alloc ?_ _)); refine blk_put (cs := #[.int .u64 ((rd_T42 l0_1 x5_2).f0), .int .u64 0, .int .i64 0, .slice none 0 0]) ?_ 1 _ rfl; (with_reducible repeat (first | refine blk_drewN ?_ _ | refine blk_drew ?_ | refine blk_alloc ?_ _)); refine blk_put (cs := #[.int .u64 0, .int .u64 0, .int .i64 0, .slice none 0 0]) ?_ 0 _ rfl; (with_reducible repeat (first | refine blk_drewN ?_ _ | refine blk_drew ?_ | refine blk_alloc ?_ _)); exact BK148.out) hb); have n3_ := Aside0.mk (below_step (by repeat (first | (with_reducible first | exact HB.out | apply below_alloc | apply pw_below_drewN | apply below_drew1 | refine below_set ?_ GE145.out | refine below_set ?_ GE146.out | refine below_set ?_ GE148.out) | exact HB.out)) hb); have n4_ := Aside0.mk (hbox); have n5_ := Aside0.mk ((by rw [hg]; exact (below_size (by repeat (first | (with_reducible first | exact HB.out | apply below_alloc | apply pw_below_drewN | apply below_drew1 | refine below_set ?_ GE145.out | refine below_set ?_ GE146.out | refine below_set ?_ GE148.out) | exact HB.out))) : w.heap.size ≤ gb150)); have n6_ := Aside0.mk ((by rw [hg]; exact (below_size (by repeat (first | (with_reducible first | exact HB.out | apply below_alloc | apply pw_below_drewN | apply below_drew1 | refine below_set ?_ GE145.out | refine below_set ?_ GE146.out | refine below_set ?_ GE148.out) | exact HB.out))) : w.heap.size ≤ gb150)); have n7_ := Aside0.mk ((by rw [hg]; exact Nat.ne_of_lt (blk_lt (g := gb145) (o := .cells #[.int .i64 a0_0, .slice (some ad147) l0_1.length c0_1] 24 (0, 0)) (by (with_reducible repeat (first | refine blk_drewN ?_ _ | refine blk_drew ?_ | refine blk_alloc ?_ _)); refine blk_far ?_ NB145_148.out _; (with_reducible repeat (first | refine blk_drewN ?_ _ | refine blk_drew ?_ | refine blk_alloc ?_ _)); refine blk_far ?_ NB145_148.out _; (with_reducible repeat (first | refine blk_drewN ?_ _ | refine blk_drew ?_ | refine blk_alloc ?_ _)); refine blk_far ?_ NB145_148.out _; (with_reducible repeat (first | refine blk_drewN ?_ _ | refine blk_drew ?_ | refine blk_alloc ?_ _)); refine blk_far ?_ NB145_148.out _; (with_reducible repeat (first | refine blk_drewN ?_ _ | refine blk_drew ?_ | refine blk_alloc ?_ _)); exact BK145.out)) : gb145 ≠ gb150)); have n8_ := Aside0.mk ((by rw [hg]; exact Nat.ne_of_gt (blk_lt (g := gb145) (o := .cells #[.int .i64 a0_0, .slice (some ad147) l0_1.length c0_1] 24 (0, 0)) (by (with_reducible repeat (first | refine blk_drewN ?_ _ | refine blk_drew ?_ | refine blk_alloc ?_ _)); refine blk_far ?_ NB145_148.out _; (with_reducible repeat (first | refine blk_drewN ?_ _ | refine blk_drew ?_ | refine blk_alloc ?_ _)); refine blk_far ?_ NB145_148.out _; (with_reducible repeat (first | refine blk_drewN ?_ _ | refine blk_drew ?_ | refine blk_alloc ?_ _)); refine blk_far ?_ NB145_148.out _; (with_reducible repeat (first | refine blk_drewN ?_ _ | refine blk_drew ?_ | refine blk_alloc ?_ _)); refine blk_far ?_ NB145_148.out _; (with_reducible repeat (first | refine blk_drewN ?_ _ | refine blk_drew ?_ | refine blk_alloc ?_ _)); exact BK145.out)) : gb150 ≠ gb145)); have n9_ := Aside0.mk ((by rw [hg]; exact Nat.ne_of_lt (blk_lt (g := gb146) (o := .cells #[.int .i64 a1_0, .slice (some ad149) l1_1.length c1_1] 24 (0, 0)) (by (with_reducible repeat (first | refine blk_drewN ?_ _ | refine blk_drew ?_ | refine blk_alloc ?_ _)); refine blk_far ?_ NB146_148.out _; (with_reducible repeat (first | refine blk_drewN ?_ _ | refine blk_drew ?_ | refine blk_alloc ?_ _)); refine blk_far ?_ NB146_148.out _; (with_reducible repeat (first | refine blk_drewN ?_ _ | refine blk_drew ?_ | refine blk_alloc ?_ _)); refine blk_far ?_ NB146_148.out _; (with_reducible repeat (first | refine blk_drewN ?_ _ | refine blk_drew ?_ | refine blk_alloc ?_ _)); refine blk_far ?_ NB146_148.out _; (with_reducible repeat (first | refine blk_drewN ?_ _ | refine blk_drew ?_ | refine blk_alloc ?_ _)); exact BK146.out)) : gb146 ≠ gb150)); have n10_ := Aside0.mk ((by rw [hg]; exact Nat.ne_of_gt (blk_lt (g := gb146) (o := .cells #[.int .i64 a1_0, .slice (some ad149) l1_1.length c1_1] 24 (0, 0)) (by (with_reducible repeat (first | refine blk_drewN ?_ _ | refine blk_drew ?_ | refine blk_alloc ?_ _)); refine blk_far ?_ NB146_148.out _; (with_reducible repeat (first | refine blk_drewN ?_ _ | refine blk_drew ?_ | refine blk_alloc ?_ _)); refine blk_far ?_ NB146_148.out _; (with_reducible repeat (first | refine blk_drewN ?_ _ | refine blk_drew ?_ | refine blk_alloc ?_ _)); refine blk_far ?_ NB146_148.out _; (with_reducible repeat (first | refine blk_drewN ?_ _ | refine blk_drew ?_ | refine blk_alloc ?_ _)); refine blk_far ?_ NB146_148.out _; (with_reducible repeat (first | refine blk_drewN ?_ _ | refine blk_drew ?_ | refine blk_alloc ?_ _)); exact BK146.out)) : gb150 ≠ gb146)); have n11_ := Aside0.mk ((by rw [hg]; exact Nat.ne_of_lt (blk_lt (g := gb148) (o := .cells #[.int .u64 ((rd_T42 l0_1 x5_2).f0), .int .u64 ((rd_T42 l0_1 x5_2).f1), .int .i64 ((rd_T42 l0_1 x5_2).f2), .slice A147_3 ((rd_T42 l0_1 x5_2).f3).length c147_3] 42 (0, 0)) (by (with_reducible repeat (first | refine blk_drewN ?_ _ | refine blk_drew ?_ | refine blk_alloc ?_ _)); refine blk_put (cs := #[.int .u64 ((rd_T42 l0_1 x5_2).f0), .int .u64 ((rd_T42 l0_1 x5_2).f1), .int .i64 ((rd_T42 l0_1 x5_2).f2), .slice none 0 0]) ?_ 3 _ rfl; (with_reducible repeat (first | refine blk_drewN ?_ _ | refine blk_drew ?_ | refine blk_alloc ?_ _)); refine blk_put (cs := #[.int .u64 ((rd_T42 l0_1 x5_2).f0), .int .u64 ((rd_T42 l0_1 x5_2).f1), .int .i64 0, .slice none 0 0]) ?_ 2 _ rfl; (with_reducible repeat (first | refine blk_drewN ?_ _ | refine blk_drew ?_ | refine blk_alloc ?_ _)); refine blk_put (cs := #[.int .u64 ((rd_T42 l0_1 x5_2).f0), .int .u64 0, .int .i64 0, .slice none 0 0]) ?_ 1 _ rfl; (with_reducible repeat (first | refine blk_drewN ?_ _ | refine blk_drew ?_ | refine blk_alloc ?_ _)); refine blk_put (cs := #[.int .u64 0, .int .u64 0, .int .i64 0, .slice none 0 0]) ?_ 0 _ rfl; (with_reducible repeat (first | refine blk_drewN ?_ _ | refine blk_drew ?_ | refine blk_alloc ?_ _)); exact BK148.out)) : gb148 ≠ gb150)); have n12_ := Aside0.mk ((by rw [hg]; exact Nat.ne_of_gt (blk_lt (g := gb148) (o := .cells #[.int .u64 ((rd_T42 l0_1 x5_2).f0), .int .u64 ((rd_T42 l0_1 x5_2).f1), .int .i64 ((rd_T42 l0_1 x5_2).f2), .slice A147_3 ((rd_T42 l0_1 x5_2).f3).length c147_3] 42 (0, 0)) (by (with_reducible repeat (first | refine blk_drewN ?_ _ | refine blk_drew ?_ | refine blk_alloc ?_ _)); refine blk_put (cs := #[.int .u64 ((rd_T42 l0_1 x5_2).f0), .int .u64 ((rd_T42 l0_1 x5_2).f1), .int .i64 ((rd_T42 l0_1 x5_2).f2), .slice none 0 0]) ?_ 3 _ rfl; (with_reducible repeat (first | refine blk_drewN ?_ _ | refine blk_drew ?_ | refine blk_alloc ?_ _)); refine blk_put (cs := #[.int .u64 ((rd_T42 l0_1 x5_2).f0), .int .u64 ((rd_T42 l0_1 x5_2).f1), .int .i64 0, .slice none 0 0]) ?_ 2 _ rfl; (with_reducible repeat (first | refine blk_drewN ?_ _ | refine blk_drew ?_ | refine blk_alloc ?_ _)); refine blk_put (cs := #[.int .u64 ((rd_T42 l0_1 x5_2).f0), .int .u64 0, .int .i64 0, .slice none 0 0]) ?_ 1 _ rfl; (with_reducible repeat (first | refine blk_drewN ?_ _ | refine blk_drew ?_ | refine blk_alloc ?_ _)); refine blk_put (cs := #[.int .u64 0, .int .u64 0, .int .i64 0, .slice none 0 0]) ?_ 0 _ rfl; (with_reducible repeat (first | refine blk_drewN ?_ _ | refine blk_drew ?_ | refine blk_alloc ?_ _)); exact BK148.out)) : gb150 ≠ gb148)); clear BK145; clear BK146; clear BK148; clear HB; have BK145 := n0_; have BK146 := n1_; have BK148 := n2_; have HB := n3_; have BK150 := n4_; have GW150 := n5_; have GE150 := n6_; have NB145_150 := n7_; have NB150_145 := n8_; have NB146_150 := n9_; have NB150_146 := n10_; have NB148_150 := n11_; have NB150_148 := n12_; clear n0_ n1_ n2_ n3_ n4_ n5_ n6_ n7_ n8_ n9_ n10_ n11_ n12_; clear hb hbox hg; have hnb26 := NB150_145.out; have hnc26 := NB145_150.out; have hnb27 := NB150_146.out; have hnc27 := NB146_150.out; have hnb28 := NB150_148.out; have hnc28 := NB148_150.out; have hcz29_0 : w25.cell? ⟨gb150, 0, none⟩ = some (.int .u64 0) := (blk_cell BK150.out 0).trans rfl; have hcz29_1 : w25.cell? ⟨gb150, 1, none⟩ = some (.int .u64 0) := (blk_cell BK150.out 1).trans rfl; have hcz29_2 : w25.cell? ⟨gb150, 2, none⟩ = some (.int .i64 0) := (blk_cell BK150.out 2).trans rfl; have hcz29_3 : w25.cell? ⟨gb150, 3, none⟩ = some (.slice none 0 0) := (blk_cell BK150.out 3).trans rfl; have hfz29_0 := blk_frozen BK150.out 0; have hfz29_1 := blk_frozen BK150.out 1; have hfz29_2 := blk_frozen BK150.out 2; have hfz29_3 := blk_frozen BK150.out 3)); go_upto_region 8 with (first | ((with_reducible refine gate_dst (N := 6) rfl ?_); (try (refine gate_guard (by rfl) ?_; dsimp only)); refine box_event ?hg (N := 6) ?hd (cs := #[.int .u64 0, .int .u64 0, .int .i64 0, .slice none 0 0]) (t := 42) ?hr ?_; (case hd => rfl); (case hg => rfl); (case hr => first | (go_simp; done) | (go_simp; rfl)); intro gb148 hg w20 hbox hb; have n0_ := Aside0.mk (blk_below (g := gb145) (o := .cells #[.int .i64 a0_0, .slice (some ad147) l0_1.length c0_1] 24 (0, 0)) (by (with_reducible repeat (first | refine blk_drewN ?_ _ | refine blk_drew ?_ | refine blk_alloc ?_ _)); exact BK145.out) hb); have n1_ := Aside0.mk (blk_below (g := gb146) (o := .cells #[.int .i64 a1_0, .slice A1_1 l1_1.length c1_1] 24 (0, 0)) (by (with_reducible repeat (first | refine blk_drewN ?_ _ | refine blk_drew ?_ | refine blk_alloc ?_ _)); exact BK146.out) hb); have n2_ := Aside0.mk (below_step (by repeat (first | (with_reducible first | exact HB.out | apply below_alloc | apply pw_below_drewN | apply below_drew1 | refine below_set ?_ GE145.out | refine below_set ?_ GE146.out) | exact HB.out)) hb); have n3_ := Aside0.mk (hbox); have n4_ := Aside0.mk ((by rw [hg]; exact (below_size (by repeat (first | (with_reducible first | exact HB.out | apply below_alloc | apply pw_below_drewN | apply below_drew1 | refine below_set ?_ GE145.out | refine below_set ?_ GE146.out) | exact HB.out))) : w.heap.size ≤ gb148)); have n5_ := Aside0.mk ((by rw [hg]; exact (below_size (by repeat (first | (with_reducible first | exact HB.out | apply below_alloc | apply pw_below_drewN | apply below_drew1 | refine below_set ?_ GE145.out | refine below_set ?_ GE146.out) | exact HB.out))) : w.heap.size ≤ gb148)); have n6_ := Aside0.mk ((by rw [hg]; exact Nat.ne_of_lt (blk_lt (g := gb145) (o := .cells #[.int .i64 a0_0, .slice (some ad147) l0_1.length c0_1] 24 (0, 0)) (by (with_reducible repeat (first | refine blk_drewN ?_ _ | refine blk_drew ?_ | refine blk_alloc ?_ _)); exact BK145.out)) : gb145 ≠ gb148)); have n7_ := Aside0.mk ((by rw [hg]; exact Nat.ne_of_gt (blk_lt (g := gb145) (o := .cells #[.int .i64 a0_0, .slice (some ad147) l0_1.length c0_1] 24 (0, 0)) (by (with_reducible repeat (first | refine blk_drewN ?_ _ | refine blk_drew ?_ | refine blk_alloc ?_ _)); exact BK145.out)) : gb148 ≠ gb145)); have n8_ := Aside0.mk ((by rw [hg]; exact Nat.ne_of_lt (blk_lt (g := gb146) (o := .cells #[.int .i64 a1_0, .slice A1_1 l1_1.length c1_1] 24 (0, 0)) (by (with_reducible repeat (first | refine blk_drewN ?_ _ | refine blk_drew ?_ | refine blk_alloc ?_ _)); exact BK146.out)) : gb146 ≠ gb148)); have n9_ := Aside0.mk ((by rw [hg]; exact Nat.ne_of_gt (blk_lt (g := gb146) (o := .cells #[.int .i64 a1_0, .slice A1_1 l1_1.length c1_1] 24 (0, 0)) (by (with_reducible repeat (first | refine blk_drewN ?_ _ | refine blk_drew ?_ | refine blk_alloc ?_ _)); exact BK146.out)) : gb148 ≠ gb146)); clear BK145; clear BK146; clear HB; have BK145 := n0_; have BK146 := n1_; have HB := n2_; have BK148 := n3_; have GW148 := n4_; have GE148 := n5_; have NB145_148 := n6_; have NB148_145 := n7_; have NB146_148 := n8_; have NB148_146 := n9_; clear n0_ n1_ n2_ n3_ n4_ n5_ n6_ n7_ n8_ n9_; clear hb hbox hg; have hnb21 := NB148_145.out; have hnc21 := NB145_148.out; have hnb22 := NB148_146.out; have hnc22 := NB146_148.out; have hcz23_0 : w20.cell? ⟨gb148, 0, none⟩ = some (.int .u64 0) := (blk_cell BK148.out 0).trans rfl; have hcz23_1 : w20.cell? ⟨gb148, 1, none⟩ = some (.int .u64 0) := (blk_cell BK148.out 1).trans rfl; have hcz23_2 : w20.cell? ⟨gb148, 2, none⟩ = some (.int .i64 0) := (blk_cell BK148.out 2).trans rfl; have hcz23_3 : w20.cell? ⟨gb148, 3, none⟩ = some (.slice none 0 0) := (blk_cell BK148.out 3).trans rfl; have hfz23_0 := blk_frozen BK148.out 0; have hfz23_1 := blk_frozen BK148.out 1; have hfz23_2 := blk_frozen BK148.out 2; have hfz23_3 := blk_frozen BK148.out 3; have hcz24_0 : w20.cell? ⟨gb146, 0, none⟩ = some (.int .i64 a1_0) := (blk_cell BK146.out 0).trans rfl; have hcz24_1 : w20.cell? ⟨gb146, 1, none⟩ = some (.slice A1_1 l1_1.length c1_1) := (blk_cell BK146.out 1).trans rfl; have hfz24_0 := blk_frozen BK146.out 0; have hfz24_1 := blk_frozen BK146.out 1; have p149 : 0 ≤ (x5_2 : Int) := of_decide_eq_true (by first | (with_reducible assumption) | assumption); have q149 : x5_2 < (l1_1.length : Int) := of_decide_eq_true (by first | (with_reducible assumption) | assumption); obtain ⟨ad149, A149_3, c149_3, e149, hx149_0, hx149_1, hx149_2, hx149_3, hl149_3, hi149_3⟩ := at_T42 HR1_1.out x5_2 p149 q149; cases e149; have hn149_0 : ad149.block ≠ gb148 := Nat.ne_of_lt (Nat.lt_of_lt_of_le (by have := World.block_lt_of_cell? _ _ hx149_0; first | rwa [add_block] at this | exact this) GW148.out); have hn149_1 : ad149.block ≠ gb148 := Nat.ne_of_lt (Nat.lt_of_lt_of_le (by have := World.block_lt_of_cell? _ _ hx149_0; first | rwa [add_block] at this | exact this) GW148.out); have hn149_2 : ad149.block ≠ gb148 := Nat.ne_of_lt (Nat.lt_of_lt_of_le (by have := World.block_lt_of_cell? _ _ hx149_0; first | rwa [add_block] at this | exact this) GW148.out); have hn149_3 : ad149.block ≠ gb148 := Nat.ne_of_lt (Nat.lt_of_lt_of_le (by have := World.block_lt_of_cell? _ _ hx149_0; first | rwa [add_block] at this | exact this) GW148.out); replace hx149_0 := (HB.out.cell (World.block_lt_of_cell? w _ hx149_0)).trans hx149_0; replace hx149_1 := (HB.out.cell (World.block_lt_of_cell? w _ hx149_1)).trans hx149_1; replace hx149_2 := (HB.out.cell (World.block_lt_of_cell? w _ hx149_2)).trans hx149_2; replace hx149_3 := (HB.out.cell (World.block_lt_of_cell? w _ hx149_3)).trans hx149_3; have HR149_3 := Aside0.mk hi149_3; have HC149_3 := Aside0.mk hl149_3; clear hi149_3 hl149_3; replace hx149_0 := (cell_far (p := ⟨gb148, 0, none⟩) (by first | (rw [add_block]; exact hn149_0) | (show (Addr.add _ _).block ≠ _; rw [add_block]; exact hn149_0) | exact hn149_0) (.int .u64 ((rd_T42 l0_1 x5_2).f0))).trans hx149_0; replace hx149_1 := (cell_far (p := ⟨gb148, 0, none⟩) (by first | (rw [add_block]; exact hn149_0) | (show (Addr.add _ _).block ≠ _; rw [add_block]; exact hn149_0) | exact hn149_0) (.int .u64 ((rd_T42 l0_1 x5_2).f0))).trans hx149_1; replace hx149_2 := (cell_far (p := ⟨gb148, 0, none⟩) (by first | (rw [add_block]; exact hn149_0) | (show (Addr.add _ _).block ≠ _; rw [add_block]; exact hn149_0) | exact hn149_0) (.int .u64 ((rd_T42 l0_1 x5_2).f0))).trans hx149_2; replace hx149_3 := (cell_far (p := ⟨gb148, 0, none⟩) (by first | (rw [add_block]; exact hn149_0) | (show (Addr.add _ _).block ≠ _; rw [add_block]; exact hn149_0) | exact hn149_0) (.int .u64 ((rd_T42 l0_1 x5_2).f0))).trans hx149_3; replace hx149_0 := (cell_far (p := ⟨gb148, 1, none⟩) (by first | (rw [add_block]; exact hn149_1) | (show (Addr.add _ _).block ≠ _; rw [add_block]; exact hn149_1) | exact hn149_1) (.int .u64 ((rd_T42 l0_1 x5_2).f1))).trans hx149_0; replace hx149_1 := (cell_far (p := ⟨gb148, 1, none⟩) (by first | (rw [add_block]; exact hn149_1) | (show (Addr.add _ _).block ≠ _; rw [add_block]; exact hn149_1) | exact hn149_1) (.int .u64 ((rd_T42 l0_1 x5_2).f1))).trans hx149_1; replace hx149_2 := (cell_far (p := ⟨gb148, 1, none⟩) (by first | (rw [add_block]; exact hn149_1) | (show (Addr.add _ _).block ≠ _; rw [add_block]; exact hn149_1) | exact hn149_1) (.int .u64 ((rd_T42 l0_1 x5_2).f1))).trans hx149_2; replace hx149_3 := (cell_far (p := ⟨gb148, 1, none⟩) (by first | (rw [add_block]; exact hn149_1) | (show (Addr.add _ _).block ≠ _; rw [add_block]; exact hn149_1) | exact hn149_1) (.int .u64 ((rd_T42 l0_1 x5_2).f1))).trans hx149_3; replace hx149_0 := (cell_far (p := ⟨gb148, 2, none⟩) (by first | (rw [add_block]; exact hn149_2) | (show (Addr.add _ _).block ≠ _; rw [add_block]; exact hn149_2) | exact hn149_2) (.int .i64 ((rd_T42 l0_1 x5_2).f2))).trans hx149_0; replace hx149_1 := (cell_far (p := ⟨gb148, 2, none⟩) (by first | (rw [add_block]; exact hn149_2) | (show (Addr.add _ _).block ≠ _; rw [add_block]; exact hn149_2) | exact hn149_2) (.int .i64 ((rd_T42 l0_1 x5_2).f2))).trans hx149_1; replace hx149_2 := (cell_far (p := ⟨gb148, 2, none⟩) (by first | (rw [add_block]; exact hn149_2) | (show (Addr.add _ _).block ≠ _; rw [add_block]; exact hn149_2) | exact hn149_2) (.int .i64 ((rd_T42 l0_1 x5_2).f2))).trans hx149_2; replace hx149_3 := (cell_far (p := ⟨gb148, 2, none⟩) (by first | (rw [add_block]; exact hn149_2) | (show (Addr.add _ _).block ≠ _; rw [add_block]; exact hn149_2) | exact hn149_2) (.int .i64 ((rd_T42 l0_1 x5_2).f2))).trans hx149_3; replace hx149_0 := (cell_far (p := ⟨gb148, 3, none⟩) (by first | (rw [add_block]; exact hn149_3) | (show (Addr.add _ _).block ≠ _; rw [add_block]; exact hn149_3) | exact hn149_3) (.slice A147_3 ((rd_T42 l0_1 x5_2).f3).length c147_3)).trans hx149_0; replace hx149_1 := (cell_far (p := ⟨gb148, 3, none⟩) (by first | (rw [add_block]; exact hn149_3) | (show (Addr.add _ _).block ≠ _; rw [add_block]; exact hn149_3) | exact hn149_3) (.slice A147_3 ((rd_T42 l0_1 x5_2).f3).length c147_3)).trans hx149_1; replace hx149_2 := (cell_far (p := ⟨gb148, 3, none⟩) (by first | (rw [add_block]; exact hn149_3) | (show (Addr.add _ _).block ≠ _; rw [add_block]; exact hn149_3) | exact hn149_3) (.slice A147_3 ((rd_T42 l0_1 x5_2).f3).length c147_3)).trans hx149_2; replace hx149_3 := (cell_far (p := ⟨gb148, 3, none⟩) (by first | (rw [add_block]; exact hn149_3) | (show (Addr.add _ _).block ≠ _; rw [add_block]; exact hn149_3) | exact hn149_3) (.slice A147_3 ((rd_T42 l0_1 x5_2).f3).length c147_3)).trans hx149_3; (try have hy149_0 := fun (n_ : Nat) => (show ((((((w20.drewN n_).setCell ⟨gb148, 0, none⟩ (.int .u64 ((rd_T42 l0_1 x5_2).f0))).setCell ⟨gb148, 1, none⟩ (.int .u64 ((rd_T42 l0_1 x5_2).f1))).setCell ⟨gb148, 2, none⟩ (.int .i64 ((rd_T42 l0_1 x5_2).f2))).setCell ⟨gb148, 3, none⟩ (.slice A147_3 ((rd_T42 l0_1 x5_2).f3).length c147_3))).cell? _ = some _ from hx149_0)); (try have hy149_1 := fun (n_ : Nat) => (show ((((((w20.drewN n_).setCell ⟨gb148, 0, none⟩ (.int .u64 ((rd_T42 l0_1 x5_2).f0))).setCell ⟨gb148, 1, none⟩ (.int .u64 ((rd_T42 l0_1 x5_2).f1))).setCell ⟨gb148, 2, none⟩ (.int .i64 ((rd_T42 l0_1 x5_2).f2))).setCell ⟨gb148, 3, none⟩ (.slice A147_3 ((rd_T42 l0_1 x5_2).f3).length c147_3))).cell? _ = some _ from hx149_1)); (try have hy149_2 := fun (n_ : Nat) => (show ((((((w20.drewN n_).setCell ⟨gb148, 0, none⟩ (.int .u64 ((rd_T42 l0_1 x5_2).f0))).setCell ⟨gb148, 1, none⟩ (.int .u64 ((rd_T42 l0_1 x5_2).f1))).setCell ⟨gb148, 2, none⟩ (.int .i64 ((rd_T42 l0_1 x5_2).f2))).setCell ⟨gb148, 3, none⟩ (.slice A147_3 ((rd_T42 l0_1 x5_2).f3).length c147_3))).cell? _ = some _ from hx149_2)); (try have hy149_3 := fun (n_ : Nat) => (show ((((((w20.drewN n_).setCell ⟨gb148, 0, none⟩ (.int .u64 ((rd_T42 l0_1 x5_2).f0))).setCell ⟨gb148, 1, none⟩ (.int .u64 ((rd_T42 l0_1 x5_2).f1))).setCell ⟨gb148, 2, none⟩ (.int .i64 ((rd_T42 l0_1 x5_2).f2))).setCell ⟨gb148, 3, none⟩ (.slice A147_3 ((rd_T42 l0_1 x5_2).f3).length c147_3))).cell? _ = some _ from hx149_3)); clear hn149_0; clear hn149_1; clear hn149_2; clear hn149_3; replace p149 := eq_true p149; replace q149 := eq_true q149) | ((with_reducible refine gate_dst (N := 7) rfl ?_); (try (refine gate_guard (by rfl) ?_; dsimp only)); refine box_event ?hg (N := 7) ?hd (cs := #[.int .u64 0, .int .u64 0, .int .i64 0, .slice none 0 0]) (t := 42) ?hr ?_; (case hd => rfl); (case hg => rfl); (case hr => first | (go_simp; done) | (go_simp; rfl)); intro gb150 hg w25 hbox hb; have n0_ := Aside0.mk (blk_below (g := gb145) (o := .cells #[.int .i64 a0_0, .slice (some ad147) l0_1.length c0_1] 24 (0, 0)) (by (with_reducible repeat (first | refine blk_drewN ?_ _ | refine blk_drew ?_ | refine blk_alloc ?_ _)); refine blk_far ?_ NB145_148.out _; (with_reducible repeat (first | refine blk_drewN ?_ _ | refine blk_drew ?_ | refine blk_alloc ?_ _)); refine blk_far ?_ NB145_148.out _; (with_reducible repeat (first | refine blk_drewN ?_ _ | refine blk_drew ?_ | refine blk_alloc ?_ _)); refine blk_far ?_ NB145_148.out _; (with_reducible repeat (first | refine blk_drewN ?_ _ | refine blk_drew ?_ | refine blk_alloc ?_ _)); refine blk_far ?_ NB145_148.out _; (with_reducible repeat (first | refine blk_drewN ?_ _ | refine blk_drew ?_ | refine blk_alloc ?_ _)); exact BK145.out) hb); have n1_ := Aside0.mk (blk_below (g := gb146) (o := .cells #[.int .i64 a1_0, .slice (some ad149) l1_1.length c1_1] 24 (0, 0)) (by (with_reducible repeat (first | refine blk_drewN ?_ _ | refine blk_drew ?_ | refine blk_alloc ?_ _)); refine blk_far ?_ NB146_148.out _; (with_reducible repeat (first | refine blk_drewN ?_ _ | refine blk_drew ?_ | refine blk_alloc ?_ _)); refine blk_far ?_ NB146_148.out _; (with_reducible repeat (first | refine blk_drewN ?_ _ | refine blk_drew ?_ | refine blk_alloc ?_ _)); refine blk_far ?_ NB146_148.out _; (with_reducible repeat (first | refine blk_drewN ?_ _ | refine blk_drew ?_ | refine blk_alloc ?_ _)); refine blk_far ?_ NB146_148.out _; (with_reducible repeat (first | refine blk_drewN ?_ _ | refine blk_drew ?_ | refine blk_alloc ?_ _)); exact BK146.out) hb); have n2_ := Aside0.mk (blk_below (g := gb148) (o := .cells #[.int .u64 ((rd_T42 l0_1 x5_2).f0), .int .u64 ((rd_T42 l0_1 x5_2).f1), .int .i64 ((rd_T42 l0_1 x5_2).f2), .slice A147_3 ((rd_T42 l0_1 x5_2).f3).length c147_3] 42 (0, 0)) (by (with_reducible repeat (first | refine blk_drewN ?_ _ | refine blk_drew ?_ | refine blk_alloc ?_ _)); refine blk_put (cs := #[.int .u64 ((rd_T42 l0_1 x5_2).f0), .int .u64 ((rd_T42 l0_1 x5_2).f1), .int .i64 ((rd_T42 l0_1 x5_2).f2), .slice none 0 0]) ?_ 3 _ rfl; (with_reducible repeat (first | refine blk_drewN ?_ _ | refine blk_drew ?_ | refine blk_alloc ?_ _)); refine blk_put (cs := #[.int .u64 ((rd_T42 l0_1 x5_2).f0), .int .u64 ((rd_T42 l0_1 x5_2).f1), .int .i64 0, .slice none 0 0]) ?_ 2 _ rfl; (with_reducible repeat (first | refine blk_drewN ?_ _ | refine blk_drew ?_ | refine blk_alloc ?_ _)); refine blk_put (cs := #[.int .u64 ((rd_T42 l0_1 x5_2).f0), .int .u64 0, .int .i64 0, .slice none 0 0]) ?_ 1 _ rfl; (with_reducible repeat (first | refine blk_drewN ?_ _ | refine blk_drew ?_ | refine blk_alloc ?_ _)); refine blk_put (cs := #[.int .u64 0, .int .u64 0, .int .i64 0, .slice none 0 0]) ?_ 0 _ rfl; (with_reducible repeat (first | refine blk_drewN ?_ _ | refine blk_drew ?_ | refine blk_alloc ?_ _)); exact BK148.out) hb); have n3_ := Aside0.mk (below_step (by repeat (first | (with_reducible first | exact HB.out | apply below_alloc | apply pw_below_drewN | apply below_drew1 | refine below_set ?_ GE145.out | refine below_set ?_ GE146.out | refine below_set ?_ GE148.out) | exact HB.out)) hb); have n4_ := Aside0.mk (hbox); have n5_ := Aside0.mk ((by rw [hg]; exact (below_size (by repeat (first | (with_reducible first | exact HB.out | apply below_alloc | apply pw_below_drewN | apply below_drew1 | refine below_set ?_ GE145.out | refine below_set ?_ GE146.out | refine below_set ?_ GE148.out) | exact HB.out))) : w.heap.size ≤ gb150)); have n6_ := Aside0.mk ((by rw [hg]; exact (below_size (by repeat (first | (with_reducible first | exact HB.out | apply below_alloc | apply pw_below_drewN | apply below_drew1 | refine below_set ?_ GE145.out | refine below_set ?_ GE146.out | refine below_set ?_ GE148.out) | exact HB.out))) : w.heap.size ≤ gb150)); have n7_ := Aside0.mk ((by rw [hg]; exact Nat.ne_of_lt (blk_lt (g := gb145) (o := .cells #[.int .i64 a0_0, .slice (some ad147) l0_1.length c0_1] 24 (0, 0)) (by (with_reducible repeat (first | refine blk_drewN ?_ _ | refine blk_drew ?_ | refine blk_alloc ?_ _)); refine blk_far ?_ NB145_148.out _; (with_reducible repeat (first | refine blk_drewN ?_ _ | refine blk_drew ?_ | refine blk_alloc ?_ _)); refine blk_far ?_ NB145_148.out _; (with_reducible repeat (first | refine blk_drewN ?_ _ | refine blk_drew ?_ | refine blk_alloc ?_ _)); refine blk_far ?_ NB145_148.out _; (with_reducible repeat (first | refine blk_drewN ?_ _ | refine blk_drew ?_ | refine blk_alloc ?_ _)); refine blk_far ?_ NB145_148.out _; (with_reducible repeat (first | refine blk_drewN ?_ _ | refine blk_drew ?_ | refine blk_alloc ?_ _)); exact BK145.out)) : gb145 ≠ gb150)); have n8_ := Aside0.mk ((by rw [hg]; exact Nat.ne_of_gt (blk_lt (g := gb145) (o := .cells #[.int .i64 a0_0, .slice (some ad147) l0_1.length c0_1] 24 (0, 0)) (by (with_reducible repeat (first | refine blk_drewN ?_ _ | refine blk_drew ?_ | refine blk_alloc ?_ _)); refine blk_far ?_ NB145_148.out _; (with_reducible repeat (first | refine blk_drewN ?_ _ | refine blk_drew ?_ | refine blk_alloc ?_ _)); refine blk_far ?_ NB145_148.out _; (with_reducible repeat (first | refine blk_drewN ?_ _ | refine blk_drew ?_ | refine blk_alloc ?_ _)); refine blk_far ?_ NB145_148.out _; (with_reducible repeat (first | refine blk_drewN ?_ _ | refine blk_drew ?_ | refine blk_alloc ?_ _)); refine blk_far ?_ NB145_148.out _; (with_reducible repeat (first | refine blk_drewN ?_ _ | refine blk_drew ?_ | refine blk_alloc ?_ _)); exact BK145.out)) : gb150 ≠ gb145)); have n9_ := Aside0.mk ((by rw [hg]; exact Nat.ne_of_lt (blk_lt (g := gb146) (o := .cells #[.int .i64 a1_0, .slice (some ad149) l1_1.length c1_1] 24 (0, 0)) (by (with_reducible repeat (first | refine blk_drewN ?_ _ | refine blk_drew ?_ | refine blk_alloc ?_ _)); refine blk_far ?_ NB146_148.out _; (with_reducible repeat (first | refine blk_drewN ?_ _ | refine blk_drew ?_ | refine blk_alloc ?_ _)); refine blk_far ?_ NB146_148.out _; (with_reducible repeat (first | refine blk_drewN ?_ _ | refine blk_drew ?_ | refine blk_alloc ?_ _)); refine blk_far ?_ NB146_148.out _; (with_reducible repeat (first | refine blk_drewN ?_ _ | refine blk_drew ?_ | refine blk_alloc ?_ _)); refine blk_far ?_ NB146_148.out _; (with_reducible repeat (first | refine blk_drewN ?_ _ | refine blk_drew ?_ | refine blk_alloc ?_ _)); exact BK146.out)) : gb146 ≠ gb150)); have n10_ := Aside0.mk ((by rw [hg]; exact Nat.ne_of_gt (blk_lt (g := gb146) (o := .cells #[.int .i64 a1_0, .slice (some ad149) l1_1.length c1_1] 24 (0, 0)) (by (with_reducible repeat (first | refine blk_drewN ?_ _ | refine blk_drew ?_ | refine blk_alloc ?_ _)); refine blk_far ?_ NB146_148.out _; (with_reducible repeat (first | refine blk_drewN ?_ _ | refine blk_drew ?_ | refine blk_alloc ?_ _)); refine blk_far ?_ NB146_148.out _; (with_reducible repeat (first | refine blk_drewN ?_ _ | refine blk_drew ?_ | refine blk_alloc ?_ _)); refine blk_far ?_ NB146_148.out _; (with_reducible repeat (first | refine blk_drewN ?_ _ | refine blk_drew ?_ | refine blk_alloc ?_ _)); refine blk_far ?_ NB146_148.out _; (with_reducible repeat (first | refine blk_drewN ?_ _ | refine blk_drew ?_ | refine blk_alloc ?_ _)); exact BK146.out)) : gb150 ≠ gb146)); have n11_ := Aside0.mk ((by rw [hg]; exact Nat.ne_of_lt (blk_lt (g := gb148) (o := .cells #[.int .u64 ((rd_T42 l0_1 x5_2).f0), .int .u64 ((rd_T42 l0_1 x5_2).f1), .int .i64 ((rd_T42 l0_1 x5_2).f2), .slice A147_3 ((rd_T42 l0_1 x5_2).f3).length c147_3] 42 (0, 0)) (by (with_reducible repeat (first | refine blk_drewN ?_ _ | refine blk_drew ?_ | refine blk_alloc ?_ _)); refine blk_put (cs := #[.int .u64 ((rd_T42 l0_1 x5_2).f0), .int .u64 ((rd_T42 l0_1 x5_2).f1), .int .i64 ((rd_T42 l0_1 x5_2).f2), .slice none 0 0]) ?_ 3 _ rfl; (with_reducible repeat (first | refine blk_drewN ?_ _ | refine blk_drew ?_ | refine blk_alloc ?_ _)); refine blk_put (cs := #[.int .u64 ((rd_T42 l0_1 x5_2).f0), .int .u64 ((rd_T42 l0_1 x5_2).f1), .int .i64 0, .slice none 0 0]) ?_ 2 _ rfl; (with_reducible repeat (first | refine blk_drewN ?_ _ | refine blk_drew ?_ | refine blk_alloc ?_ _)); refine blk_put (cs := #[.int .u64 ((rd_T42 l0_1 x5_2).f0), .int .u64 0, .int .i64 0, .slice none 0 0]) ?_ 1 _ rfl; (with_reducible repeat (first | refine blk_drewN ?_ _ | refine blk_drew ?_ | refine blk_alloc ?_ _)); refine blk_put (cs := #[.int .u64 0, .int .u64 0, .int .i64 0, .slice none 0 0]) ?_ 0 _ rfl; (with_reducible repeat (first | refine blk_drewN ?_ _ | refine blk_drew ?_ | refine blk_alloc ?_ _)); exact BK148.out)) : gb148 ≠ gb150)); have n12_ := Aside0.mk ((by rw [hg]; exact Nat.ne_of_gt (blk_lt (g := gb148) (o := .cells #[.int .u64 ((rd_T42 l0_1 x5_2).f0), .int .u64 ((rd_T42 l0_1 x5_2).f1), .int .i64 ((rd_T42 l0_1 x5_2).f2), .slice A147_3 ((rd_T42 l0_1 x5_2).f3).length c147_3] 42 (0, 0)) (by (with_reducible repeat (first | refine blk_drewN ?_ _ | refine blk_drew ?_ | refine blk_alloc ?_ _)); refine blk_put (cs := #[.int .u64 ((rd_T42 l0_1 x5_2).f0), .int .u64 ((rd_T42 l0_1 x5_2).f1), .int .i64 ((rd_T42 l0_1 x5_2).f2), .slice none 0 0]) ?_ 3 _ rfl; (with_reducible repeat (first | refine blk_drewN ?_ _ | refine blk_drew ?_ | refine blk_alloc ?_ _)); refine blk_put (cs := #[.int .u64 ((rd_T42 l0_1 x5_2).f0), .int .u64 ((rd_T42 l0_1 x5_2).f1), .int .i64 0, .slice none 0 0]) ?_ 2 _ rfl; (with_reducible repeat (first | refine blk_drewN ?_ _ | refine blk_drew ?_ | refine blk_alloc ?_ _)); refine blk_put (cs := #[.int .u64 ((rd_T42 l0_1 x5_2).f0), .int .u64 0, .int .i64 0, .slice none 0 0]) ?_ 1 _ rfl; (with_reducible repeat (first | refine blk_drewN ?_ _ | refine blk_drew ?_ | refine blk_alloc ?_ _)); refine blk_put (cs := #[.int .u64 0, .int .u64 0, .int .i64 0, .slice none 0 0]) ?_ 0 _ rfl; (with_reducible repeat (first | refine blk_drewN ?_ _ | refine blk_drew ?_ | refine blk_alloc ?_ _)); exact BK148.out)) : gb150 ≠ gb148)); clear BK145; clear BK146; clear BK148; clear HB; have BK145 := n0_; have BK146 := n1_; have BK148 := n2_; have HB := n3_; have BK150 := n4_; have GW150 := n5_; have GE150 := n6_; have NB145_150 := n7_; have NB150_145 := n8_; have NB146_150 := n9_; have NB150_146 := n10_; have NB148_150 := n11_; have NB150_148 := n12_; clear n0_ n1_ n2_ n3_ n4_ n5_ n6_ n7_ n8_ n9_ n10_ n11_ n12_; clear hb hbox hg; have hnb26 := NB150_145.out; have hnc26 := NB145_150.out; have hnb27 := NB150_146.out; have hnc27 := NB146_150.out; have hnb28 := NB150_148.out; have hnc28 := NB148_150.out; have hcz29_0 : w25.cell? ⟨gb150, 0, none⟩ = some (.int .u64 0) := (blk_cell BK150.out 0).trans rfl; have hcz29_1 : w25.cell? ⟨gb150, 1, none⟩ = some (.int .u64 0) := (blk_cell BK150.out 1).trans rfl; have hcz29_2 : w25.cell? ⟨gb150, 2, none⟩ = some (.int .i64 0) := (blk_cell BK150.out 2).trans rfl; have hcz29_3 : w25.cell? ⟨gb150, 3, none⟩ = some (.slice none 0 0) := (blk_cell BK150.out 3).trans rfl; have hfz29_0 := blk_frozen BK150.out 0; have hfz29_1 := blk_frozen BK150.out 1; have hfz29_2 := blk_frozen BK150.out 2; have hfz29_3 := blk_frozen BK150.out 3)))
                  (try simp only [Act.put, List.setIfInBounds_toArray, List.set_cons_zero, List.set_cons_succ])
                  go_cut [67] (fun v67 wc => ∃ (kq : Nat) (x67_16 : Bool), v67 = .bool x67_16 ∧ Aside0 (fascineref14_Same.j2 kq x5_2 x67_16 a0_0 l0_1 a1_0 l1_1 ((rd_T42 l0_1 x5_2).f0) ((rd_T42 l0_1 x5_2).f1) ((rd_T42 l0_1 x5_2).f2) ((rd_T42 l0_1 x5_2).f3) ((rd_T42 l1_1 x5_2).f0) ((rd_T42 l1_1 x5_2).f1) ((rd_T42 l1_1 x5_2).f2) ((rd_T42 l1_1 x5_2).f3) = some r) ∧ Aside0 (kq ≤ k2) ∧ Aside0 (wc.heap[gb145]? = some (.cells #[.int .i64 a0_0, (.slice (some ad147) l0_1.length c0_1)] 24 (0, 0))) ∧ Aside0 (wc.heap[gb146]? = some (.cells #[.int .i64 a1_0, (.slice (some ad149) l1_1.length c1_1)] 24 (0, 0))) ∧ Aside0 (wc.heap[gb148]? = some (.cells #[.int .u64 ((rd_T42 l0_1 x5_2).f0), .int .u64 ((rd_T42 l0_1 x5_2).f1), .int .i64 ((rd_T42 l0_1 x5_2).f2), (.slice A147_3 ((rd_T42 l0_1 x5_2).f3).length c147_3)] 42 (0, 0))) ∧ Aside0 (wc.heap[gb150]? = some (.cells #[.int .u64 ((rd_T42 l1_1 x5_2).f0), .int .u64 ((rd_T42 l1_1 x5_2).f1), .int .i64 ((rd_T42 l1_1 x5_2).f2), (.slice A149_3 ((rd_T42 l1_1 x5_2).f3).length c149_3)] 42 (0, 0))) ∧ Aside0 (Below w.heap.size w wc))
                  case first =>
                    have H := HC17.out
                    clear HC17
                    by_cases c30 : ((rd_T42 l0_1 x5_2).f0) = ((rd_T42 l1_1 x5_2).f0)
                    · rw [if_pos c30] at H
                      have c30b0 : (((rd_T42 l0_1 x5_2).f0) == ((rd_T42 l1_1 x5_2).f0)) = true := beq_iff_eq.mpr c30
                      have c30b1 : (((rd_T42 l0_1 x5_2).f0) != ((rd_T42 l1_1 x5_2).f0)) = false := bne_eq_false_iff_eq.mpr c30
                      clear c30
                      (first | rw [c30b0] | (simp only [i64_w, i32_w]; rw [c30b0]) | skip)
                      by_cases c31 : ((rd_T42 l0_1 x5_2).f1) = ((rd_T42 l1_1 x5_2).f1)
                      · rw [if_pos c31] at H
                        have c31b0 : (((rd_T42 l0_1 x5_2).f1) == ((rd_T42 l1_1 x5_2).f1)) = true := beq_iff_eq.mpr c31
                        have c31b1 : (((rd_T42 l0_1 x5_2).f1) != ((rd_T42 l1_1 x5_2).f1)) = false := bne_eq_false_iff_eq.mpr c31
                        clear c31
                        by_cases c32 : ((rd_T42 l0_1 x5_2).f2) = ((rd_T42 l1_1 x5_2).f2)
                        · rw [if_pos c32] at H
                          have c32b0 : (((rd_T42 l0_1 x5_2).f2) == ((rd_T42 l1_1 x5_2).f2)) = true := beq_iff_eq.mpr c32
                          have c32b1 : (((rd_T42 l0_1 x5_2).f2) != ((rd_T42 l1_1 x5_2).f2)) = false := bne_eq_false_iff_eq.mpr c32
                          clear c32
                          have H' := Aside0.mk H
                          clear H
                          have hnb33 := NB148_145.out
                          have hnc33 := NB145_148.out
                          have hnb34 := NB148_146.out
                          have hnc34 := NB146_148.out
                          have hnb35 := NB148_150.out
                          have hnc35 := NB150_148.out
                          have hcz36_0 : w25.cell? ⟨gb148, 0, none⟩ = some (.int .u64 ((rd_T42 l0_1 x5_2).f0)) := (blk_cell BK148.out 0).trans rfl
                          have hcz36_1 : w25.cell? ⟨gb148, 1, none⟩ = some (.int .u64 ((rd_T42 l0_1 x5_2).f1)) := (blk_cell BK148.out 1).trans rfl
                          have hcz36_2 : w25.cell? ⟨gb148, 2, none⟩ = some (.int .i64 ((rd_T42 l0_1 x5_2).f2)) := (blk_cell BK148.out 2).trans rfl
                          have hcz36_3 : w25.cell? ⟨gb148, 3, none⟩ = some (.slice A147_3 ((rd_T42 l0_1 x5_2).f3).length c147_3) := (blk_cell BK148.out 3).trans rfl
                          have hfz36_0 := blk_frozen BK148.out 0
                          have hfz36_1 := blk_frozen BK148.out 1
                          have hfz36_2 := blk_frozen BK148.out 2
                          have hfz36_3 := blk_frozen BK148.out 3
                          have hnb37 := NB150_145.out
                          have hnc37 := NB145_150.out
                          have hnb38 := NB150_146.out
                          have hnc38 := NB146_150.out
                          have hcz39_0 : w25.cell? ⟨gb150, 0, none⟩ = some (.int .u64 0) := (blk_cell BK150.out 0).trans rfl
                          have hcz39_1 : w25.cell? ⟨gb150, 1, none⟩ = some (.int .u64 0) := (blk_cell BK150.out 1).trans rfl
                          have hcz39_2 : w25.cell? ⟨gb150, 2, none⟩ = some (.int .i64 0) := (blk_cell BK150.out 2).trans rfl
                          have hcz39_3 : w25.cell? ⟨gb150, 3, none⟩ = some (.slice none 0 0) := (blk_cell BK150.out 3).trans rfl
                          have hfz39_0 := blk_frozen BK150.out 0
                          have hfz39_1 := blk_frozen BK150.out 1
                          have hfz39_2 := blk_frozen BK150.out 2
                          have hfz39_3 := blk_frozen BK150.out 3
                          go_wp2
                          repeat (go_quiet (fail); try go_wp2)
                          go_meet
                          case rel => exact ⟨_, (((((rd_T42 l0_1 x5_2).f3).length : Int) != (((rd_T42 l1_1 x5_2).f3).length : Int))), (by first | rfl | (simp; done) | (simp [*]; done)), H', ⟨by have := HJ2.out; have := HK2.out; first | omega | exact Nat.le_refl _⟩, ⟨by (with_reducible repeat (first | refine blk_drewN ?_ _ | refine blk_drew ?_ | refine blk_alloc ?_ _)); refine blk_far ?_ NB145_150.out _; (with_reducible repeat (first | refine blk_drewN ?_ _ | refine blk_drew ?_ | refine blk_alloc ?_ _)); refine blk_far ?_ NB145_150.out _; (with_reducible repeat (first | refine blk_drewN ?_ _ | refine blk_drew ?_ | refine blk_alloc ?_ _)); refine blk_far ?_ NB145_150.out _; (with_reducible repeat (first | refine blk_drewN ?_ _ | refine blk_drew ?_ | refine blk_alloc ?_ _)); refine blk_far ?_ NB145_150.out _; (with_reducible repeat (first | refine blk_drewN ?_ _ | refine blk_drew ?_ | refine blk_alloc ?_ _)); exact BK145.out⟩, ⟨by (with_reducible repeat (first | refine blk_drewN ?_ _ | refine blk_drew ?_ | refine blk_alloc ?_ _)); refine blk_far ?_ NB146_150.out _; (with_reducible repeat (first | refine blk_drewN ?_ _ | refine blk_drew ?_ | refine blk_alloc ?_ _)); refine blk_far ?_ NB146_150.out _; (with_reducible repeat (first | refine blk_drewN ?_ _ | refine blk_drew ?_ | refine blk_alloc ?_ _)); refine blk_far ?_ NB146_150.out _; (with_reducible repeat (first | refine blk_drewN ?_ _ | refine blk_drew ?_ | refine blk_alloc ?_ _)); refine blk_far ?_ NB146_150.out _; (with_reducible repeat (first | refine blk_drewN ?_ _ | refine blk_drew ?_ | refine blk_alloc ?_ _)); exact BK146.out⟩, ⟨by (with_reducible repeat (first | refine blk_drewN ?_ _ | refine blk_drew ?_ | refine blk_alloc ?_ _)); refine blk_far ?_ NB148_150.out _; (with_reducible repeat (first | refine blk_drewN ?_ _ | refine blk_drew ?_ | refine blk_alloc ?_ _)); refine blk_far ?_ NB148_150.out _; (with_reducible repeat (first | refine blk_drewN ?_ _ | refine blk_drew ?_ | refine blk_alloc ?_ _)); refine blk_far ?_ NB148_150.out _; (with_reducible repeat (first | refine blk_drewN ?_ _ | refine blk_drew ?_ | refine blk_alloc ?_ _)); refine blk_far ?_ NB148_150.out _; (with_reducible repeat (first | refine blk_drewN ?_ _ | refine blk_drew ?_ | refine blk_alloc ?_ _)); exact BK148.out⟩, ⟨by (with_reducible repeat (first | refine blk_drewN ?_ _ | refine blk_drew ?_ | refine blk_alloc ?_ _)); refine blk_put (cs := #[.int .u64 ((rd_T42 l1_1 x5_2).f0), .int .u64 ((rd_T42 l1_1 x5_2).f1), .int .i64 ((rd_T42 l1_1 x5_2).f2), .slice none 0 0]) ?_ 3 _ rfl; (with_reducible repeat (first | refine blk_drewN ?_ _ | refine blk_drew ?_ | refine blk_alloc ?_ _)); refine blk_put (cs := #[.int .u64 ((rd_T42 l1_1 x5_2).f0), .int .u64 ((rd_T42 l1_1 x5_2).f1), .int .i64 0, .slice none 0 0]) ?_ 2 _ rfl; (with_reducible repeat (first | refine blk_drewN ?_ _ | refine blk_drew ?_ | refine blk_alloc ?_ _)); refine blk_put (cs := #[.int .u64 ((rd_T42 l1_1 x5_2).f0), .int .u64 0, .int .i64 0, .slice none 0 0]) ?_ 1 _ rfl; (with_reducible repeat (first | refine blk_drewN ?_ _ | refine blk_drew ?_ | refine blk_alloc ?_ _)); refine blk_put (cs := #[.int .u64 0, .int .u64 0, .int .i64 0, .slice none 0 0]) ?_ 0 _ rfl; (with_reducible repeat (first | refine blk_drewN ?_ _ | refine blk_drew ?_ | refine blk_alloc ?_ _)); exact BK150.out⟩, ⟨by repeat (first | (with_reducible first | exact HB.out | apply below_alloc | apply pw_below_drewN | apply below_drew1 | refine below_set ?_ GE145.out | refine below_set ?_ GE146.out | refine below_set ?_ GE148.out | refine below_set ?_ GE150.out) | exact HB.out)⟩⟩
                        · rw [if_neg c32] at H
                          have c32b0 : (((rd_T42 l0_1 x5_2).f2) == ((rd_T42 l1_1 x5_2).f2)) = false := beq_eq_false_iff_ne.mpr c32
                          have c32b1 : (((rd_T42 l0_1 x5_2).f2) != ((rd_T42 l1_1 x5_2).f2)) = true := bne_iff_ne.mpr c32
                          have H' := Aside0.mk H
                          clear H
                          have hnb40 := NB148_145.out
                          have hnc40 := NB145_148.out
                          have hnb41 := NB148_146.out
                          have hnc41 := NB146_148.out
                          have hnb42 := NB148_150.out
                          have hnc42 := NB150_148.out
                          have hcz43_0 : w25.cell? ⟨gb148, 0, none⟩ = some (.int .u64 ((rd_T42 l0_1 x5_2).f0)) := (blk_cell BK148.out 0).trans rfl
                          have hcz43_1 : w25.cell? ⟨gb148, 1, none⟩ = some (.int .u64 ((rd_T42 l0_1 x5_2).f1)) := (blk_cell BK148.out 1).trans rfl
                          have hcz43_2 : w25.cell? ⟨gb148, 2, none⟩ = some (.int .i64 ((rd_T42 l0_1 x5_2).f2)) := (blk_cell BK148.out 2).trans rfl
                          have hcz43_3 : w25.cell? ⟨gb148, 3, none⟩ = some (.slice A147_3 ((rd_T42 l0_1 x5_2).f3).length c147_3) := (blk_cell BK148.out 3).trans rfl
                          have hfz43_0 := blk_frozen BK148.out 0
                          have hfz43_1 := blk_frozen BK148.out 1
                          have hfz43_2 := blk_frozen BK148.out 2
                          have hfz43_3 := blk_frozen BK148.out 3
                          have hnb44 := NB150_145.out
                          have hnc44 := NB145_150.out
                          have hnb45 := NB150_146.out
                          have hnc45 := NB146_150.out
                          have hcz46_0 : w25.cell? ⟨gb150, 0, none⟩ = some (.int .u64 0) := (blk_cell BK150.out 0).trans rfl
                          have hcz46_1 : w25.cell? ⟨gb150, 1, none⟩ = some (.int .u64 0) := (blk_cell BK150.out 1).trans rfl
                          have hcz46_2 : w25.cell? ⟨gb150, 2, none⟩ = some (.int .i64 0) := (blk_cell BK150.out 2).trans rfl
                          have hcz46_3 : w25.cell? ⟨gb150, 3, none⟩ = some (.slice none 0 0) := (blk_cell BK150.out 3).trans rfl
                          have hfz46_0 := blk_frozen BK150.out 0
                          have hfz46_1 := blk_frozen BK150.out 1
                          have hfz46_2 := blk_frozen BK150.out 2
                          have hfz46_3 := blk_frozen BK150.out 3
                          go_wp2
                          repeat (go_quiet (fail); try go_wp2)
                          go_meet
                          case rel => exact ⟨_, (true), (by first | rfl | (simp; done) | (simp [*]; done)), H', ⟨by have := HJ2.out; have := HK2.out; first | omega | exact Nat.le_refl _⟩, ⟨by (with_reducible repeat (first | refine blk_drewN ?_ _ | refine blk_drew ?_ | refine blk_alloc ?_ _)); refine blk_far ?_ NB145_150.out _; (with_reducible repeat (first | refine blk_drewN ?_ _ | refine blk_drew ?_ | refine blk_alloc ?_ _)); refine blk_far ?_ NB145_150.out _; (with_reducible repeat (first | refine blk_drewN ?_ _ | refine blk_drew ?_ | refine blk_alloc ?_ _)); refine blk_far ?_ NB145_150.out _; (with_reducible repeat (first | refine blk_drewN ?_ _ | refine blk_drew ?_ | refine blk_alloc ?_ _)); refine blk_far ?_ NB145_150.out _; (with_reducible repeat (first | refine blk_drewN ?_ _ | refine blk_drew ?_ | refine blk_alloc ?_ _)); exact BK145.out⟩, ⟨by (with_reducible repeat (first | refine blk_drewN ?_ _ | refine blk_drew ?_ | refine blk_alloc ?_ _)); refine blk_far ?_ NB146_150.out _; (with_reducible repeat (first | refine blk_drewN ?_ _ | refine blk_drew ?_ | refine blk_alloc ?_ _)); refine blk_far ?_ NB146_150.out _; (with_reducible repeat (first | refine blk_drewN ?_ _ | refine blk_drew ?_ | refine blk_alloc ?_ _)); refine blk_far ?_ NB146_150.out _; (with_reducible repeat (first | refine blk_drewN ?_ _ | refine blk_drew ?_ | refine blk_alloc ?_ _)); refine blk_far ?_ NB146_150.out _; (with_reducible repeat (first | refine blk_drewN ?_ _ | refine blk_drew ?_ | refine blk_alloc ?_ _)); exact BK146.out⟩, ⟨by (with_reducible repeat (first | refine blk_drewN ?_ _ | refine blk_drew ?_ | refine blk_alloc ?_ _)); refine blk_far ?_ NB148_150.out _; (with_reducible repeat (first | refine blk_drewN ?_ _ | refine blk_drew ?_ | refine blk_alloc ?_ _)); refine blk_far ?_ NB148_150.out _; (with_reducible repeat (first | refine blk_drewN ?_ _ | refine blk_drew ?_ | refine blk_alloc ?_ _)); refine blk_far ?_ NB148_150.out _; (with_reducible repeat (first | refine blk_drewN ?_ _ | refine blk_drew ?_ | refine blk_alloc ?_ _)); refine blk_far ?_ NB148_150.out _; (with_reducible repeat (first | refine blk_drewN ?_ _ | refine blk_drew ?_ | refine blk_alloc ?_ _)); exact BK148.out⟩, ⟨by (with_reducible repeat (first | refine blk_drewN ?_ _ | refine blk_drew ?_ | refine blk_alloc ?_ _)); refine blk_put (cs := #[.int .u64 ((rd_T42 l1_1 x5_2).f0), .int .u64 ((rd_T42 l1_1 x5_2).f1), .int .i64 ((rd_T42 l1_1 x5_2).f2), .slice none 0 0]) ?_ 3 _ rfl; (with_reducible repeat (first | refine blk_drewN ?_ _ | refine blk_drew ?_ | refine blk_alloc ?_ _)); refine blk_put (cs := #[.int .u64 ((rd_T42 l1_1 x5_2).f0), .int .u64 ((rd_T42 l1_1 x5_2).f1), .int .i64 0, .slice none 0 0]) ?_ 2 _ rfl; (with_reducible repeat (first | refine blk_drewN ?_ _ | refine blk_drew ?_ | refine blk_alloc ?_ _)); refine blk_put (cs := #[.int .u64 ((rd_T42 l1_1 x5_2).f0), .int .u64 0, .int .i64 0, .slice none 0 0]) ?_ 1 _ rfl; (with_reducible repeat (first | refine blk_drewN ?_ _ | refine blk_drew ?_ | refine blk_alloc ?_ _)); refine blk_put (cs := #[.int .u64 0, .int .u64 0, .int .i64 0, .slice none 0 0]) ?_ 0 _ rfl; (with_reducible repeat (first | refine blk_drewN ?_ _ | refine blk_drew ?_ | refine blk_alloc ?_ _)); exact BK150.out⟩, ⟨by repeat (first | (with_reducible first | exact HB.out | apply below_alloc | apply pw_below_drewN | apply below_drew1 | refine below_set ?_ GE145.out | refine below_set ?_ GE146.out | refine below_set ?_ GE148.out | refine below_set ?_ GE150.out) | exact HB.out)⟩⟩
                      · rw [if_neg c31] at H
                        have c31b0 : (((rd_T42 l0_1 x5_2).f1) == ((rd_T42 l1_1 x5_2).f1)) = false := beq_eq_false_iff_ne.mpr c31
                        have c31b1 : (((rd_T42 l0_1 x5_2).f1) != ((rd_T42 l1_1 x5_2).f1)) = true := bne_iff_ne.mpr c31
                        have H' := Aside0.mk H
                        clear H
                        have hnb47 := NB148_145.out
                        have hnc47 := NB145_148.out
                        have hnb48 := NB148_146.out
                        have hnc48 := NB146_148.out
                        have hnb49 := NB148_150.out
                        have hnc49 := NB150_148.out
                        have hcz50_0 : w25.cell? ⟨gb148, 0, none⟩ = some (.int .u64 ((rd_T42 l0_1 x5_2).f0)) := (blk_cell BK148.out 0).trans rfl
                        have hcz50_1 : w25.cell? ⟨gb148, 1, none⟩ = some (.int .u64 ((rd_T42 l0_1 x5_2).f1)) := (blk_cell BK148.out 1).trans rfl
                        have hcz50_2 : w25.cell? ⟨gb148, 2, none⟩ = some (.int .i64 ((rd_T42 l0_1 x5_2).f2)) := (blk_cell BK148.out 2).trans rfl
                        have hcz50_3 : w25.cell? ⟨gb148, 3, none⟩ = some (.slice A147_3 ((rd_T42 l0_1 x5_2).f3).length c147_3) := (blk_cell BK148.out 3).trans rfl
                        have hfz50_0 := blk_frozen BK148.out 0
                        have hfz50_1 := blk_frozen BK148.out 1
                        have hfz50_2 := blk_frozen BK148.out 2
                        have hfz50_3 := blk_frozen BK148.out 3
                        have hnb51 := NB150_145.out
                        have hnc51 := NB145_150.out
                        have hnb52 := NB150_146.out
                        have hnc52 := NB146_150.out
                        have hcz53_0 : w25.cell? ⟨gb150, 0, none⟩ = some (.int .u64 0) := (blk_cell BK150.out 0).trans rfl
                        have hcz53_1 : w25.cell? ⟨gb150, 1, none⟩ = some (.int .u64 0) := (blk_cell BK150.out 1).trans rfl
                        have hcz53_2 : w25.cell? ⟨gb150, 2, none⟩ = some (.int .i64 0) := (blk_cell BK150.out 2).trans rfl
                        have hcz53_3 : w25.cell? ⟨gb150, 3, none⟩ = some (.slice none 0 0) := (blk_cell BK150.out 3).trans rfl
                        have hfz53_0 := blk_frozen BK150.out 0
                        have hfz53_1 := blk_frozen BK150.out 1
                        have hfz53_2 := blk_frozen BK150.out 2
                        have hfz53_3 := blk_frozen BK150.out 3
                        go_wp2
                        repeat (go_quiet (fail); try go_wp2)
                        go_meet
                        case rel => exact ⟨_, (true), (by first | rfl | (simp; done) | (simp [*]; done)), H', ⟨by have := HJ2.out; have := HK2.out; first | omega | exact Nat.le_refl _⟩, ⟨by (with_reducible repeat (first | refine blk_drewN ?_ _ | refine blk_drew ?_ | refine blk_alloc ?_ _)); refine blk_far ?_ NB145_150.out _; (with_reducible repeat (first | refine blk_drewN ?_ _ | refine blk_drew ?_ | refine blk_alloc ?_ _)); refine blk_far ?_ NB145_150.out _; (with_reducible repeat (first | refine blk_drewN ?_ _ | refine blk_drew ?_ | refine blk_alloc ?_ _)); refine blk_far ?_ NB145_150.out _; (with_reducible repeat (first | refine blk_drewN ?_ _ | refine blk_drew ?_ | refine blk_alloc ?_ _)); refine blk_far ?_ NB145_150.out _; (with_reducible repeat (first | refine blk_drewN ?_ _ | refine blk_drew ?_ | refine blk_alloc ?_ _)); exact BK145.out⟩, ⟨by (with_reducible repeat (first | refine blk_drewN ?_ _ | refine blk_drew ?_ | refine blk_alloc ?_ _)); refine blk_far ?_ NB146_150.out _; (with_reducible repeat (first | refine blk_drewN ?_ _ | refine blk_drew ?_ | refine blk_alloc ?_ _)); refine blk_far ?_ NB146_150.out _; (with_reducible repeat (first | refine blk_drewN ?_ _ | refine blk_drew ?_ | refine blk_alloc ?_ _)); refine blk_far ?_ NB146_150.out _; (with_reducible repeat (first | refine blk_drewN ?_ _ | refine blk_drew ?_ | refine blk_alloc ?_ _)); refine blk_far ?_ NB146_150.out _; (with_reducible repeat (first | refine blk_drewN ?_ _ | refine blk_drew ?_ | refine blk_alloc ?_ _)); exact BK146.out⟩, ⟨by (with_reducible repeat (first | refine blk_drewN ?_ _ | refine blk_drew ?_ | refine blk_alloc ?_ _)); refine blk_far ?_ NB148_150.out _; (with_reducible repeat (first | refine blk_drewN ?_ _ | refine blk_drew ?_ | refine blk_alloc ?_ _)); refine blk_far ?_ NB148_150.out _; (with_reducible repeat (first | refine blk_drewN ?_ _ | refine blk_drew ?_ | refine blk_alloc ?_ _)); refine blk_far ?_ NB148_150.out _; (with_reducible repeat (first | refine blk_drewN ?_ _ | refine blk_drew ?_ | refine blk_alloc ?_ _)); refine blk_far ?_ NB148_150.out _; (with_reducible repeat (first | refine blk_drewN ?_ _ | refine blk_drew ?_ | refine blk_alloc ?_ _)); exact BK148.out⟩, ⟨by (with_reducible repeat (first | refine blk_drewN ?_ _ | refine blk_drew ?_ | refine blk_alloc ?_ _)); refine blk_put (cs := #[.int .u64 ((rd_T42 l1_1 x5_2).f0), .int .u64 ((rd_T42 l1_1 x5_2).f1), .int .i64 ((rd_T42 l1_1 x5_2).f2), .slice none 0 0]) ?_ 3 _ rfl; (with_reducible repeat (first | refine blk_drewN ?_ _ | refine blk_drew ?_ | refine blk_alloc ?_ _)); refine blk_put (cs := #[.int .u64 ((rd_T42 l1_1 x5_2).f0), .int .u64 ((rd_T42 l1_1 x5_2).f1), .int .i64 0, .slice none 0 0]) ?_ 2 _ rfl; (with_reducible repeat (first | refine blk_drewN ?_ _ | refine blk_drew ?_ | refine blk_alloc ?_ _)); refine blk_put (cs := #[.int .u64 ((rd_T42 l1_1 x5_2).f0), .int .u64 0, .int .i64 0, .slice none 0 0]) ?_ 1 _ rfl; (with_reducible repeat (first | refine blk_drewN ?_ _ | refine blk_drew ?_ | refine blk_alloc ?_ _)); refine blk_put (cs := #[.int .u64 0, .int .u64 0, .int .i64 0, .slice none 0 0]) ?_ 0 _ rfl; (with_reducible repeat (first | refine blk_drewN ?_ _ | refine blk_drew ?_ | refine blk_alloc ?_ _)); exact BK150.out⟩, ⟨by repeat (first | (with_reducible first | exact HB.out | apply below_alloc | apply pw_below_drewN | apply below_drew1 | refine below_set ?_ GE145.out | refine below_set ?_ GE146.out | refine below_set ?_ GE148.out | refine below_set ?_ GE150.out) | exact HB.out)⟩⟩
                    · rw [if_neg c30] at H
                      have c30b0 : (((rd_T42 l0_1 x5_2).f0) == ((rd_T42 l1_1 x5_2).f0)) = false := beq_eq_false_iff_ne.mpr c30
                      have c30b1 : (((rd_T42 l0_1 x5_2).f0) != ((rd_T42 l1_1 x5_2).f0)) = true := bne_iff_ne.mpr c30
                      (first | rw [c30b0] | (simp only [i64_w, i32_w]; rw [c30b0]) | skip)
                      have H' := Aside0.mk H
                      clear H
                      have hnb54 := NB148_145.out
                      have hnc54 := NB145_148.out
                      have hnb55 := NB148_146.out
                      have hnc55 := NB146_148.out
                      have hnb56 := NB148_150.out
                      have hnc56 := NB150_148.out
                      have hcz57_0 : w25.cell? ⟨gb148, 0, none⟩ = some (.int .u64 ((rd_T42 l0_1 x5_2).f0)) := (blk_cell BK148.out 0).trans rfl
                      have hcz57_1 : w25.cell? ⟨gb148, 1, none⟩ = some (.int .u64 ((rd_T42 l0_1 x5_2).f1)) := (blk_cell BK148.out 1).trans rfl
                      have hcz57_2 : w25.cell? ⟨gb148, 2, none⟩ = some (.int .i64 ((rd_T42 l0_1 x5_2).f2)) := (blk_cell BK148.out 2).trans rfl
                      have hcz57_3 : w25.cell? ⟨gb148, 3, none⟩ = some (.slice A147_3 ((rd_T42 l0_1 x5_2).f3).length c147_3) := (blk_cell BK148.out 3).trans rfl
                      have hfz57_0 := blk_frozen BK148.out 0
                      have hfz57_1 := blk_frozen BK148.out 1
                      have hfz57_2 := blk_frozen BK148.out 2
                      have hfz57_3 := blk_frozen BK148.out 3
                      have hnb58 := NB150_145.out
                      have hnc58 := NB145_150.out
                      have hnb59 := NB150_146.out
                      have hnc59 := NB146_150.out
                      have hcz60_0 : w25.cell? ⟨gb150, 0, none⟩ = some (.int .u64 0) := (blk_cell BK150.out 0).trans rfl
                      have hcz60_1 : w25.cell? ⟨gb150, 1, none⟩ = some (.int .u64 0) := (blk_cell BK150.out 1).trans rfl
                      have hcz60_2 : w25.cell? ⟨gb150, 2, none⟩ = some (.int .i64 0) := (blk_cell BK150.out 2).trans rfl
                      have hcz60_3 : w25.cell? ⟨gb150, 3, none⟩ = some (.slice none 0 0) := (blk_cell BK150.out 3).trans rfl
                      have hfz60_0 := blk_frozen BK150.out 0
                      have hfz60_1 := blk_frozen BK150.out 1
                      have hfz60_2 := blk_frozen BK150.out 2
                      have hfz60_3 := blk_frozen BK150.out 3
                      go_wp2
                      repeat (go_quiet (fail); try go_wp2)
                      go_meet
                      case rel => exact ⟨_, (true), (by first | rfl | (simp; done) | (simp [*]; done)), H', ⟨by have := HJ2.out; have := HK2.out; first | omega | exact Nat.le_refl _⟩, ⟨by (with_reducible repeat (first | refine blk_drewN ?_ _ | refine blk_drew ?_ | refine blk_alloc ?_ _)); refine blk_far ?_ NB145_150.out _; (with_reducible repeat (first | refine blk_drewN ?_ _ | refine blk_drew ?_ | refine blk_alloc ?_ _)); refine blk_far ?_ NB145_150.out _; (with_reducible repeat (first | refine blk_drewN ?_ _ | refine blk_drew ?_ | refine blk_alloc ?_ _)); refine blk_far ?_ NB145_150.out _; (with_reducible repeat (first | refine blk_drewN ?_ _ | refine blk_drew ?_ | refine blk_alloc ?_ _)); refine blk_far ?_ NB145_150.out _; (with_reducible repeat (first | refine blk_drewN ?_ _ | refine blk_drew ?_ | refine blk_alloc ?_ _)); exact BK145.out⟩, ⟨by (with_reducible repeat (first | refine blk_drewN ?_ _ | refine blk_drew ?_ | refine blk_alloc ?_ _)); refine blk_far ?_ NB146_150.out _; (with_reducible repeat (first | refine blk_drewN ?_ _ | refine blk_drew ?_ | refine blk_alloc ?_ _)); refine blk_far ?_ NB146_150.out _; (with_reducible repeat (first | refine blk_drewN ?_ _ | refine blk_drew ?_ | refine blk_alloc ?_ _)); refine blk_far ?_ NB146_150.out _; (with_reducible repeat (first | refine blk_drewN ?_ _ | refine blk_drew ?_ | refine blk_alloc ?_ _)); refine blk_far ?_ NB146_150.out _; (with_reducible repeat (first | refine blk_drewN ?_ _ | refine blk_drew ?_ | refine blk_alloc ?_ _)); exact BK146.out⟩, ⟨by (with_reducible repeat (first | refine blk_drewN ?_ _ | refine blk_drew ?_ | refine blk_alloc ?_ _)); refine blk_far ?_ NB148_150.out _; (with_reducible repeat (first | refine blk_drewN ?_ _ | refine blk_drew ?_ | refine blk_alloc ?_ _)); refine blk_far ?_ NB148_150.out _; (with_reducible repeat (first | refine blk_drewN ?_ _ | refine blk_drew ?_ | refine blk_alloc ?_ _)); refine blk_far ?_ NB148_150.out _; (with_reducible repeat (first | refine blk_drewN ?_ _ | refine blk_drew ?_ | refine blk_alloc ?_ _)); refine blk_far ?_ NB148_150.out _; (with_reducible repeat (first | refine blk_drewN ?_ _ | refine blk_drew ?_ | refine blk_alloc ?_ _)); exact BK148.out⟩, ⟨by (with_reducible repeat (first | refine blk_drewN ?_ _ | refine blk_drew ?_ | refine blk_alloc ?_ _)); refine blk_put (cs := #[.int .u64 ((rd_T42 l1_1 x5_2).f0), .int .u64 ((rd_T42 l1_1 x5_2).f1), .int .i64 ((rd_T42 l1_1 x5_2).f2), .slice none 0 0]) ?_ 3 _ rfl; (with_reducible repeat (first | refine blk_drewN ?_ _ | refine blk_drew ?_ | refine blk_alloc ?_ _)); refine blk_put (cs := #[.int .u64 ((rd_T42 l1_1 x5_2).f0), .int .u64 ((rd_T42 l1_1 x5_2).f1), .int .i64 0, .slice none 0 0]) ?_ 2 _ rfl; (with_reducible repeat (first | refine blk_drewN ?_ _ | refine blk_drew ?_ | refine blk_alloc ?_ _)); refine blk_put (cs := #[.int .u64 ((rd_T42 l1_1 x5_2).f0), .int .u64 0, .int .i64 0, .slice none 0 0]) ?_ 1 _ rfl; (with_reducible repeat (first | refine blk_drewN ?_ _ | refine blk_drew ?_ | refine blk_alloc ?_ _)); refine blk_put (cs := #[.int .u64 0, .int .u64 0, .int .i64 0, .slice none 0 0]) ?_ 0 _ rfl; (with_reducible repeat (first | refine blk_drewN ?_ _ | refine blk_drew ?_ | refine blk_alloc ?_ _)); exact BK150.out⟩, ⟨by repeat (first | (with_reducible first | exact HB.out | apply below_alloc | apply pw_below_drewN | apply below_drew1 | refine below_set ?_ GE145.out | refine below_set ?_ GE146.out | refine below_set ?_ GE148.out | refine below_set ?_ GE150.out) | exact HB.out)⟩⟩
                  case rest =>
                    clear HC17
                    try clear c1
                    try clear p1
                    try clear q1
                    try clear hx1
                    try clear c2
                    try clear p2
                    try clear c3
                    try clear c4
                    try clear c5
                    try clear c6
                    try clear c6b0
                    try clear c6b1
                    try clear c7
                    try clear c10
                    try clear c13
                    try clear c14
                    try clear c14b0
                    try clear p14
                    try clear q14
                    try clear hx14
                    try clear c15
                    try clear c15b0
                    try clear c16
                    try clear c16b0
                    try clear c17
                    try clear c18
                    try clear c21
                    try clear c22
                    try clear c26
                    try clear c27
                    try clear c28
                    try clear c30
                    try clear c30b0
                    try clear c30b1
                    try clear c31
                    try clear c31b0
                    try clear c31b1
                    try clear c32
                    try clear c32b0
                    try clear c32b1
                    try clear c33
                    try clear c34
                    try clear c35
                    try clear c37
                    try clear c38
                    try clear c40
                    try clear c41
                    try clear c42
                    try clear c44
                    try clear c45
                    try clear c47
                    try clear c48
                    try clear c49
                    try clear c51
                    try clear c52
                    try clear c54
                    try clear c55
                    try clear c56
                    try clear c58
                    try clear c59
                    try clear hcz11_0
                    try clear hcz11_1
                    try clear hcz12_0
                    try clear hcz12_1
                    try clear hcz19_0
                    try clear hcz19_1
                    try clear hcz23_0
                    try clear hcz23_1
                    try clear hcz23_2
                    try clear hcz23_3
                    try clear hcz24_0
                    try clear hcz24_1
                    try clear hcz29_0
                    try clear hcz29_1
                    try clear hcz29_2
                    try clear hcz29_3
                    try clear hcz36_0
                    try clear hcz36_1
                    try clear hcz36_2
                    try clear hcz36_3
                    try clear hcz39_0
                    try clear hcz39_1
                    try clear hcz39_2
                    try clear hcz39_3
                    try clear hcz43_0
                    try clear hcz43_1
                    try clear hcz43_2
                    try clear hcz43_3
                    try clear hcz46_0
                    try clear hcz46_1
                    try clear hcz46_2
                    try clear hcz46_3
                    try clear hcz50_0
                    try clear hcz50_1
                    try clear hcz50_2
                    try clear hcz50_3
                    try clear hcz53_0
                    try clear hcz53_1
                    try clear hcz53_2
                    try clear hcz53_3
                    try clear hcz57_0
                    try clear hcz57_1
                    try clear hcz57_2
                    try clear hcz57_3
                    try clear hcz60_0
                    try clear hcz60_1
                    try clear hcz60_2
                    try clear hcz60_3
                    try clear hcz8_0
                    try clear hcz8_1
                    try clear hcz9_0
                    try clear hcz9_1
                    try clear hfz11_0
                    try clear hfz11_1
                    try clear hfz12_0
                    try clear hfz12_1
                    try clear hfz19_0
                    try clear hfz19_1
                    try clear hfz23_0
                    try clear hfz23_1
                    try clear hfz23_2
                    try clear hfz23_3
                    try clear hfz24_0
                    try clear hfz24_1
                    try clear hfz29_0
                    try clear hfz29_1
                    try clear hfz29_2
                    try clear hfz29_3
                    try clear hfz36_0
                    try clear hfz36_1
                    try clear hfz36_2
                    try clear hfz36_3
                    try clear hfz39_0
                    try clear hfz39_1
                    try clear hfz39_2
                    try clear hfz39_3
                    try clear hfz43_0
                    try clear hfz43_1
                    try clear hfz43_2
                    try clear hfz43_3
                    try clear hfz46_0
                    try clear hfz46_1
                    try clear hfz46_2
                    try clear hfz46_3
                    try clear hfz50_0
                    try clear hfz50_1
                    try clear hfz50_2
                    try clear hfz50_3
                    try clear hfz53_0
                    try clear hfz53_1
                    try clear hfz53_2
                    try clear hfz53_3
                    try clear hfz57_0
                    try clear hfz57_1
                    try clear hfz57_2
                    try clear hfz57_3
                    try clear hfz60_0
                    try clear hfz60_1
                    try clear hfz60_2
                    try clear hfz60_3
                    try clear hfz8_0
                    try clear hfz8_1
                    try clear hfz9_0
                    try clear hfz9_1
                    try clear hx147_0
                    try clear hx147_1
                    try clear hx147_2
                    try clear hx147_3
                    try clear hx149_0
                    try clear hx149_1
                    try clear hx149_2
                    try clear hx149_3
                    try clear p147
                    try clear p149
                    try clear p2
                    try clear q147
                    try clear q149
                    obtain ⟨kq, x67_16, rfl, HA, HJ16, BK145, BK146, BK148, BK150, HB⟩ := hcut
                    cases kq with
                    | zero => exact absurd HA.out (by simp [fascineref14_Same.j2])
                    | succ kj16 =>
                      have H := HA.out
                      clear HA
                      simp only [fascineref14_Same.j2] at H
                      by_cases c61 : x67_16 = true
                      · subst c61
                        have H1 : (some false) = some r := by rw [if_pos rfl] at H; exact H
                        clear H
                        have H := H1
                        clear H1
                        obtain rfl := Option.some.inj H
                        go_wp2
                        repeat (go_quiet (fail); try go_wp2)
                        go_ret
                        exact ⟨by first | rfl | (simp [errW_none, errW_some] <;> rfl) | (simp [*, errW_none, errW_some] <;> rfl), by repeat (first | (with_reducible first | exact HB.out | apply below_alloc | apply pw_below_drewN | apply below_drew1 | refine below_set ?_ GE145.out | refine below_set ?_ GE146.out | refine below_set ?_ GE148.out | refine below_set ?_ GE150.out) | exact HB.out)⟩
                      · replace c61 := Bool.eq_false_iff.mpr c61
                        subst c61
                        have H1 : (fascineref14_Same.l1 kj16 x5_2 0 a0_0 l0_1 a1_0 l1_1 ((rd_T42 l0_1 x5_2).f0) ((rd_T42 l0_1 x5_2).f1) ((rd_T42 l0_1 x5_2).f2) ((rd_T42 l0_1 x5_2).f3) ((rd_T42 l1_1 x5_2).f0) ((rd_T42 l1_1 x5_2).f1) ((rd_T42 l1_1 x5_2).f2) ((rd_T42 l1_1 x5_2).f3)) = some r := by rw [if_neg (show ¬ (false = true) by decide)] at H; exact H
                        clear H
                        have H := H1
                        clear H1
                        have H' := Aside0.mk H
                        clear H
                        go_wp2
                        repeat (go_quiet (fail); try go_wp2)
                        go_loopg [8] kj16 (fun kq v8 w' => ∃ (x8_4 : Int), v8 = .int .i64 x8_4 ∧ Aside0 (fascineref14_Same.l1 kq x5_2 x8_4 a0_0 l0_1 a1_0 l1_1 ((rd_T42 l0_1 x5_2).f0) ((rd_T42 l0_1 x5_2).f1) ((rd_T42 l0_1 x5_2).f2) ((rd_T42 l0_1 x5_2).f3) ((rd_T42 l1_1 x5_2).f0) ((rd_T42 l1_1 x5_2).f1) ((rd_T42 l1_1 x5_2).f2) ((rd_T42 l1_1 x5_2).f3) = some r) ∧ Aside0 (kq ≤ kj16) ∧ Aside0 (w'.heap[gb145]? = some (.cells #[.int .i64 a0_0, (.slice (some ad147) l0_1.length c0_1)] 24 (0, 0))) ∧ Aside0 (w'.heap[gb146]? = some (.cells #[.int .i64 a1_0, (.slice (some ad149) l1_1.length c1_1)] 24 (0, 0))) ∧ Aside0 (w'.heap[gb148]? = some (.cells #[.int .u64 ((rd_T42 l0_1 x5_2).f0), .int .u64 ((rd_T42 l0_1 x5_2).f1), .int .i64 ((rd_T42 l0_1 x5_2).f2), (.slice A147_3 ((rd_T42 l0_1 x5_2).f3).length c147_3)] 42 (0, 0))) ∧ Aside0 (w'.heap[gb150]? = some (.cells #[.int .u64 ((rd_T42 l1_1 x5_2).f0), .int .u64 ((rd_T42 l1_1 x5_2).f1), .int .i64 ((rd_T42 l1_1 x5_2).f2), (.slice A149_3 ((rd_T42 l1_1 x5_2).f3).length c149_3)] 42 (0, 0))) ∧ Aside0 (Below w.heap.size w w'))
                        case atStart => exact ⟨(0), (by first | rfl | (simp; done) | (simp [*]; done)), H', ⟨Nat.le_refl _⟩, ⟨by (with_reducible repeat (first | refine blk_drewN ?_ _ | refine blk_drew ?_ | refine blk_alloc ?_ _)); exact BK145.out⟩, ⟨by (with_reducible repeat (first | refine blk_drewN ?_ _ | refine blk_drew ?_ | refine blk_alloc ?_ _)); exact BK146.out⟩, ⟨by (with_reducible repeat (first | refine blk_drewN ?_ _ | refine blk_drew ?_ | refine blk_alloc ?_ _)); exact BK148.out⟩, ⟨by (with_reducible repeat (first | refine blk_drewN ?_ _ | refine blk_drew ?_ | refine blk_alloc ?_ _)); exact BK150.out⟩, ⟨by repeat (first | (with_reducible first | exact HB.out | apply below_alloc | apply pw_below_drewN | apply below_drew1 | refine below_set ?_ GE145.out | refine below_set ?_ GE146.out | refine below_set ?_ GE148.out | refine below_set ?_ GE150.out) | exact HB.out)⟩⟩
                        case round =>
                          clear H'
                          try clear c1
                          try clear p1
                          try clear q1
                          try clear hx1
                          try clear c2
                          try clear p2
                          try clear c3
                          try clear c4
                          try clear c5
                          try clear c6
                          try clear c6b0
                          try clear c6b1
                          try clear c7
                          try clear c10
                          try clear c13
                          try clear c14
                          try clear c14b0
                          try clear p14
                          try clear q14
                          try clear hx14
                          try clear c15
                          try clear c15b0
                          try clear c16
                          try clear c16b0
                          try clear c17
                          try clear c18
                          try clear c21
                          try clear c22
                          try clear c26
                          try clear c27
                          try clear c28
                          try clear c30
                          try clear c30b0
                          try clear c30b1
                          try clear c31
                          try clear c31b0
                          try clear c31b1
                          try clear c32
                          try clear c32b0
                          try clear c32b1
                          try clear c33
                          try clear c34
                          try clear c35
                          try clear c37
                          try clear c38
                          try clear c40
                          try clear c41
                          try clear c42
                          try clear c44
                          try clear c45
                          try clear c47
                          try clear c48
                          try clear c49
                          try clear c51
                          try clear c52
                          try clear c54
                          try clear c55
                          try clear c56
                          try clear c58
                          try clear c59
                          try clear c61
                          try clear hcz11_0
                          try clear hcz11_1
                          try clear hcz12_0
                          try clear hcz12_1
                          try clear hcz19_0
                          try clear hcz19_1
                          try clear hcz23_0
                          try clear hcz23_1
                          try clear hcz23_2
                          try clear hcz23_3
                          try clear hcz24_0
                          try clear hcz24_1
                          try clear hcz29_0
                          try clear hcz29_1
                          try clear hcz29_2
                          try clear hcz29_3
                          try clear hcz36_0
                          try clear hcz36_1
                          try clear hcz36_2
                          try clear hcz36_3
                          try clear hcz39_0
                          try clear hcz39_1
                          try clear hcz39_2
                          try clear hcz39_3
                          try clear hcz43_0
                          try clear hcz43_1
                          try clear hcz43_2
                          try clear hcz43_3
                          try clear hcz46_0
                          try clear hcz46_1
                          try clear hcz46_2
                          try clear hcz46_3
                          try clear hcz50_0
                          try clear hcz50_1
                          try clear hcz50_2
                          try clear hcz50_3
                          try clear hcz53_0
                          try clear hcz53_1
                          try clear hcz53_2
                          try clear hcz53_3
                          try clear hcz57_0
                          try clear hcz57_1
                          try clear hcz57_2
                          try clear hcz57_3
                          try clear hcz60_0
                          try clear hcz60_1
                          try clear hcz60_2
                          try clear hcz60_3
                          try clear hcz8_0
                          try clear hcz8_1
                          try clear hcz9_0
                          try clear hcz9_1
                          try clear hfz11_0
                          try clear hfz11_1
                          try clear hfz12_0
                          try clear hfz12_1
                          try clear hfz19_0
                          try clear hfz19_1
                          try clear hfz23_0
                          try clear hfz23_1
                          try clear hfz23_2
                          try clear hfz23_3
                          try clear hfz24_0
                          try clear hfz24_1
                          try clear hfz29_0
                          try clear hfz29_1
                          try clear hfz29_2
                          try clear hfz29_3
                          try clear hfz36_0
                          try clear hfz36_1
                          try clear hfz36_2
                          try clear hfz36_3
                          try clear hfz39_0
                          try clear hfz39_1
                          try clear hfz39_2
                          try clear hfz39_3
                          try clear hfz43_0
                          try clear hfz43_1
                          try clear hfz43_2
                          try clear hfz43_3
                          try clear hfz46_0
                          try clear hfz46_1
                          try clear hfz46_2
                          try clear hfz46_3
                          try clear hfz50_0
                          try clear hfz50_1
                          try clear hfz50_2
                          try clear hfz50_3
                          try clear hfz53_0
                          try clear hfz53_1
                          try clear hfz53_2
                          try clear hfz53_3
                          try clear hfz57_0
                          try clear hfz57_1
                          try clear hfz57_2
                          try clear hfz57_3
                          try clear hfz60_0
                          try clear hfz60_1
                          try clear hfz60_2
                          try clear hfz60_3
                          try clear hfz8_0
                          try clear hfz8_1
                          try clear hfz9_0
                          try clear hfz9_1
                          try clear hx147_0
                          try clear hx147_1
                          try clear hx147_2
                          try clear hx147_3
                          try clear hx149_0
                          try clear hx149_1
                          try clear hx149_2
                          try clear hx149_3
                          try clear p1
                          try clear p14
                          try clear p147
                          try clear p149
                          try clear p2
                          try clear q1
                          try clear q14
                          try clear q147
                          try clear q149
                          obtain ⟨x8_4, rfl, HA, HK4, BK145, BK146, BK148, BK150, HB⟩ := hrel
                          cases gk with
                          | zero => exact absurd HA.out (by simp [fascineref14_Same.l1])
                          | succ k4 =>
                            have H := HA.out
                            clear HA
                            simp only [fascineref14_Same.l1] at H
                            by_cases c62 : x8_4 < (((rd_T42 l0_1 x5_2).f3).length : Int)
                            · rw [if_pos c62] at H
                              have c62b0 : decide (x8_4 < (((rd_T42 l0_1 x5_2).f3).length : Int)) = true := decide_eq_true c62
                              clear c62
                              by_cases c63 : 0 ≤ x8_4
                              · rw [if_pos c63] at H
                                have c63b0 : decide (0 ≤ x8_4) = true := decide_eq_true c63
                                clear c63
                                by_cases c64 : x8_4 < (((rd_T42 l1_1 x5_2).f3).length : Int)
                                · rw [if_pos c64] at H
                                  have c64b0 : decide (x8_4 < (((rd_T42 l1_1 x5_2).f3).length : Int)) = true := decide_eq_true c64
                                  clear c64
                                  by_cases c65 : (rd ((rd_T42 l0_1 x5_2).f3) x8_4) = (rd ((rd_T42 l1_1 x5_2).f3) x8_4)
                                  · rw [if_pos c65] at H
                                    have c65b0 : ((rd ((rd_T42 l0_1 x5_2).f3) x8_4) == (rd ((rd_T42 l1_1 x5_2).f3) x8_4)) = true := beq_iff_eq.mpr c65
                                    have c65b1 : ((rd ((rd_T42 l0_1 x5_2).f3) x8_4) != (rd ((rd_T42 l1_1 x5_2).f3) x8_4)) = false := bne_eq_false_iff_eq.mpr c65
                                    clear c65
                                    have H' := Aside0.mk H
                                    clear H
                                    have hnb66 := NB148_145.out
                                    have hnc66 := NB145_148.out
                                    have hnb67 := NB148_146.out
                                    have hnc67 := NB146_148.out
                                    have hnb68 := NB148_150.out
                                    have hnc68 := NB150_148.out
                                    have hcz69_0 : wr.cell? ⟨gb148, 0, none⟩ = some (.int .u64 ((rd_T42 l0_1 x5_2).f0)) := (blk_cell BK148.out 0).trans rfl
                                    have hcz69_1 : wr.cell? ⟨gb148, 1, none⟩ = some (.int .u64 ((rd_T42 l0_1 x5_2).f1)) := (blk_cell BK148.out 1).trans rfl
                                    have hcz69_2 : wr.cell? ⟨gb148, 2, none⟩ = some (.int .i64 ((rd_T42 l0_1 x5_2).f2)) := (blk_cell BK148.out 2).trans rfl
                                    have hcz69_3 : wr.cell? ⟨gb148, 3, none⟩ = some (.slice A147_3 ((rd_T42 l0_1 x5_2).f3).length c147_3) := (blk_cell BK148.out 3).trans rfl
                                    have hfz69_0 := blk_frozen BK148.out 0
                                    have hfz69_1 := blk_frozen BK148.out 1
                                    have hfz69_2 := blk_frozen BK148.out 2
                                    have hfz69_3 := blk_frozen BK148.out 3
                                    have p151 : 0 ≤ (x8_4 : Int) := of_decide_eq_true (by first | (with_reducible assumption) | assumption)
                                    have q151 : x8_4 < (((rd_T42 l0_1 x5_2).f3).length : Int) := of_decide_eq_true (by first | (with_reducible assumption) | assumption)
                                    obtain ⟨ad151, e151, hx151_0⟩ := Kd.at_int HR147_3.out x8_4 p151 q151
                                    cases e151
                                    replace hx151_0 := (HB.out.cell (World.block_lt_of_cell? w _ hx151_0)).trans hx151_0
                                    replace p151 := eq_true p151
                                    replace q151 := eq_true q151
                                    have hnb70 := NB150_145.out
                                    have hnc70 := NB145_150.out
                                    have hnb71 := NB150_146.out
                                    have hnc71 := NB146_150.out
                                    have hcz72_0 : wr.cell? ⟨gb150, 0, none⟩ = some (.int .u64 ((rd_T42 l1_1 x5_2).f0)) := (blk_cell BK150.out 0).trans rfl
                                    have hcz72_1 : wr.cell? ⟨gb150, 1, none⟩ = some (.int .u64 ((rd_T42 l1_1 x5_2).f1)) := (blk_cell BK150.out 1).trans rfl
                                    have hcz72_2 : wr.cell? ⟨gb150, 2, none⟩ = some (.int .i64 ((rd_T42 l1_1 x5_2).f2)) := (blk_cell BK150.out 2).trans rfl
                                    have hcz72_3 : wr.cell? ⟨gb150, 3, none⟩ = some (.slice A149_3 ((rd_T42 l1_1 x5_2).f3).length c149_3) := (blk_cell BK150.out 3).trans rfl
                                    have hfz72_0 := blk_frozen BK150.out 0
                                    have hfz72_1 := blk_frozen BK150.out 1
                                    have hfz72_2 := blk_frozen BK150.out 2
                                    have hfz72_3 := blk_frozen BK150.out 3
                                    have p152 : 0 ≤ (x8_4 : Int) := of_decide_eq_true (by first | (with_reducible assumption) | assumption)
                                    have q152 : x8_4 < (((rd_T42 l1_1 x5_2).f3).length : Int) := of_decide_eq_true (by first | (with_reducible assumption) | assumption)
                                    obtain ⟨ad152, e152, hx152_0⟩ := Kd.at_int HR149_3.out x8_4 p152 q152
                                    cases e152
                                    replace hx152_0 := (HB.out.cell (World.block_lt_of_cell? w _ hx152_0)).trans hx152_0
                                    replace p152 := eq_true p152
                                    replace q152 := eq_true q152
                                    go_wp2
                                    repeat (go_quiet (fail); try go_wp2)
                                    go_roundg k4
                                    case measure => have := HJ2.out; have := HK2.out; have := HJ16.out; have := HK4.out; omega
                                    case rel => exact ⟨(wrap64 (x8_4 + 1)), (by first | rfl | (simp; done) | (simp [*]; done)), H', ⟨by have := HJ2.out; have := HK2.out; have := HJ16.out; have := HK4.out; omega⟩, ⟨by (with_reducible repeat (first | refine blk_drewN ?_ _ | refine blk_drew ?_ | refine blk_alloc ?_ _)); exact BK145.out⟩, ⟨by (with_reducible repeat (first | refine blk_drewN ?_ _ | refine blk_drew ?_ | refine blk_alloc ?_ _)); exact BK146.out⟩, ⟨by (with_reducible repeat (first | refine blk_drewN ?_ _ | refine blk_drew ?_ | refine blk_alloc ?_ _)); exact BK148.out⟩, ⟨by (with_reducible repeat (first | refine blk_drewN ?_ _ | refine blk_drew ?_ | refine blk_alloc ?_ _)); exact BK150.out⟩, ⟨by repeat (first | (with_reducible first | exact HB.out | apply below_alloc | apply pw_below_drewN | apply below_drew1 | refine below_set ?_ GE145.out | refine below_set ?_ GE146.out | refine below_set ?_ GE148.out | refine below_set ?_ GE150.out) | exact HB.out)⟩⟩
                                  · rw [if_neg c65] at H
                                    have c65b0 : ((rd ((rd_T42 l0_1 x5_2).f3) x8_4) == (rd ((rd_T42 l1_1 x5_2).f3) x8_4)) = false := beq_eq_false_iff_ne.mpr c65
                                    have c65b1 : ((rd ((rd_T42 l0_1 x5_2).f3) x8_4) != (rd ((rd_T42 l1_1 x5_2).f3) x8_4)) = true := bne_iff_ne.mpr c65
                                    obtain rfl := Option.some.inj H
                                    have hnb73 := NB148_145.out
                                    have hnc73 := NB145_148.out
                                    have hnb74 := NB148_146.out
                                    have hnc74 := NB146_148.out
                                    have hnb75 := NB148_150.out
                                    have hnc75 := NB150_148.out
                                    have hcz76_0 : wr.cell? ⟨gb148, 0, none⟩ = some (.int .u64 ((rd_T42 l0_1 x5_2).f0)) := (blk_cell BK148.out 0).trans rfl
                                    have hcz76_1 : wr.cell? ⟨gb148, 1, none⟩ = some (.int .u64 ((rd_T42 l0_1 x5_2).f1)) := (blk_cell BK148.out 1).trans rfl
                                    have hcz76_2 : wr.cell? ⟨gb148, 2, none⟩ = some (.int .i64 ((rd_T42 l0_1 x5_2).f2)) := (blk_cell BK148.out 2).trans rfl
                                    have hcz76_3 : wr.cell? ⟨gb148, 3, none⟩ = some (.slice A147_3 ((rd_T42 l0_1 x5_2).f3).length c147_3) := (blk_cell BK148.out 3).trans rfl
                                    have hfz76_0 := blk_frozen BK148.out 0
                                    have hfz76_1 := blk_frozen BK148.out 1
                                    have hfz76_2 := blk_frozen BK148.out 2
                                    have hfz76_3 := blk_frozen BK148.out 3
                                    have p151 : 0 ≤ (x8_4 : Int) := of_decide_eq_true (by first | (with_reducible assumption) | assumption)
                                    have q151 : x8_4 < (((rd_T42 l0_1 x5_2).f3).length : Int) := of_decide_eq_true (by first | (with_reducible assumption) | assumption)
                                    obtain ⟨ad151, e151, hx151_0⟩ := Kd.at_int HR147_3.out x8_4 p151 q151
                                    cases e151
                                    replace hx151_0 := (HB.out.cell (World.block_lt_of_cell? w _ hx151_0)).trans hx151_0
                                    replace p151 := eq_true p151
                                    replace q151 := eq_true q151
                                    have hnb77 := NB150_145.out
                                    have hnc77 := NB145_150.out
                                    have hnb78 := NB150_146.out
                                    have hnc78 := NB146_150.out
                                    have hcz79_0 : wr.cell? ⟨gb150, 0, none⟩ = some (.int .u64 ((rd_T42 l1_1 x5_2).f0)) := (blk_cell BK150.out 0).trans rfl
                                    have hcz79_1 : wr.cell? ⟨gb150, 1, none⟩ = some (.int .u64 ((rd_T42 l1_1 x5_2).f1)) := (blk_cell BK150.out 1).trans rfl
                                    have hcz79_2 : wr.cell? ⟨gb150, 2, none⟩ = some (.int .i64 ((rd_T42 l1_1 x5_2).f2)) := (blk_cell BK150.out 2).trans rfl
                                    have hcz79_3 : wr.cell? ⟨gb150, 3, none⟩ = some (.slice A149_3 ((rd_T42 l1_1 x5_2).f3).length c149_3) := (blk_cell BK150.out 3).trans rfl
                                    have hfz79_0 := blk_frozen BK150.out 0
                                    have hfz79_1 := blk_frozen BK150.out 1
                                    have hfz79_2 := blk_frozen BK150.out 2
                                    have hfz79_3 := blk_frozen BK150.out 3
                                    have p152 : 0 ≤ (x8_4 : Int) := of_decide_eq_true (by first | (with_reducible assumption) | assumption)
                                    have q152 : x8_4 < (((rd_T42 l1_1 x5_2).f3).length : Int) := of_decide_eq_true (by first | (with_reducible assumption) | assumption)
                                    obtain ⟨ad152, e152, hx152_0⟩ := Kd.at_int HR149_3.out x8_4 p152 q152
                                    cases e152
                                    replace hx152_0 := (HB.out.cell (World.block_lt_of_cell? w _ hx152_0)).trans hx152_0
                                    replace p152 := eq_true p152
                                    replace q152 := eq_true q152
                                    go_wp2
                                    repeat (go_quiet (fail); try go_wp2)
                                    go_ret
                                    exact ⟨by first | rfl | (simp [errW_none, errW_some] <;> rfl) | (simp [*, errW_none, errW_some] <;> rfl), by repeat (first | (with_reducible first | exact HB.out | apply below_alloc | apply pw_below_drewN | apply below_drew1 | refine below_set ?_ GE145.out | refine below_set ?_ GE146.out | refine below_set ?_ GE148.out | refine below_set ?_ GE150.out) | exact HB.out)⟩
                                · rw [if_neg c64] at H
                                  exact absurd H (by simp)
                              · rw [if_neg c63] at H
                                exact absurd H (by simp)
                            · rw [if_neg c62] at H
                              have c62b0 : decide (x8_4 < (((rd_T42 l0_1 x5_2).f3).length : Int)) = false := decide_eq_false c62
                              clear c62
                              have H' := Aside0.mk H
                              clear H
                              have hnb80 := NB148_145.out
                              have hnc80 := NB145_148.out
                              have hnb81 := NB148_146.out
                              have hnc81 := NB146_148.out
                              have hnb82 := NB148_150.out
                              have hnc82 := NB150_148.out
                              have hcz83_0 : wr.cell? ⟨gb148, 0, none⟩ = some (.int .u64 ((rd_T42 l0_1 x5_2).f0)) := (blk_cell BK148.out 0).trans rfl
                              have hcz83_1 : wr.cell? ⟨gb148, 1, none⟩ = some (.int .u64 ((rd_T42 l0_1 x5_2).f1)) := (blk_cell BK148.out 1).trans rfl
                              have hcz83_2 : wr.cell? ⟨gb148, 2, none⟩ = some (.int .i64 ((rd_T42 l0_1 x5_2).f2)) := (blk_cell BK148.out 2).trans rfl
                              have hcz83_3 : wr.cell? ⟨gb148, 3, none⟩ = some (.slice A147_3 ((rd_T42 l0_1 x5_2).f3).length c147_3) := (blk_cell BK148.out 3).trans rfl
                              have hfz83_0 := blk_frozen BK148.out 0
                              have hfz83_1 := blk_frozen BK148.out 1
                              have hfz83_2 := blk_frozen BK148.out 2
                              have hfz83_3 := blk_frozen BK148.out 3
                              go_wp2
                              repeat (go_quiet (fail); try go_wp2)
                              go_roundg k4
                              case measure => have := HJ2.out; have := HK2.out; have := HJ16.out; have := HK4.out; omega
                              case rel => exact ⟨(wrap64 (x5_2 + 1)), (by first | rfl | (simp; done) | (simp [*]; done)), H', ⟨by have := HJ2.out; have := HK2.out; have := HJ16.out; have := HK4.out; omega⟩, ⟨by (with_reducible repeat (first | refine blk_drewN ?_ _ | refine blk_drew ?_ | refine blk_alloc ?_ _)); exact BK145.out⟩, ⟨by (with_reducible repeat (first | refine blk_drewN ?_ _ | refine blk_drew ?_ | refine blk_alloc ?_ _)); exact BK146.out⟩, ⟨by repeat (first | (with_reducible first | exact HB.out | apply below_alloc | apply pw_below_drewN | apply below_drew1 | refine below_set ?_ GE145.out | refine below_set ?_ GE146.out | refine below_set ?_ GE148.out | refine below_set ?_ GE150.out) | exact HB.out)⟩⟩
                · rw [if_neg c16] at H
                  exact absurd H (by simp)
              · rw [if_neg c15] at H
                exact absurd H (by simp)
            · rw [if_neg c14] at H
              have c14b0 : decide (x5_2 < (l0_1.length : Int)) = false := decide_eq_false c14
              clear c14
              obtain rfl := Option.some.inj H
              have hnb84 := NB145_146.out
              have hnc84 := NB146_145.out
              have hcz85_0 : wr.cell? ⟨gb145, 0, none⟩ = some (.int .i64 a0_0) := (blk_cell BK145.out 0).trans rfl
              have hcz85_1 : wr.cell? ⟨gb145, 1, none⟩ = some (.slice A0_1 l0_1.length c0_1) := (blk_cell BK145.out 1).trans rfl
              have hfz85_0 := blk_frozen BK145.out 0
              have hfz85_1 := blk_frozen BK145.out 1
              go_wp2
              repeat (go_quiet (fail); try go_wp2)
              go_ret
              exact ⟨by first | rfl | (simp [errW_none, errW_some] <;> rfl) | (simp [*, errW_none, errW_some] <;> rfl), by repeat (first | (with_reducible first | exact HB.out | apply below_alloc | apply pw_below_drewN | apply below_drew1 | refine below_set ?_ GE145.out | refine below_set ?_ GE146.out) | exact HB.out)⟩

end Go.Proofs.Ytkoaeiiaagipeaa.PMetaApplies
