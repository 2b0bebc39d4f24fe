-- WRITTEN BY A PROGRAM OF THIS SESSION (wip/patch_print.py: the kit's printer with rules of this session's own); Lean checks it.
import Derived.Test.YtkoaeiiaagipeaaPMetaPlansx0
import Derived.Test.YtkoaeiiaagipeaaPMetaPlansx5
namespace Go.Proofs.Ytkoaeiiaagipeaa.PMetaPlans
open Go.RowKit Go.Proofs.YtkoaeiiaagipeaaW.PrintWords Go.Proofs.YtkoaeiiaagipeaaW.PrintLast Go.Proofs.YtkoaeiiaagipeaaW.PrintMore
open Go.Proofs.Ytkoaeiiaagipeaa.G
attribute [local go_sem] max2_int min2_int max_two min_two max_three min_three max_four min_four   -- for this text's walks alone
set_option linter.unusedVariables false
set_option linter.unusedSimpArgs false

/-! ### fascineref14_Plan: function 37 -/
mutual
def fascineref14_Plan.l0 : Nat → List Int → Int → Int → Int → Int → List (S42) → Option (Int × Int × Int × Bool)
  | 0, _, _, _, _, _, _ => none
  | k + 1, x6, x7, x8, x9, x177000, x177001 => if x9 < (x177001.length : Int) then (fascineref14_Plan.l1 k x6 x7 x8 x9 0 x177000 x177001) else (fascineref14_Plan.l2 k x6 x7 x8 1 x177000 x177001)
def fascineref14_Plan.l1 : Nat → List Int → Int → Int → Int → Int → Int → List (S42) → Option (Int × Int × Int × Bool)
  | 0, _, _, _, _, _, _, _ => none
  | k + 1, x6, x7, x8, x9, x10, x177000, x177001 => if 0 ≤ x9 then (if x9 < (x177001.length : Int) then (if x10 < (((rd_T42 x177001 x9).f3).length : Int) then (if 0 ≤ x10 then (if 0 ≤ (rd ((rd_T42 x177001 x9).f3) x10) then (if (rd ((rd_T42 x177001 x9).f3) x10) < (x6.length : Int) then (fascineref14_Plan.l1 k (x6.set ((rd ((rd_T42 x177001 x9).f3) x10) : Int).toNat (wrap64 ((rd x6 (rd ((rd_T42 x177001 x9).f3) x10)) + 1))) x7 x8 x9 (wrap64 (x10 + 1)) x177000 x177001) else (none)) else (none)) else (none)) else (fascineref14_Plan.l0 k x6 x7 x8 (wrap64 (x9 + 1)) x177000 x177001)) else (none)) else (none)
def fascineref14_Plan.l2 : Nat → List Int → Int → Int → Int → Int → List (S42) → Option (Int × Int × Int × Bool)
  | 0, _, _, _, _, _, _ => none
  | k + 1, x6, x7, x8, x11, x177000, x177001 => if x11 < x177000 then (if 0 ≤ x11 then (if x11 < (x6.length : Int) then (if 0 ≤ x7 then (if x7 < (x6.length : Int) then (if (rd x6 x11) > (rd x6 x7) then (if 0 ≤ x8 then (if x8 < (x6.length : Int) then (if (rd x6 x11) < (rd x6 x8) then (fascineref14_Plan.l2 k x6 x11 x11 (wrap64 (x11 + 1)) x177000 x177001) else (fascineref14_Plan.l2 k x6 x11 x8 (wrap64 (x11 + 1)) x177000 x177001)) else (none)) else (none)) else (if 0 ≤ x8 then (if x8 < (x6.length : Int) then (if (rd x6 x11) < (rd x6 x8) then (fascineref14_Plan.l2 k x6 x7 x11 (wrap64 (x11 + 1)) x177000 x177001) else (fascineref14_Plan.l2 k x6 x7 x8 (wrap64 (x11 + 1)) x177000 x177001)) else (none)) else (none))) else (none)) else (none)) else (none)) else (none)) else (if 0 ≤ x7 then (if x7 < (x6.length : Int) then (if 0 ≤ x8 then (if x8 < (x6.length : Int) then (if (wrap64 ((rd x6 x7) - (rd x6 x8))) < 2 then (some (0, 0, 0, false)) else (fascineref14_Plan.l3 k x7 x8 0 x177000 x177001)) else (none)) else (none)) else (none)) else (none))
def fascineref14_Plan.l3 : Nat → Int → Int → Int → Int → List (S42) → Option (Int × Int × Int × Bool)
  | 0, _, _, _, _, _ => none
  | k + 1, x7, x8, x12, x177000, x177001 => if x12 < (x177001.length : Int) then (if 0 ≤ x12 then ((fascineref14_In.f k ((rd_T42 x177001 x12).f0) ((rd_T42 x177001 x12).f1) ((rd_T42 x177001 x12).f2) ((rd_T42 x177001 x12).f3) x7).bind fun t195 => (if t195 = true then ((fascineref14_In.f k ((rd_T42 x177001 x12).f0) ((rd_T42 x177001 x12).f1) ((rd_T42 x177001 x12).f2) ((rd_T42 x177001 x12).f3) x8).bind fun t197 => (if t197 = true then (fascineref14_Plan.l3 k x7 x8 (wrap64 (x12 + 1)) x177000 x177001) else (some (x12, x7, x8, true)))) else (fascineref14_Plan.l3 k x7 x8 (wrap64 (x12 + 1)) x177000 x177001))) else (none)) else (some (0, 0, 0, false))
end
def fascineref14_Plan.f (k : Nat) (a0_0 : Int) (l0_1 : List (S42)) : Option (Int × Int × Int × Bool) := (fascineref14_Form.f k a0_0 l0_1).bind fun t177 => (if t177 = true then (if 0 ≤ a0_0 then (if (a0_0 : Int).toNat ≤ 35184372088832 then (fascineref14_Plan.l0 k (List.replicate (a0_0 : Int).toNat 0) 0 0 0 a0_0 l0_1) else (none)) else (none)) else (some (0, 0, 0, false)))
theorem fascineref14_Plan.mono_l : ∀ k, (∀ y0 y1 y2 y3 y4 y5, LeO (fascineref14_Plan.l0 k y0 y1 y2 y3 y4 y5) (fascineref14_Plan.l0 (k + 1) y0 y1 y2 y3 y4 y5)) ∧ (∀ y0 y1 y2 y3 y4 y5 y6, LeO (fascineref14_Plan.l1 k y0 y1 y2 y3 y4 y5 y6) (fascineref14_Plan.l1 (k + 1) y0 y1 y2 y3 y4 y5 y6)) ∧ (∀ y0 y1 y2 y3 y4 y5, LeO (fascineref14_Plan.l2 k y0 y1 y2 y3 y4 y5) (fascineref14_Plan.l2 (k + 1) y0 y1 y2 y3 y4 y5)) ∧ (∀ y0 y1 y2 y3 y4, LeO (fascineref14_Plan.l3 k y0 y1 y2 y3 y4) (fascineref14_Plan.l3 (k + 1) y0 y1 y2 y3 y4))
  | 0 => ⟨fun _ _ _ _ _ _ r h => by simp [fascineref14_Plan.l0] at h, fun _ _ _ _ _ _ _ r h => by simp [fascineref14_Plan.l1] at h, fun _ _ _ _ _ _ r h => by simp [fascineref14_Plan.l2] at h, fun _ _ _ _ _ r h => by simp [fascineref14_Plan.l3] at h⟩
  | k + 1 => by
    obtain ⟨ih0, ih1, ih2, ih3⟩ := fascineref14_Plan.mono_l k
    refine ⟨?_, ?_, ?_, ?_⟩
    · intro y0 y1 y2 y3 y4 y5
      unfold fascineref14_Plan.l0
      repeat' first
      | (with_reducible exact ih0 _ _ _ _ _ _)
      | (with_reducible exact ih1 _ _ _ _ _ _ _)
      | (with_reducible exact ih2 _ _ _ _ _ _)
      | (with_reducible exact ih3 _ _ _ _ _)
      | (with_reducible exact fascineref14_Form.mono _ _ _)
      | (with_reducible exact fascineref14_In.mono _ _ _ _ _ _)
      | (with_reducible exact LeO.refl _)
      | (with_reducible exact LeO.none _)
      | (with_reducible refine LeO.ite ?_ ?_)
      | (with_reducible refine LeO.bind ?_ (fun _ => ?_))
      | exact ih0 _ _ _ _ _ _
      | exact ih1 _ _ _ _ _ _ _
      | exact ih2 _ _ _ _ _ _
      | exact ih3 _ _ _ _ _
      | exact fascineref14_Form.mono _ _ _
      | exact fascineref14_In.mono _ _ _ _ _ _
      | exact LeO.none _
      | refine LeO.ite ?_ ?_
      | refine LeO.bind ?_ (fun _ => ?_)
    · intro y0 y1 y2 y3 y4 y5 y6
      unfold fascineref14_Plan.l1
      repeat' first
      | (with_reducible exact ih0 _ _ _ _ _ _)
      | (with_reducible exact ih1 _ _ _ _ _ _ _)
      | (with_reducible exact ih2 _ _ _ _ _ _)
      | (with_reducible exact ih3 _ _ _ _ _)
      | (with_reducible exact fascineref14_Form.mono _ _ _)
      | (with_reducible exact fascineref14_In.mono _ _ _ _ _ _)
      | (with_reducible exact LeO.refl _)
      | (with_reducible exact LeO.none _)
      | (with_reducible refine LeO.ite ?_ ?_)
      | (with_reducible refine LeO.bind ?_ (fun _ => ?_))
      | exact ih0 _ _ _ _ _ _
      | exact ih1 _ _ _ _ _ _ _
      | exact ih2 _ _ _ _ _ _
      | exact ih3 _ _ _ _ _
      | exact fascineref14_Form.mono _ _ _
      | exact fascineref14_In.mono _ _ _ _ _ _
      | exact LeO.none _
      | refine LeO.ite ?_ ?_
      | refine LeO.bind ?_ (fun _ => ?_)
    · intro y0 y1 y2 y3 y4 y5
      unfold fascineref14_Plan.l2
      repeat' first
      | (with_reducible exact ih0 _ _ _ _ _ _)
      | (with_reducible exact ih1 _ _ _ _ _ _ _)
      | (with_reducible exact ih2 _ _ _ _ _ _)
      | (with_reducible exact ih3 _ _ _ _ _)
      | (with_reducible exact fascineref14_Form.mono _ _ _)
      | (with_reducible exact fascineref14_In.mono _ _ _ _ _ _)
      | (with_reducible exact LeO.refl _)
      | (with_reducible exact LeO.none _)
      | (with_reducible refine LeO.ite ?_ ?_)
      | (with_reducible refine LeO.bind ?_ (fun _ => ?_))
      | exact ih0 _ _ _ _ _ _
      | exact ih1 _ _ _ _ _ _ _
      | exact ih2 _ _ _ _ _ _
      | exact ih3 _ _ _ _ _
      | exact fascineref14_Form.mono _ _ _
      | exact fascineref14_In.mono _ _ _ _ _ _
      | exact LeO.none _
      | refine LeO.ite ?_ ?_
      | refine LeO.bind ?_ (fun _ => ?_)
    · intro y0 y1 y2 y3 y4
      unfold fascineref14_Plan.l3
      repeat' first
      | (with_reducible exact ih0 _ _ _ _ _ _)
      | (with_reducible exact ih1 _ _ _ _ _ _ _)
      | (with_reducible exact ih2 _ _ _ _ _ _)
      | (with_reducible exact ih3 _ _ _ _ _)
      | (with_reducible exact fascineref14_Form.mono _ _ _)
      | (with_reducible exact fascineref14_In.mono _ _ _ _ _ _)
      | (with_reducible exact LeO.refl _)
      | (with_reducible exact LeO.none _)
      | (with_reducible refine LeO.ite ?_ ?_)
      | (with_reducible refine LeO.bind ?_ (fun _ => ?_))
      | exact ih0 _ _ _ _ _ _
      | exact ih1 _ _ _ _ _ _ _
      | exact ih2 _ _ _ _ _ _
      | exact ih3 _ _ _ _ _
      | exact fascineref14_Form.mono _ _ _
      | exact fascineref14_In.mono _ _ _ _ _ _
      | exact LeO.none _
      | refine LeO.ite ?_ ?_
      | refine LeO.bind ?_ (fun _ => ?_)
theorem fascineref14_Plan.mono : ∀ a0 a1 k, LeO (fascineref14_Plan.f k a0 a1) (fascineref14_Plan.f (k + 1) a0 a1) := by
  intro a0 a1 k
  obtain ⟨ih0, ih1, ih2, ih3⟩ := fascineref14_Plan.mono_l k
  unfold fascineref14_Plan.f
  repeat' first
      | (with_reducible exact ih0 _ _ _ _ _ _)
      | (with_reducible exact ih1 _ _ _ _ _ _ _)
      | (with_reducible exact ih2 _ _ _ _ _ _)
      | (with_reducible exact ih3 _ _ _ _ _)
      | (with_reducible exact fascineref14_Form.mono _ _ _)
      | (with_reducible exact fascineref14_In.mono _ _ _ _ _ _)
      | (with_reducible exact LeO.refl _)
      | (with_reducible exact LeO.none _)
      | (with_reducible refine LeO.ite ?_ ?_)
      | (with_reducible refine LeO.bind ?_ (fun _ => ?_))
      | exact ih0 _ _ _ _ _ _
      | exact ih1 _ _ _ _ _ _ _
      | exact ih2 _ _ _ _ _ _
      | exact ih3 _ _ _ _ _
      | exact fascineref14_Form.mono _ _ _
      | exact fascineref14_In.mono _ _ _ _ _ _
      | exact LeO.none _
      | refine LeO.ite ?_ ?_
      | refine LeO.bind ?_ (fun _ => ?_)
set_option maxHeartbeats 8000000 in
set_option maxRecDepth 100000 in
theorem fascineref14_Plan.calls (k : Nat) (a0_0 : Int) (A0_1 : Option Addr) (c0_1 : Nat) (l0_1 : List (S42)) (r1 : Int) (r2 : Int) (r3 : Int) (r4 : Bool) (w : World) (hr0_1 : Kd.C k42 w A0_1 l0_1.length l0_1) (hc0_1 : l0_1.length ≤ c0_1) (h : fascineref14_Plan.f k a0_0 l0_1 = some (r1, r2, r3, r4)) :
    Calls Try.prog 37 #[.agg #[.int .i64 a0_0, .slice A0_1 l0_1.length c0_1]] w fun e w' => e = .returned (.tuple #[.int .i64 r1, .int .i64 r2, .int .i64 r3, .bool r4]) ∧ Below w.heap.size w w' := by
  have hu24 := Try.underlying24
  have hu42 := Try.underlying42
  have HR0_1 := Aside0.mk hr0_1
  have HC0_1 := Aside0.mk hc0_1
  clear hr0_1 hc0_1
  have HB := Aside0.mk (Below.refl w.heap.size w)
  have H : ((fascineref14_Form.f k a0_0 l0_1).bind fun t177 => (if t177 = true then (if 0 ≤ a0_0 then (if (a0_0 : Int).toNat ≤ 35184372088832 then (fascineref14_Plan.l0 k (List.replicate (a0_0 : Int).toNat 0) 0 0 0 a0_0 l0_1) else (none)) else (none)) else (some (0, 0, 0, false)))) = some (r1, r2, r3, r4) := h
  clear h
  replace H := Option.bind_eq_some_iff.mp H
  obtain ⟨t177, A20, H⟩ := H
  replace H : (if t177 = true then (if 0 ≤ a0_0 then (if (a0_0 : Int).toNat ≤ 35184372088832 then (fascineref14_Plan.l0 k (List.replicate (a0_0 : Int).toNat 0) 0 0 0 a0_0 l0_1) else (none)) else (none)) else (some (0, 0, 0, false))) = some (r1, r2, r3, r4) := H
  have A2 := Aside0.mk A20
  clear A20
  by_cases c3 : t177 = true
  · subst c3
    have H1 : (if 0 ≤ a0_0 then (if (a0_0 : Int).toNat ≤ 35184372088832 then (fascineref14_Plan.l0 k (List.replicate (a0_0 : Int).toNat 0) 0 0 0 a0_0 l0_1) else (none)) else (none)) = some (r1, r2, r3, r4) := by rw [if_pos rfl] at H; exact H
    clear H
    have H := H1
    clear H1
    by_cases c4 : 0 ≤ a0_0
    · rw [if_pos c4] at H
      have c4b0 := eq_true c4
      have c4b1 : decide (0 ≤ a0_0) = true := decide_eq_true c4
      clear c4
      by_cases c5 : (a0_0 : Int).toNat ≤ 35184372088832
      · rw [if_pos c5] at H
        have c5b0 := eq_true c5
        have c5b1 : decide ((a0_0 : Int).toNat ≤ 35184372088832) = true := decide_eq_true c5
        clear c5
        obtain ⟨y178, hy178⟩ : ∃ y_ : List Int, y_ = (List.replicate (a0_0 : Int).toNat 0) := ⟨_, rfl⟩
        replace H : (fascineref14_Plan.l0 k y178 0 0 0 a0_0 l0_1) = some (r1, r2, r3, r4) := by first | (rw [hy178]; with_reducible exact H) | (have H2_ := (Option.bind_some _ _).symm.trans H; rw [hy178]; with_reducible exact H2_) | (have H2_ := (Option.bind_some _ _).symm.trans H; with_reducible exact H2_) | with_reducible exact H | (rw [hy178]; exact H) | exact H
        have Ny178 := Aside0.mk hy178
        clear hy178
        have H' := Aside0.mk H
        clear H
        go_enter Try.func37, Try.ntmps37
        go_wp2_with (first | ((with_reducible refine gate_dst (N := 1) rfl ?_); refine box_event ?hg (N := 1) ?hd (cs := #[.int .i64 a0_0, .slice A0_1 l0_1.length c0_1]) (t := 24) ?hr ?_; (case hd => rfl); (case hg => rfl); (case hr => first | (go_simp; done) | (go_simp; rfl)); intro gb176 hg w6 hbox hb; have n0_ := Aside0.mk (below_step (by repeat (first | (with_reducible first | exact HB.out | apply below_alloc | apply pw_below_drewN | apply below_drew1) | exact HB.out)) hb); have n1_ := Aside0.mk (hbox); have n2_ := Aside0.mk ((by rw [hg]; exact (below_size (by repeat (first | (with_reducible first | exact HB.out | apply below_alloc | apply pw_below_drewN | apply below_drew1) | exact HB.out))) : w.heap.size ≤ gb176)); have n3_ := Aside0.mk ((by rw [hg]; exact (below_size (by repeat (first | (with_reducible first | exact HB.out | apply below_alloc | apply pw_below_drewN | apply below_drew1) | exact HB.out))) : w.heap.size ≤ gb176)); clear HB; have HB := n0_; have BK176 := n1_; have GW176 := n2_; have GE176 := n3_; clear n0_ n1_ n2_ n3_; clear hb hbox hg; have hcz7_0 : w6.cell? ⟨gb176, 0, none⟩ = some (.int .i64 a0_0) := (blk_cell BK176.out 0).trans rfl; have hcz7_1 : w6.cell? ⟨gb176, 1, none⟩ = some (.slice A0_1 l0_1.length c0_1) := (blk_cell BK176.out 1).trans rfl; have hfz7_0 := blk_frozen BK176.out 0; have hfz7_1 := blk_frozen BK176.out 1) | (go_at_call 20; (with_reducible refine (fascineref14_Form.calls k a0_0 _ _ l0_1 true _ ?side1 ?side2 A2.out).mono ?_); (case side1 => repeat (first | exact (Kd.C_below HR0_1.out HB.out) | (with_reducible refine Kd.C_alloc ?_ _) | (with_reducible refine Kd.C_drewN ?_ _) | (with_reducible refine Kd.C_drew ?_))); (case side2 => exact HC0_1.out); rintro e w8 ⟨rfl, hb⟩; have n0_ := Aside0.mk (blk_below (g := gb176) (o := .cells #[.int .i64 a0_0, .slice A0_1 l0_1.length c0_1] 24 (0, 0)) (by (with_reducible repeat (first | refine blk_drewN ?_ _ | refine blk_drew ?_ | refine blk_alloc ?_ _)); exact BK176.out) hb); have n1_ := Aside0.mk (below_step (by repeat (first | (with_reducible first | exact HB.out | apply below_alloc | apply pw_below_drewN | apply below_drew1 | refine below_set ?_ GE176.out) | exact HB.out)) hb); clear BK176; clear HB; have BK176 := n0_; have HB := n1_; clear n0_ n1_; (try clear hb); (try clear hb2); (try clear hk); (try clear hi); have hcz9_0 : w8.cell? ⟨gb176, 0, none⟩ = some (.int .i64 a0_0) := (blk_cell BK176.out 0).trans rfl; have hcz9_1 : w8.cell? ⟨gb176, 1, none⟩ = some (.slice A0_1 l0_1.length c0_1) := (blk_cell BK176.out 1).trans rfl; have hfz9_0 := blk_frozen BK176.out 0; have hfz9_1 := blk_frozen BK176.out 1) | ((with_reducible refine gate_dst (N := 18) rfl ?_); refine Kd.R_make (Kd.int .i64) _ 3 rfl (N := 18) rfl 40 _ _ rfl a0_0 rfl rfl Try.underlying40 (.int .i64 0) 8 info3 rfl (by decide) (by omega) 0 (ok := fun _ => True) (okp := fun _ => True) rfl (fun _ hk => hk) trivial (of_decide_eq_true (by first | (with_reducible assumption) | assumption)) (Nat.le_trans (Nat.mul_le_mul_right _ (of_decide_eq_true (by first | (with_reducible assumption) | assumption) : a0_0.toNat ≤ 35184372088832)) (by omega)) (Below.refl _ _) (Nat.le_refl _) ?_; intro v179 w10 ho11 hb hg_ hnew_; clear hg_ hnew_; (first | rw [← Ny178.out] at ho11 | (simp only [Int.reduceToNat] at ho11; rw [← Ny178.out] at ho11)); have n0_ := Aside0.mk (Kd.R_lower ho11 (below_size (by repeat (first | (with_reducible first | exact HB.out | apply below_alloc | apply pw_below_drewN | apply below_drew1 | refine below_set ?_ GE176.out) | exact HB.out)))); have n1_ := Aside0.mk (blk_below (g := gb176) (o := .cells #[.int .i64 a0_0, .slice A0_1 l0_1.length c0_1] 24 (0, 0)) (by (with_reducible repeat (first | refine blk_drewN ?_ _ | refine blk_drew ?_ | refine blk_alloc ?_ _)); exact BK176.out) hb); have n2_ := Aside0.mk (below_step (by repeat (first | (with_reducible first | exact HB.out | apply below_alloc | apply pw_below_drewN | apply below_drew1 | refine below_set ?_ GE176.out) | exact HB.out)) hb); clear BK176; clear HB; have HO180 := n0_; have BK176 := n1_; have HB := n2_; clear n0_ n1_ n2_; clear hb ho11))
        repeat (go_quiet (first | ((with_reducible refine gate_dst (N := 1) rfl ?_); refine box_event ?hg (N := 1) ?hd (cs := #[.int .i64 a0_0, .slice A0_1 l0_1.length c0_1]) (t := 24) ?hr ?_; (case hd => rfl); (case hg => rfl); (case hr => first | (go_simp; done) | (go_simp; rfl)); intro gb176 hg w6 hbox hb; have n0_ := Aside0.mk (below_step (by repeat (first | (with_reducible first | exact HB.out | apply below_alloc | apply pw_below_drewN | apply below_drew1) | exact HB.out)) hb); have n1_ := Aside0.mk (hbox); have n2_ := Aside0.mk ((by rw [hg]; exact (below_size (by repeat (first | (with_reducible first | exact HB.out | apply below_alloc | apply pw_below_drewN | apply below_drew1) | exact HB.out))) : w.heap.size ≤ gb176)); have n3_ := Aside0.mk ((by rw [hg]; exact (below_size (by repeat (first | (with_reducible first | exact HB.out | apply below_alloc | apply pw_below_drewN | apply below_drew1) | exact HB.out))) : w.heap.size ≤ gb176)); clear HB; have HB := n0_; have BK176 := n1_; have GW176 := n2_; have GE176 := n3_; clear n0_ n1_ n2_ n3_; clear hb hbox hg; have hcz7_0 : w6.cell? ⟨gb176, 0, none⟩ = some (.int .i64 a0_0) := (blk_cell BK176.out 0).trans rfl; have hcz7_1 : w6.cell? ⟨gb176, 1, none⟩ = some (.slice A0_1 l0_1.length c0_1) := (blk_cell BK176.out 1).trans rfl; have hfz7_0 := blk_frozen BK176.out 0; have hfz7_1 := blk_frozen BK176.out 1) | (go_at_call 20; (with_reducible refine (fascineref14_Form.calls k a0_0 _ _ l0_1 true _ ?side1 ?side2 A2.out).mono ?_); (case side1 => repeat (first | exact (Kd.C_below HR0_1.out HB.out) | (with_reducible refine Kd.C_alloc ?_ _) | (with_reducible refine Kd.C_drewN ?_ _) | (with_reducible refine Kd.C_drew ?_))); (case side2 => exact HC0_1.out); rintro e w8 ⟨rfl, hb⟩; have n0_ := Aside0.mk (blk_below (g := gb176) (o := .cells #[.int .i64 a0_0, .slice A0_1 l0_1.length c0_1] 24 (0, 0)) (by (with_reducible repeat (first | refine blk_drewN ?_ _ | refine blk_drew ?_ | refine blk_alloc ?_ _)); exact BK176.out) hb); have n1_ := Aside0.mk (below_step (by repeat (first | (with_reducible first | exact HB.out | apply below_alloc | apply pw_below_drewN | apply below_drew1 | refine below_set ?_ GE176.out) | exact HB.out)) hb); clear BK176; clear HB; have BK176 := n0_; have HB := n1_; clear n0_ n1_; (try clear hb); (try clear hb2); (try clear hk); (try clear hi); have hcz9_0 : w8.cell? ⟨gb176, 0, none⟩ = some (.int .i64 a0_0) := (blk_cell BK176.out 0).trans rfl; have hcz9_1 : w8.cell? ⟨gb176, 1, none⟩ = some (.slice A0_1 l0_1.length c0_1) := (blk_cell BK176.out 1).trans rfl; have hfz9_0 := blk_frozen BK176.out 0; have hfz9_1 := blk_frozen BK176.out 1) | ((with_reducible refine gate_dst (N := 18) rfl ?_); refine Kd.R_make (Kd.int .i64) _ 3 rfl (N := 18) rfl 40 _ _ rfl a0_0 rfl rfl Try.underlying40 (.int .i64 0) 8 info3 rfl (by decide) (by omega) 0 (ok := fun _ => True) (okp := fun _ => True) rfl (fun _ hk => hk) trivial (of_decide_eq_true (by first | (with_reducible assumption) | assumption)) (Nat.le_trans (Nat.mul_le_mul_right _ (of_decide_eq_true (by first | (with_reducible assumption) | assumption) : a0_0.toNat ≤ 35184372088832)) (by omega)) (Below.refl _ _) (Nat.le_refl _) ?_; intro v179 w10 ho11 hb hg_ hnew_; clear hg_ hnew_; (first | rw [← Ny178.out] at ho11 | (simp only [Int.reduceToNat] at ho11; rw [← Ny178.out] at ho11)); have n0_ := Aside0.mk (Kd.R_lower ho11 (below_size (by repeat (first | (with_reducible first | exact HB.out | apply below_alloc | apply pw_below_drewN | apply below_drew1 | refine below_set ?_ GE176.out) | exact HB.out)))); have n1_ := Aside0.mk (blk_below (g := gb176) (o := .cells #[.int .i64 a0_0, .slice A0_1 l0_1.length c0_1] 24 (0, 0)) (by (with_reducible repeat (first | refine blk_drewN ?_ _ | refine blk_drew ?_ | refine blk_alloc ?_ _)); exact BK176.out) hb); have n2_ := Aside0.mk (below_step (by repeat (first | (with_reducible first | exact HB.out | apply below_alloc | apply pw_below_drewN | apply below_drew1 | refine below_set ?_ GE176.out) | exact HB.out)) hb); clear BK176; clear HB; have HO180 := n0_; have BK176 := n1_; have HB := n2_; clear n0_ n1_ n2_; clear hb ho11)); try go_wp2_with (first | ((with_reducible refine gate_dst (N := 1) rfl ?_); refine box_event ?hg (N := 1) ?hd (cs := #[.int .i64 a0_0, .slice A0_1 l0_1.length c0_1]) (t := 24) ?hr ?_; (case hd => rfl); (case hg => rfl); (case hr => first | (go_simp; done) | (go_simp; rfl)); intro gb176 hg w6 hbox hb; have n0_ := Aside0.mk (below_step (by repeat (first | (with_reducible first | exact HB.out | apply below_alloc | apply pw_below_drewN | apply below_drew1) | exact HB.out)) hb); have n1_ := Aside0.mk (hbox); have n2_ := Aside0.mk ((by rw [hg]; exact (below_size (by repeat (first | (with_reducible first | exact HB.out | apply below_alloc | apply pw_below_drewN | apply below_drew1) | exact HB.out))) : w.heap.size ≤ gb176)); have n3_ := Aside0.mk ((by rw [hg]; exact (below_size (by repeat (first | (with_reducible first | exact HB.out | apply below_alloc | apply pw_below_drewN | apply below_drew1) | exact HB.out))) : w.heap.size ≤ gb176)); clear HB; have HB := n0_; have BK176 := n1_; have GW176 := n2_; have GE176 := n3_; clear n0_ n1_ n2_ n3_; clear hb hbox hg; have hcz7_0 : w6.cell? ⟨gb176, 0, none⟩ = some (.int .i64 a0_0) := (blk_cell BK176.out 0).trans rfl; have hcz7_1 : w6.cell? ⟨gb176, 1, none⟩ = some (.slice A0_1 l0_1.length c0_1) := (blk_cell BK176.out 1).trans rfl; have hfz7_0 := blk_frozen BK176.out 0; have hfz7_1 := blk_frozen BK176.out 1) | (go_at_call 20; (with_reducible refine (fascineref14_Form.calls k a0_0 _ _ l0_1 true _ ?side1 ?side2 A2.out).mono ?_); (case side1 => repeat (first | exact (Kd.C_below HR0_1.out HB.out) | (with_reducible refine Kd.C_alloc ?_ _) | (with_reducible refine Kd.C_drewN ?_ _) | (with_reducible refine Kd.C_drew ?_))); (case side2 => exact HC0_1.out); rintro e w8 ⟨rfl, hb⟩; have n0_ := Aside0.mk (blk_below (g := gb176) (o := .cells #[.int .i64 a0_0, .slice A0_1 l0_1.length c0_1] 24 (0, 0)) (by (with_reducible repeat (first | refine blk_drewN ?_ _ | refine blk_drew ?_ | refine blk_alloc ?_ _)); exact BK176.out) hb); have n1_ := Aside0.mk (below_step (by repeat (first | (with_reducible first | exact HB.out | apply below_alloc | apply pw_below_drewN | apply below_drew1 | refine below_set ?_ GE176.out) | exact HB.out)) hb); clear BK176; clear HB; have BK176 := n0_; have HB := n1_; clear n0_ n1_; (try clear hb); (try clear hb2); (try clear hk); (try clear hi); have hcz9_0 : w8.cell? ⟨gb176, 0, none⟩ = some (.int .i64 a0_0) := (blk_cell BK176.out 0).trans rfl; have hcz9_1 : w8.cell? ⟨gb176, 1, none⟩ = some (.slice A0_1 l0_1.length c0_1) := (blk_cell BK176.out 1).trans rfl; have hfz9_0 := blk_frozen BK176.out 0; have hfz9_1 := blk_frozen BK176.out 1) | ((with_reducible refine gate_dst (N := 18) rfl ?_); refine Kd.R_make (Kd.int .i64) _ 3 rfl (N := 18) rfl 40 _ _ rfl a0_0 rfl rfl Try.underlying40 (.int .i64 0) 8 info3 rfl (by decide) (by omega) 0 (ok := fun _ => True) (okp := fun _ => True) rfl (fun _ hk => hk) trivial (of_decide_eq_true (by first | (with_reducible assumption) | assumption)) (Nat.le_trans (Nat.mul_le_mul_right _ (of_decide_eq_true (by first | (with_reducible assumption) | assumption) : a0_0.toNat ≤ 35184372088832)) (by omega)) (Below.refl _ _) (Nat.le_refl _) ?_; intro v179 w10 ho11 hb hg_ hnew_; clear hg_ hnew_; (first | rw [← Ny178.out] at ho11 | (simp only [Int.reduceToNat] at ho11; rw [← Ny178.out] at ho11)); have n0_ := Aside0.mk (Kd.R_lower ho11 (below_size (by repeat (first | (with_reducible first | exact HB.out | apply below_alloc | apply pw_below_drewN | apply below_drew1 | refine below_set ?_ GE176.out) | exact HB.out)))); have n1_ := Aside0.mk (blk_below (g := gb176) (o := .cells #[.int .i64 a0_0, .slice A0_1 l0_1.length c0_1] 24 (0, 0)) (by (with_reducible repeat (first | refine blk_drewN ?_ _ | refine blk_drew ?_ | refine blk_alloc ?_ _)); exact BK176.out) hb); have n2_ := Aside0.mk (below_step (by repeat (first | (with_reducible first | exact HB.out | apply below_alloc | apply pw_below_drewN | apply below_drew1 | refine below_set ?_ GE176.out) | exact HB.out)) hb); clear BK176; clear HB; have HO180 := n0_; have BK176 := n1_; have HB := n2_; clear n0_ n1_ n2_; clear hb ho11)))
        go_loopg [9] k (fun kq v9 w' => ∃ (x6_1 : List Int) (x9_1 : Int), v9 = .int .i64 x9_1 ∧ Aside0 (fascineref14_Plan.l0 kq x6_1 0 0 x9_1 a0_0 l0_1 = some (r1, r2, r3, r4)) ∧ Aside0 (kq ≤ k) ∧ Aside0 (Kd.R (Kd.int .i64) 3 w' w.heap.size (fun _ => True) v179 x6_1) ∧ Aside0 (w'.heap[gb176]? = some (.cells #[.int .i64 a0_0, (.slice A0_1 l0_1.length c0_1)] 24 (0, 0))) ∧ Aside0 (Below w.heap.size w w'))
        case atStart => exact ⟨(y178), (0), (by first | rfl | (simp; done) | (simp [*]; done)), H', ⟨Nat.le_refl _⟩, ⟨by (with_reducible repeat (first | apply Kd.R_alloc | apply Kd.R_drewN | apply Kd.R_drew)); exact HO180.out⟩, ⟨by (with_reducible repeat (first | refine blk_drewN ?_ _ | refine blk_drew ?_ | refine blk_alloc ?_ _)); exact BK176.out⟩, ⟨by repeat (first | (with_reducible first | exact HB.out | apply below_alloc | apply pw_below_drewN | apply below_drew1 | refine below_set ?_ GE176.out) | exact HB.out)⟩⟩
        case round =>
          clear H'
          try clear p2
          try clear c3
          try clear c4
          try clear c4b0
          try clear c4b1
          try clear c5
          try clear c5b0
          try clear c5b1
          try clear hcz7_0
          try clear hcz7_1
          try clear hcz9_0
          try clear hcz9_1
          try clear hfz7_0
          try clear hfz7_1
          try clear hfz9_0
          try clear hfz9_1
          obtain ⟨x6_1, x9_1, rfl, HA, HK1, HO_6, BK176, HB⟩ := hrel
          cases gk with
          | zero => exact absurd HA.out (by simp [fascineref14_Plan.l0])
          | succ k1 =>
            have H := HA.out
            clear HA
            simp only [fascineref14_Plan.l0] at H
            by_cases c12 : x9_1 < (l0_1.length : Int)
            · rw [if_pos c12] at H
              have c12b0 : decide (x9_1 < (l0_1.length : Int)) = true := decide_eq_true c12
              clear c12
              have H' := Aside0.mk H
              clear H
              have hcz13_0 : wr.cell? ⟨gb176, 0, none⟩ = some (.int .i64 a0_0) := (blk_cell BK176.out 0).trans rfl
              have hcz13_1 : wr.cell? ⟨gb176, 1, none⟩ = some (.slice A0_1 l0_1.length c0_1) := (blk_cell BK176.out 1).trans rfl
              have hfz13_0 := blk_frozen BK176.out 0
              have hfz13_1 := blk_frozen BK176.out 1
              go_wp2
              repeat (go_quiet (fail); try go_wp2)
              go_loopg [10] k1 (fun kq v10 w' => ∃ (x6_2 : List Int) (x10_2 : Int), v10 = .int .i64 x10_2 ∧ Aside0 (fascineref14_Plan.l1 kq x6_2 0 0 x9_1 x10_2 a0_0 l0_1 = some (r1, r2, r3, r4)) ∧ Aside0 (kq ≤ k1) ∧ Aside0 (Kd.R (Kd.int .i64) 3 w' w.heap.size (fun _ => True) v179 x6_2) ∧ Aside0 (w'.heap[gb176]? = some (.cells #[.int .i64 a0_0, (.slice A0_1 l0_1.length c0_1)] 24 (0, 0))) ∧ Aside0 (Below w.heap.size w w'))
              case atStart => exact ⟨(x6_1), (0), (by first | rfl | (simp; done) | (simp [*]; done)), H', ⟨Nat.le_refl _⟩, ⟨by (with_reducible repeat (first | apply Kd.R_alloc | apply Kd.R_drewN | apply Kd.R_drew)); exact HO_6.out⟩, ⟨by (with_reducible repeat (first | refine blk_drewN ?_ _ | refine blk_drew ?_ | refine blk_alloc ?_ _)); exact BK176.out⟩, ⟨by repeat (first | (with_reducible first | exact HB.out | apply below_alloc | apply pw_below_drewN | apply below_drew1 | refine below_set ?_ GE176.out) | exact HB.out)⟩⟩
              case round =>
                clear H'
                try clear c1
                try clear p2
                try clear c3
                try clear c4
                try clear c4b0
                try clear c4b1
                try clear c5
                try clear c5b0
                try clear c5b1
                try clear c12
                try clear c12b0
                try clear hcz13_0
                try clear hcz13_1
                try clear hcz7_0
                try clear hcz7_1
                try clear hcz9_0
                try clear hcz9_1
                try clear hfz13_0
                try clear hfz13_1
                try clear hfz7_0
                try clear hfz7_1
                try clear hfz9_0
                try clear hfz9_1
                try clear p2
                obtain ⟨x6_2, x10_2, rfl, HA, HK2, HO_6, BK176, HB⟩ := hrel
                cases gk with
                | zero => exact absurd HA.out (by simp [fascineref14_Plan.l1])
                | succ k2 =>
                  have H := HA.out
                  clear HA
                  simp only [fascineref14_Plan.l1] at H
                  by_cases c14 : 0 ≤ x9_1
                  · rw [if_pos c14] at H
                    have c14b0 : decide (0 ≤ x9_1) = true := decide_eq_true c14
                    clear c14
                    by_cases c15 : x9_1 < (l0_1.length : Int)
                    · rw [if_pos c15] at H
                      have c15b0 : decide (x9_1 < (l0_1.length : Int)) = true := decide_eq_true c15
                      clear c15
                      by_cases c16 : x10_2 < (((rd_T42 l0_1 x9_1).f3).length : Int)
                      · rw [if_pos c16] at H
                        have c16b0 : decide (x10_2 < (((rd_T42 l0_1 x9_1).f3).length : Int)) = true := decide_eq_true c16
                        clear c16
                        by_cases c17 : 0 ≤ x10_2
                        · rw [if_pos c17] at H
                          have c17b0 : decide (0 ≤ x10_2) = true := decide_eq_true c17
                          clear c17
                          by_cases c18 : 0 ≤ (rd ((rd_T42 l0_1 x9_1).f3) x10_2)
                          · rw [if_pos c18] at H
                            have c18b0 : decide (0 ≤ (rd ((rd_T42 l0_1 x9_1).f3) x10_2)) = true := decide_eq_true c18
                            clear c18
                            by_cases c19 : (rd ((rd_T42 l0_1 x9_1).f3) x10_2) < (x6_2.length : Int)
                            · rw [if_pos c19] at H
                              have c19b0 : decide ((rd ((rd_T42 l0_1 x9_1).f3) x10_2) < (x6_2.length : Int)) = true := decide_eq_true c19
                              clear c19
                              obtain ⟨y185, hy185⟩ : ∃ y_ : List Int, y_ = (x6_2.set ((rd ((rd_T42 l0_1 x9_1).f3) x10_2) : Int).toNat (wrap64 ((rd x6_2 (rd ((rd_T42 l0_1 x9_1).f3) x10_2)) + 1))) := ⟨_, rfl⟩
                              replace H : (fascineref14_Plan.l1 k2 y185 0 0 x9_1 (wrap64 (x10_2 + 1)) a0_0 l0_1) = some (r1, r2, r3, r4) := by first | (rw [hy185]; with_reducible exact H) | (have H2_ := (Option.bind_some _ _).symm.trans H; rw [hy185]; with_reducible exact H2_) | (have H2_ := (Option.bind_some _ _).symm.trans H; with_reducible exact H2_) | with_reducible exact H | (rw [hy185]; exact H) | exact H
                              have Ny185 := Aside0.mk hy185
                              clear hy185
                              have H' := Aside0.mk H
                              clear H
                              have hcz21_0 : wr.cell? ⟨gb176, 0, none⟩ = some (.int .i64 a0_0) := (blk_cell BK176.out 0).trans rfl
                              have hcz21_1 : wr.cell? ⟨gb176, 1, none⟩ = some (.slice A0_1 l0_1.length c0_1) := (blk_cell BK176.out 1).trans rfl
                              have hfz21_0 := blk_frozen BK176.out 0
                              have hfz21_1 := blk_frozen BK176.out 1
                              have p181 : 0 ≤ (x9_1 : Int) := of_decide_eq_true (by first | (with_reducible assumption) | assumption)
                              have q181 : x9_1 < (l0_1.length : Int) := of_decide_eq_true (by first | (with_reducible assumption) | assumption)
                              obtain ⟨ad181, A181_3, c181_3, e181, hx181_0, hx181_1, hx181_2, hx181_3, hl181_3, hi181_3⟩ := at_T42 HR0_1.out x9_1 p181 q181
                              cases e181
                              replace hx181_0 := (HB.out.cell (World.block_lt_of_cell? w _ hx181_0)).trans hx181_0
                              replace hx181_1 := (HB.out.cell (World.block_lt_of_cell? w _ hx181_1)).trans hx181_1
                              replace hx181_2 := (HB.out.cell (World.block_lt_of_cell? w _ hx181_2)).trans hx181_2
                              replace hx181_3 := (HB.out.cell (World.block_lt_of_cell? w _ hx181_3)).trans hx181_3
                              have HR181_3 := Aside0.mk hi181_3
                              have HC181_3 := Aside0.mk hl181_3
                              clear hi181_3 hl181_3
                              replace p181 := eq_true p181
                              replace q181 := eq_true q181
                              have p182 : 0 ≤ (x9_1 : Int) := of_decide_eq_true (by first | (with_reducible assumption) | assumption)
                              have q182 : x9_1 < (l0_1.length : Int) := of_decide_eq_true (by first | (with_reducible assumption) | assumption)
                              obtain ⟨ad182, A182_3, c182_3, e182, hx182_0, hx182_1, hx182_2, hx182_3, hl182_3, hi182_3⟩ := at_T42 HR0_1.out x9_1 p182 q182
                              obtain rfl : ad181 = ad182 := (by injection e182)
                              replace hx182_0 := (HB.out.cell (World.block_lt_of_cell? w _ hx182_0)).trans hx182_0
                              replace hx182_1 := (HB.out.cell (World.block_lt_of_cell? w _ hx182_1)).trans hx182_1
                              replace hx182_2 := (HB.out.cell (World.block_lt_of_cell? w _ hx182_2)).trans hx182_2
                              replace hx182_3 := (HB.out.cell (World.block_lt_of_cell? w _ hx182_3)).trans hx182_3
                              have HR182_3 := Aside0.mk hi182_3
                              have HC182_3 := Aside0.mk hl182_3
                              clear hi182_3 hl182_3
                              replace p182 := eq_true p182
                              replace q182 := eq_true q182
                              have ea_ := Option.some.inj (hx181_3.symm.trans hx182_3)
                              injection ea_ with ea_ en_ ec_
                              subst ea_
                              subst ec_
                              clear en_
                              have p183 : 0 ≤ (x10_2 : Int) := of_decide_eq_true (by first | (with_reducible assumption) | assumption)
                              have q183 : x10_2 < (((rd_T42 l0_1 x9_1).f3).length : Int) := of_decide_eq_true (by first | (with_reducible assumption) | assumption)
                              obtain ⟨ad183, e183, hx183_0⟩ := Kd.at_int HR182_3.out x10_2 p183 q183
                              cases e183
                              replace hx183_0 := (HB.out.cell (World.block_lt_of_cell? w _ hx183_0)).trans hx183_0
                              replace p183 := eq_true p183
                              replace q183 := eq_true q183
                              obtain ⟨Ao22, co22, eo22⟩ := Kd.R_slice HO_6.out
                              subst eo22
                              have p184 : 0 ≤ ((rd ((rd_T42 l0_1 x9_1).f3) x10_2) : Int) := of_decide_eq_true (by first | (with_reducible assumption) | assumption)
                              have q184 : (rd ((rd_T42 l0_1 x9_1).f3) x10_2) < (x6_2.length : Int) := of_decide_eq_true (by first | (with_reducible assumption) | assumption)
                              obtain ⟨ad184, e184, hx184_0⟩ := Kd.at_int (Kd.R_reads' HO_6.out).2.2 (rd ((rd_T42 l0_1 x9_1).f3) x10_2) p184 q184
                              cases e184
                              replace p184 := eq_true p184
                              replace q184 := eq_true q184
                              have p20 : 0 ≤ ((rd ((rd_T42 l0_1 x9_1).f3) x10_2) : Int) := of_decide_eq_true (by first | (with_reducible assumption) | assumption)
                              have q20 : ((rd ((rd_T42 l0_1 x9_1).f3) x10_2) : Int) < ((x6_2.length : Int) : Int) := of_decide_eq_true (by first | (with_reducible assumption) | assumption)
                              obtain ⟨go20, co20, eo20, gb20, gl20, cl20, HG20⟩ := Kd.R_form HO_6.out (by omega)
                              (first | cases eo20 | (injection eo20 with ea_ en_ ec_; (first | subst ea_ | (injection ea_ with ea_; subst ea_)); subst ec_; clear en_))
                              have GB20 := Aside0.mk gb20
                              have GG20 := Aside0.mk HG20
                              clear gb20 gl20 HG20
                              (first | simp only [add_plain] at hx184_0 | skip)
                              obtain ⟨hx20_0, hf20_0⟩ := Kd.R_celln 0 HO_6.out ((rd ((rd_T42 l0_1 x9_1).f3) x10_2) : Int) p20 q20
                              replace p20 := eq_true p20
                              replace q20 := eq_true q20
                              have HP23 := Kd.R_putg HO_6.out ((rd ((rd_T42 l0_1 x9_1).f3) x10_2) : Int) (wrap64 ((rd x6_2 (rd ((rd_T42 l0_1 x9_1).f3) x10_2)) + 1))
                              go_wp2_with (first | ((with_reducible refine gate_store (t := 3) (p := 50) rfl ?_); (try (rw [drewN_self wr]; generalize hq_ : World.drewN wr _ = wr; have n0_ := Aside0.mk (Kd.R_at hq_ HO_6.out); have n1_ := Aside0.mk (blk_at hq_ BK176.out); have n2_ := Aside0.mk (below_at hq_ HB.out); clear hq_ HO_6 BK176 HB; have HO_6 := n0_; have BK176 := n1_; have HB := n2_; clear n0_ n1_ n2_; (try (have HP23 := Kd.R_putg HO_6.out ((rd ((rd_T42 l0_1 x9_1).f3) x10_2) : Int) (wrap64 ((rd x6_2 (rd ((rd_T42 l0_1 x9_1).f3) x10_2)) + 1)))))); refine store_event (t := 3) (p := 50) (v := ?vo_w24) (w1 := (wr.setCell ⟨go20, ((rd ((rd_T42 l0_1 x9_1).f3) x10_2) : Int).toNat, none⟩ (.int .i64 (wrap64 ((rd x6_2 (rd ((rd_T42 l0_1 x9_1).f3) x10_2)) + 1))))) ?hg ?ho ?hn ?hr ?_; (case ho => rfl); (case hg => rfl); (case hn => rfl); (case hr => first | (go_simp; done) | (go_simp; rfl)); intro w24 hw; have hg : wr.grownBy w24 (some go20) := (by rw [hw]; exact HP23.2); have hp_ : Kd.R (Kd.int .i64) 3 w24 w.heap.size (fun _ => True) (.slice (some ⟨go20, 0, none⟩) x6_2.length co22) y185 := (by rw [hw, Ny185.out]; exact HP23.1); clear HP23; have n0_ := Aside0.mk (hp_); have n1_ := Aside0.mk (blk_grown (g := gb176) (o := .cells #[.int .i64 a0_0, .slice (some ad181) l0_1.length c0_1] 24 (0, 0)) (by (with_reducible repeat (first | refine blk_drewN ?_ _ | refine blk_drew ?_ | refine blk_alloc ?_ _)); exact BK176.out) hg (Kd.R_ne HO_6.out BK176.out (by decide))); have n2_ := Aside0.mk ((by rw [hw]; exact below_set (HB.out) GB20.out : Below w.heap.size w w24)); clear HO_6; clear BK176; clear HB; have HO_6 := n0_; have BK176 := n1_; have HB := n2_; clear n0_ n1_ n2_; clear hg hw hp_))
                              repeat (go_quiet (first | ((with_reducible refine gate_store (t := 3) (p := 50) rfl ?_); (try (rw [drewN_self wr]; generalize hq_ : World.drewN wr _ = wr; have n0_ := Aside0.mk (Kd.R_at hq_ HO_6.out); have n1_ := Aside0.mk (blk_at hq_ BK176.out); have n2_ := Aside0.mk (below_at hq_ HB.out); clear hq_ HO_6 BK176 HB; have HO_6 := n0_; have BK176 := n1_; have HB := n2_; clear n0_ n1_ n2_; (try (have HP23 := Kd.R_putg HO_6.out ((rd ((rd_T42 l0_1 x9_1).f3) x10_2) : Int) (wrap64 ((rd x6_2 (rd ((rd_T42 l0_1 x9_1).f3) x10_2)) + 1)))))); refine store_event (t := 3) (p := 50) (v := ?vo_w24) (w1 := (wr.setCell ⟨go20, ((rd ((rd_T42 l0_1 x9_1).f3) x10_2) : Int).toNat, none⟩ (.int .i64 (wrap64 ((rd x6_2 (rd ((rd_T42 l0_1 x9_1).f3) x10_2)) + 1))))) ?hg ?ho ?hn ?hr ?_; (case ho => rfl); (case hg => rfl); (case hn => rfl); (case hr => first | (go_simp; done) | (go_simp; rfl)); intro w24 hw; have hg : wr.grownBy w24 (some go20) := (by rw [hw]; exact HP23.2); have hp_ : Kd.R (Kd.int .i64) 3 w24 w.heap.size (fun _ => True) (.slice (some ⟨go20, 0, none⟩) x6_2.length co22) y185 := (by rw [hw, Ny185.out]; exact HP23.1); clear HP23; have n0_ := Aside0.mk (hp_); have n1_ := Aside0.mk (blk_grown (g := gb176) (o := .cells #[.int .i64 a0_0, .slice (some ad181) l0_1.length c0_1] 24 (0, 0)) (by (with_reducible repeat (first | refine blk_drewN ?_ _ | refine blk_drew ?_ | refine blk_alloc ?_ _)); exact BK176.out) hg (Kd.R_ne HO_6.out BK176.out (by decide))); have n2_ := Aside0.mk ((by rw [hw]; exact below_set (HB.out) GB20.out : Below w.heap.size w w24)); clear HO_6; clear BK176; clear HB; have HO_6 := n0_; have BK176 := n1_; have HB := n2_; clear n0_ n1_ n2_; clear hg hw hp_)); try go_wp2_with (first | ((with_reducible refine gate_store (t := 3) (p := 50) rfl ?_); (try (rw [drewN_self wr]; generalize hq_ : World.drewN wr _ = wr; have n0_ := Aside0.mk (Kd.R_at hq_ HO_6.out); have n1_ := Aside0.mk (blk_at hq_ BK176.out); have n2_ := Aside0.mk (below_at hq_ HB.out); clear hq_ HO_6 BK176 HB; have HO_6 := n0_; have BK176 := n1_; have HB := n2_; clear n0_ n1_ n2_; (try (have HP23 := Kd.R_putg HO_6.out ((rd ((rd_T42 l0_1 x9_1).f3) x10_2) : Int) (wrap64 ((rd x6_2 (rd ((rd_T42 l0_1 x9_1).f3) x10_2)) + 1)))))); refine store_event (t := 3) (p := 50) (v := ?vo_w24) (w1 := (wr.setCell ⟨go20, ((rd ((rd_T42 l0_1 x9_1).f3) x10_2) : Int).toNat, none⟩ (.int .i64 (wrap64 ((rd x6_2 (rd ((rd_T42 l0_1 x9_1).f3) x10_2)) + 1))))) ?hg ?ho ?hn ?hr ?_; (case ho => rfl); (case hg => rfl); (case hn => rfl); (case hr => first | (go_simp; done) | (go_simp; rfl)); intro w24 hw; have hg : wr.grownBy w24 (some go20) := (by rw [hw]; exact HP23.2); have hp_ : Kd.R (Kd.int .i64) 3 w24 w.heap.size (fun _ => True) (.slice (some ⟨go20, 0, none⟩) x6_2.length co22) y185 := (by rw [hw, Ny185.out]; exact HP23.1); clear HP23; have n0_ := Aside0.mk (hp_); have n1_ := Aside0.mk (blk_grown (g := gb176) (o := .cells #[.int .i64 a0_0, .slice (some ad181) l0_1.length c0_1] 24 (0, 0)) (by (with_reducible repeat (first | refine blk_drewN ?_ _ | refine blk_drew ?_ | refine blk_alloc ?_ _)); exact BK176.out) hg (Kd.R_ne HO_6.out BK176.out (by decide))); have n2_ := Aside0.mk ((by rw [hw]; exact below_set (HB.out) GB20.out : Below w.heap.size w w24)); clear HO_6; clear BK176; clear HB; have HO_6 := n0_; have BK176 := n1_; have HB := n2_; clear n0_ n1_ n2_; clear hg hw hp_)))
                              go_roundg k2
                              case measure => have := HK1.out; have := HK2.out; omega
                              case rel => exact ⟨(y185), (wrap64 (x10_2 + 1)), (by first | rfl | (simp; done) | (simp [*]; done)), H', ⟨by have := HK1.out; have := HK2.out; omega⟩, ⟨by (with_reducible repeat (first | apply Kd.R_alloc | apply Kd.R_drewN | apply Kd.R_drew)); exact HO_6.out⟩, ⟨by (with_reducible repeat (first | refine blk_drewN ?_ _ | refine blk_drew ?_ | refine blk_alloc ?_ _)); exact BK176.out⟩, ⟨by repeat (first | (with_reducible first | exact HB.out | apply below_alloc | apply pw_below_drewN | apply below_drew1 | refine below_set ?_ GE176.out) | exact HB.out)⟩⟩
                            · rw [if_neg c19] at H
                              exact absurd H (by simp)
                          · rw [if_neg c18] at H
                            exact absurd H (by simp)
                        · rw [if_neg c17] at H
                          exact absurd H (by simp)
                      · rw [if_neg c16] at H
                        have c16b0 : decide (x10_2 < (((rd_T42 l0_1 x9_1).f3).length : Int)) = false := decide_eq_false c16
                        clear c16
                        have H' := Aside0.mk H
                        clear H
                        have hcz25_0 : wr.cell? ⟨gb176, 0, none⟩ = some (.int .i64 a0_0) := (blk_cell BK176.out 0).trans rfl
                        have hcz25_1 : wr.cell? ⟨gb176, 1, none⟩ = some (.slice A0_1 l0_1.length c0_1) := (blk_cell BK176.out 1).trans rfl
                        have hfz25_0 := blk_frozen BK176.out 0
                        have hfz25_1 := blk_frozen BK176.out 1
                        have p181 : 0 ≤ (x9_1 : Int) := of_decide_eq_true (by first | (with_reducible assumption) | assumption)
                        have q181 : x9_1 < (l0_1.length : Int) := of_decide_eq_true (by first | (with_reducible assumption) | assumption)
                        obtain ⟨ad181, A181_3, c181_3, e181, hx181_0, hx181_1, hx181_2, hx181_3, hl181_3, hi181_3⟩ := at_T42 HR0_1.out x9_1 p181 q181
                        cases e181
                        replace hx181_0 := (HB.out.cell (World.block_lt_of_cell? w _ hx181_0)).trans hx181_0
                        replace hx181_1 := (HB.out.cell (World.block_lt_of_cell? w _ hx181_1)).trans hx181_1
                        replace hx181_2 := (HB.out.cell (World.block_lt_of_cell? w _ hx181_2)).trans hx181_2
                        replace hx181_3 := (HB.out.cell (World.block_lt_of_cell? w _ hx181_3)).trans hx181_3
                        have HR181_3 := Aside0.mk hi181_3
                        have HC181_3 := Aside0.mk hl181_3
                        clear hi181_3 hl181_3
                        replace p181 := eq_true p181
                        replace q181 := eq_true q181
                        go_wp2
                        repeat (go_quiet (fail); try go_wp2)
                        go_roundg k2
                        case measure => have := HK1.out; have := HK2.out; omega
                        case rel => exact ⟨(x6_2), (wrap64 (x9_1 + 1)), (by first | rfl | (simp; done) | (simp [*]; done)), H', ⟨by have := HK1.out; have := HK2.out; omega⟩, ⟨by (with_reducible repeat (first | apply Kd.R_alloc | apply Kd.R_drewN | apply Kd.R_drew)); exact HO_6.out⟩, ⟨by (with_reducible repeat (first | refine blk_drewN ?_ _ | refine blk_drew ?_ | refine blk_alloc ?_ _)); exact BK176.out⟩, ⟨by repeat (first | (with_reducible first | exact HB.out | apply below_alloc | apply pw_below_drewN | apply below_drew1 | refine below_set ?_ GE176.out) | exact HB.out)⟩⟩
                    · rw [if_neg c15] at H
                      exact absurd H (by simp)
                  · rw [if_neg c14] at H
                    exact absurd H (by simp)
            · rw [if_neg c12] at H
              have c12b0 : decide (x9_1 < (l0_1.length : Int)) = false := decide_eq_false c12
              clear c12
              have H' := Aside0.mk H
              clear H
              have hcz26_0 : wr.cell? ⟨gb176, 0, none⟩ = some (.int .i64 a0_0) := (blk_cell BK176.out 0).trans rfl
              have hcz26_1 : wr.cell? ⟨gb176, 1, none⟩ = some (.slice A0_1 l0_1.length c0_1) := (blk_cell BK176.out 1).trans rfl
              have hfz26_0 := blk_frozen BK176.out 0
              have hfz26_1 := blk_frozen BK176.out 1
              go_wp2
              repeat (go_quiet (fail); try go_wp2)
              go_loopg [7, 8, 11] k1 (fun kq v7 v8 v11 w' => ∃ (x7_2 : Int) (x8_2 : Int) (x11_2 : Int), v7 = .int .i64 x7_2 ∧ v8 = .int .i64 x8_2 ∧ v11 = .int .i64 x11_2 ∧ Aside0 (fascineref14_Plan.l2 kq x6_1 x7_2 x8_2 x11_2 a0_0 l0_1 = some (r1, r2, r3, r4)) ∧ Aside0 (kq ≤ k1) ∧ Aside0 (Kd.R (Kd.int .i64) 3 w' w.heap.size (fun _ => True) v179 x6_1) ∧ Aside0 (w'.heap[gb176]? = some (.cells #[.int .i64 a0_0, (.slice A0_1 l0_1.length c0_1)] 24 (0, 0))) ∧ Aside0 (Below w.heap.size w w'))
              case atStart => exact ⟨(0), (0), (1), (by first | rfl | (simp; done) | (simp [*]; done)), (by first | rfl | (simp; done) | (simp [*]; done)), (by first | rfl | (simp; done) | (simp [*]; done)), H', ⟨Nat.le_refl _⟩, ⟨by (with_reducible repeat (first | apply Kd.R_alloc | apply Kd.R_drewN | apply Kd.R_drew)); exact HO_6.out⟩, ⟨by (with_reducible repeat (first | refine blk_drewN ?_ _ | refine blk_drew ?_ | refine blk_alloc ?_ _)); exact BK176.out⟩, ⟨by repeat (first | (with_reducible first | exact HB.out | apply below_alloc | apply pw_below_drewN | apply below_drew1 | refine below_set ?_ GE176.out) | exact HB.out)⟩⟩
              case round =>
                clear H'
                try clear c1
                try clear p1
                try clear q1
                try clear hx1
                try clear p2
                try clear q2
                try clear hx2
                try clear hf2
                try clear c3
                try clear c4
                try clear c4b0
                try clear c4b1
                try clear c5
                try clear c5b0
                try clear c5b1
                try clear p6
                try clear c12
                try clear c12b0
                try clear c14
                try clear c14b0
                try clear c15
                try clear c15b0
                try clear c16
                try clear c16b0
                try clear c17
                try clear c17b0
                try clear c18
                try clear c18b0
                try clear p18
                try clear q18
                try clear hx18
                try clear c19
                try clear c19b0
                try clear p20
                try clear q20
                try clear hx20
                try clear hf20
                try clear hcz13_0
                try clear hcz13_1
                try clear hcz21_0
                try clear hcz21_1
                try clear hcz25_0
                try clear hcz25_1
                try clear hcz26_0
                try clear hcz26_1
                try clear hcz7_0
                try clear hcz7_1
                try clear hcz9_0
                try clear hcz9_1
                try clear hfz13_0
                try clear hfz13_1
                try clear hfz21_0
                try clear hfz21_1
                try clear hfz25_0
                try clear hfz25_1
                try clear hfz26_0
                try clear hfz26_1
                try clear hfz7_0
                try clear hfz7_1
                try clear hfz9_0
                try clear hfz9_1
                try clear hx181_0
                try clear hx181_1
                try clear hx181_2
                try clear hx181_3
                try clear hx182_0
                try clear hx182_1
                try clear hx182_2
                try clear hx182_3
                try clear hx183_0
                try clear hx184_0
                try clear hx20_0
                try clear p181
                try clear p182
                try clear p183
                try clear p184
                try clear p2
                try clear p20
                try clear q181
                try clear q182
                try clear q183
                try clear q184
                try clear q20
                obtain ⟨x7_2, x8_2, x11_2, rfl, rfl, rfl, HA, HK2, HO_6, BK176, HB⟩ := hrel
                cases gk with
                | zero => exact absurd HA.out (by simp [fascineref14_Plan.l2])
                | succ k2 =>
                  have H := HA.out
                  clear HA
                  simp only [fascineref14_Plan.l2] at H
                  by_cases c27 : x11_2 < a0_0
                  · rw [if_pos c27] at H
                    have c27b0 : decide (x11_2 < a0_0) = true := decide_eq_true c27
                    clear c27
                    by_cases c28 : 0 ≤ x11_2
                    · rw [if_pos c28] at H
                      have c28b0 : decide (0 ≤ x11_2) = true := decide_eq_true c28
                      clear c28
                      by_cases c29 : x11_2 < (x6_1.length : Int)
                      · rw [if_pos c29] at H
                        have c29b0 : decide (x11_2 < (x6_1.length : Int)) = true := decide_eq_true c29
                        clear c29
                        by_cases c30 : 0 ≤ x7_2
                        · rw [if_pos c30] at H
                          have c30b0 : decide (0 ≤ x7_2) = true := decide_eq_true c30
                          clear c30
                          by_cases c31 : x7_2 < (x6_1.length : Int)
                          · rw [if_pos c31] at H
                            have c31b0 : decide (x7_2 < (x6_1.length : Int)) = true := decide_eq_true c31
                            clear c31
                            by_cases c32 : (rd x6_1 x11_2) > (rd x6_1 x7_2)
                            · rw [if_pos c32] at H
                              have c32b0 : decide ((rd x6_1 x7_2) < (rd x6_1 x11_2)) = true := decide_eq_true c32
                              clear c32
                              by_cases c33 : 0 ≤ x8_2
                              · rw [if_pos c33] at H
                                have c33b0 : decide (0 ≤ x8_2) = true := decide_eq_true c33
                                clear c33
                                by_cases c34 : x8_2 < (x6_1.length : Int)
                                · rw [if_pos c34] at H
                                  have c34b0 : decide (x8_2 < (x6_1.length : Int)) = true := decide_eq_true c34
                                  clear c34
                                  by_cases c35 : (rd x6_1 x11_2) < (rd x6_1 x8_2)
                                  · rw [if_pos c35] at H
                                    have c35b0 : decide ((rd x6_1 x11_2) < (rd x6_1 x8_2)) = true := decide_eq_true c35
                                    clear c35
                                    have H' := Aside0.mk H
                                    clear H
                                    have hcz36_0 : wr.cell? ⟨gb176, 0, none⟩ = some (.int .i64 a0_0) := (blk_cell BK176.out 0).trans rfl
                                    have hcz36_1 : wr.cell? ⟨gb176, 1, none⟩ = some (.slice A0_1 l0_1.length c0_1) := (blk_cell BK176.out 1).trans rfl
                                    have hfz36_0 := blk_frozen BK176.out 0
                                    have hfz36_1 := blk_frozen BK176.out 1
                                    obtain ⟨Ao37, co37, eo37⟩ := Kd.R_slice HO_6.out
                                    subst eo37
                                    have p186 : 0 ≤ (x11_2 : Int) := of_decide_eq_true (by first | (with_reducible assumption) | assumption)
                                    have q186 : x11_2 < (x6_1.length : Int) := of_decide_eq_true (by first | (with_reducible assumption) | assumption)
                                    obtain ⟨ad186, e186, hx186_0⟩ := Kd.at_int (Kd.R_reads' HO_6.out).2.2 x11_2 p186 q186
                                    cases e186
                                    replace p186 := eq_true p186
                                    replace q186 := eq_true q186
                                    have p187 : 0 ≤ (x7_2 : Int) := of_decide_eq_true (by first | (with_reducible assumption) | assumption)
                                    have q187 : x7_2 < (x6_1.length : Int) := of_decide_eq_true (by first | (with_reducible assumption) | assumption)
                                    obtain ⟨ad187, e187, hx187_0⟩ := Kd.at_int (Kd.R_reads' HO_6.out).2.2 x7_2 p187 q187
                                    obtain rfl : ad186 = ad187 := (by injection e187)
                                    replace p187 := eq_true p187
                                    replace q187 := eq_true q187
                                    have p188 : 0 ≤ (x11_2 : Int) := of_decide_eq_true (by first | (with_reducible assumption) | assumption)
                                    have q188 : x11_2 < (x6_1.length : Int) := of_decide_eq_true (by first | (with_reducible assumption) | assumption)
                                    obtain ⟨ad188, e188, hx188_0⟩ := Kd.at_int (Kd.R_reads' HO_6.out).2.2 x11_2 p188 q188
                                    obtain rfl : ad186 = ad188 := (by injection e188)
                                    replace p188 := eq_true p188
                                    replace q188 := eq_true q188
                                    have p189 : 0 ≤ (x8_2 : Int) := of_decide_eq_true (by first | (with_reducible assumption) | assumption)
                                    have q189 : x8_2 < (x6_1.length : Int) := of_decide_eq_true (by first | (with_reducible assumption) | assumption)
                                    obtain ⟨ad189, e189, hx189_0⟩ := Kd.at_int (Kd.R_reads' HO_6.out).2.2 x8_2 p189 q189
                                    obtain rfl : ad186 = ad189 := (by injection e189)
                                    replace p189 := eq_true p189
                                    replace q189 := eq_true q189
                                    go_wp2
                                    repeat (go_quiet (fail); try go_wp2)
                                    go_roundg k2
                                    case measure => have := HK1.out; have := HK2.out; omega
                                    case rel => exact ⟨(x11_2), (x11_2), (wrap64 (x11_2 + 1)), (by first | rfl | (simp; done) | (simp [*]; done)), (by first | rfl | (simp; done) | (simp [*]; done)), (by first | rfl | (simp; done) | (simp [*]; done)), H', ⟨by have := HK1.out; have := HK2.out; omega⟩, ⟨by (with_reducible repeat (first | apply Kd.R_alloc | apply Kd.R_drewN | apply Kd.R_drew)); exact HO_6.out⟩, ⟨by (with_reducible repeat (first | refine blk_drewN ?_ _ | refine blk_drew ?_ | refine blk_alloc ?_ _)); exact BK176.out⟩, ⟨by repeat (first | (with_reducible first | exact HB.out | apply below_alloc | apply pw_below_drewN | apply below_drew1 | refine below_set ?_ GE176.out) | exact HB.out)⟩⟩
                                  · rw [if_neg c35] at H
                                    have c35b0 : decide ((rd x6_1 x11_2) < (rd x6_1 x8_2)) = false := decide_eq_false c35
                                    clear c35
                                    have H' := Aside0.mk H
                                    clear H
                                    have hcz38_0 : wr.cell? ⟨gb176, 0, none⟩ = some (.int .i64 a0_0) := (blk_cell BK176.out 0).trans rfl
                                    have hcz38_1 : wr.cell? ⟨gb176, 1, none⟩ = some (.slice A0_1 l0_1.length c0_1) := (blk_cell BK176.out 1).trans rfl
                                    have hfz38_0 := blk_frozen BK176.out 0
                                    have hfz38_1 := blk_frozen BK176.out 1
                                    obtain ⟨Ao39, co39, eo39⟩ := Kd.R_slice HO_6.out
                                    subst eo39
                                    have p186 : 0 ≤ (x11_2 : Int) := of_decide_eq_true (by first | (with_reducible assumption) | assumption)
                                    have q186 : x11_2 < (x6_1.length : Int) := of_decide_eq_true (by first | (with_reducible assumption) | assumption)
                                    obtain ⟨ad186, e186, hx186_0⟩ := Kd.at_int (Kd.R_reads' HO_6.out).2.2 x11_2 p186 q186
                                    cases e186
                                    replace p186 := eq_true p186
                                    replace q186 := eq_true q186
                                    have p187 : 0 ≤ (x7_2 : Int) := of_decide_eq_true (by first | (with_reducible assumption) | assumption)
                                    have q187 : x7_2 < (x6_1.length : Int) := of_decide_eq_true (by first | (with_reducible assumption) | assumption)
                                    obtain ⟨ad187, e187, hx187_0⟩ := Kd.at_int (Kd.R_reads' HO_6.out).2.2 x7_2 p187 q187
                                    obtain rfl : ad186 = ad187 := (by injection e187)
                                    replace p187 := eq_true p187
                                    replace q187 := eq_true q187
                                    have p188 : 0 ≤ (x11_2 : Int) := of_decide_eq_true (by first | (with_reducible assumption) | assumption)
                                    have q188 : x11_2 < (x6_1.length : Int) := of_decide_eq_true (by first | (with_reducible assumption) | assumption)
                                    obtain ⟨ad188, e188, hx188_0⟩ := Kd.at_int (Kd.R_reads' HO_6.out).2.2 x11_2 p188 q188
                                    obtain rfl : ad186 = ad188 := (by injection e188)
                                    replace p188 := eq_true p188
                                    replace q188 := eq_true q188
                                    have p189 : 0 ≤ (x8_2 : Int) := of_decide_eq_true (by first | (with_reducible assumption) | assumption)
                                    have q189 : x8_2 < (x6_1.length : Int) := of_decide_eq_true (by first | (with_reducible assumption) | assumption)
                                    obtain ⟨ad189, e189, hx189_0⟩ := Kd.at_int (Kd.R_reads' HO_6.out).2.2 x8_2 p189 q189
                                    obtain rfl : ad186 = ad189 := (by injection e189)
                                    replace p189 := eq_true p189
                                    replace q189 := eq_true q189
                                    go_wp2
                                    repeat (go_quiet (fail); try go_wp2)
                                    go_roundg k2
                                    case measure => have := HK1.out; have := HK2.out; omega
                                    case rel => exact ⟨(x11_2), (x8_2), (wrap64 (x11_2 + 1)), (by first | rfl | (simp; done) | (simp [*]; done)), (by first | rfl | (simp; done) | (simp [*]; done)), (by first | rfl | (simp; done) | (simp [*]; done)), H', ⟨by have := HK1.out; have := HK2.out; omega⟩, ⟨by (with_reducible repeat (first | apply Kd.R_alloc | apply Kd.R_drewN | apply Kd.R_drew)); exact HO_6.out⟩, ⟨by (with_reducible repeat (first | refine blk_drewN ?_ _ | refine blk_drew ?_ | refine blk_alloc ?_ _)); exact BK176.out⟩, ⟨by repeat (first | (with_reducible first | exact HB.out | apply below_alloc | apply pw_below_drewN | apply below_drew1 | refine below_set ?_ GE176.out) | exact HB.out)⟩⟩
                                · rw [if_neg c34] at H
                                  exact absurd H (by simp)
                              · rw [if_neg c33] at H
                                exact absurd H (by simp)
                            · rw [if_neg c32] at H
                              have c32b0 : decide ((rd x6_1 x7_2) < (rd x6_1 x11_2)) = false := decide_eq_false c32
                              clear c32
                              by_cases c40 : 0 ≤ x8_2
                              · rw [if_pos c40] at H
                                have c40b0 : decide (0 ≤ x8_2) = true := decide_eq_true c40
                                clear c40
                                by_cases c41 : x8_2 < (x6_1.length : Int)
                                · rw [if_pos c41] at H
                                  have c41b0 : decide (x8_2 < (x6_1.length : Int)) = true := decide_eq_true c41
                                  clear c41
                                  by_cases c42 : (rd x6_1 x11_2) < (rd x6_1 x8_2)
                                  · rw [if_pos c42] at H
                                    have c42b0 : decide ((rd x6_1 x11_2) < (rd x6_1 x8_2)) = true := decide_eq_true c42
                                    clear c42
                                    have H' := Aside0.mk H
                                    clear H
                                    have hcz43_0 : wr.cell? ⟨gb176, 0, none⟩ = some (.int .i64 a0_0) := (blk_cell BK176.out 0).trans rfl
                                    have hcz43_1 : wr.cell? ⟨gb176, 1, none⟩ = some (.slice A0_1 l0_1.length c0_1) := (blk_cell BK176.out 1).trans rfl
                                    have hfz43_0 := blk_frozen BK176.out 0
                                    have hfz43_1 := blk_frozen BK176.out 1
                                    obtain ⟨Ao44, co44, eo44⟩ := Kd.R_slice HO_6.out
                                    subst eo44
                                    have p186 : 0 ≤ (x11_2 : Int) := of_decide_eq_true (by first | (with_reducible assumption) | assumption)
                                    have q186 : x11_2 < (x6_1.length : Int) := of_decide_eq_true (by first | (with_reducible assumption) | assumption)
                                    obtain ⟨ad186, e186, hx186_0⟩ := Kd.at_int (Kd.R_reads' HO_6.out).2.2 x11_2 p186 q186
                                    cases e186
                                    replace p186 := eq_true p186
                                    replace q186 := eq_true q186
                                    have p187 : 0 ≤ (x7_2 : Int) := of_decide_eq_true (by first | (with_reducible assumption) | assumption)
                                    have q187 : x7_2 < (x6_1.length : Int) := of_decide_eq_true (by first | (with_reducible assumption) | assumption)
                                    obtain ⟨ad187, e187, hx187_0⟩ := Kd.at_int (Kd.R_reads' HO_6.out).2.2 x7_2 p187 q187
                                    obtain rfl : ad186 = ad187 := (by injection e187)
                                    replace p187 := eq_true p187
                                    replace q187 := eq_true q187
                                    have p190 : 0 ≤ (x11_2 : Int) := of_decide_eq_true (by first | (with_reducible assumption) | assumption)
                                    have q190 : x11_2 < (x6_1.length : Int) := of_decide_eq_true (by first | (with_reducible assumption) | assumption)
                                    obtain ⟨ad190, e190, hx190_0⟩ := Kd.at_int (Kd.R_reads' HO_6.out).2.2 x11_2 p190 q190
                                    obtain rfl : ad186 = ad190 := (by injection e190)
                                    replace p190 := eq_true p190
                                    replace q190 := eq_true q190
                                    have p191 : 0 ≤ (x8_2 : Int) := of_decide_eq_true (by first | (with_reducible assumption) | assumption)
                                    have q191 : x8_2 < (x6_1.length : Int) := of_decide_eq_true (by first | (with_reducible assumption) | assumption)
                                    obtain ⟨ad191, e191, hx191_0⟩ := Kd.at_int (Kd.R_reads' HO_6.out).2.2 x8_2 p191 q191
                                    obtain rfl : ad186 = ad191 := (by injection e191)
                                    replace p191 := eq_true p191
                                    replace q191 := eq_true q191
                                    go_wp2
                                    repeat (go_quiet (fail); try go_wp2)
                                    go_roundg k2
                                    case measure => have := HK1.out; have := HK2.out; omega
                                    case rel => exact ⟨(x7_2), (x11_2), (wrap64 (x11_2 + 1)), (by first | rfl | (simp; done) | (simp [*]; done)), (by first | rfl | (simp; done) | (simp [*]; done)), (by first | rfl | (simp; done) | (simp [*]; done)), H', ⟨by have := HK1.out; have := HK2.out; omega⟩, ⟨by (with_reducible repeat (first | apply Kd.R_alloc | apply Kd.R_drewN | apply Kd.R_drew)); exact HO_6.out⟩, ⟨by (with_reducible repeat (first | refine blk_drewN ?_ _ | refine blk_drew ?_ | refine blk_alloc ?_ _)); exact BK176.out⟩, ⟨by repeat (first | (with_reducible first | exact HB.out | apply below_alloc | apply pw_below_drewN | apply below_drew1 | refine below_set ?_ GE176.out) | exact HB.out)⟩⟩
                                  · rw [if_neg c42] at H
                                    have c42b0 : decide ((rd x6_1 x11_2) < (rd x6_1 x8_2)) = false := decide_eq_false c42
                                    clear c42
                                    have H' := Aside0.mk H
                                    clear H
                                    have hcz45_0 : wr.cell? ⟨gb176, 0, none⟩ = some (.int .i64 a0_0) := (blk_cell BK176.out 0).trans rfl
                                    have hcz45_1 : wr.cell? ⟨gb176, 1, none⟩ = some (.slice A0_1 l0_1.length c0_1) := (blk_cell BK176.out 1).trans rfl
                                    have hfz45_0 := blk_frozen BK176.out 0
                                    have hfz45_1 := blk_frozen BK176.out 1
                                    obtain ⟨Ao46, co46, eo46⟩ := Kd.R_slice HO_6.out
                                    subst eo46
                                    have p186 : 0 ≤ (x11_2 : Int) := of_decide_eq_true (by first | (with_reducible assumption) | assumption)
                                    have q186 : x11_2 < (x6_1.length : Int) := of_decide_eq_true (by first | (with_reducible assumption) | assumption)
                                    obtain ⟨ad186, e186, hx186_0⟩ := Kd.at_int (Kd.R_reads' HO_6.out).2.2 x11_2 p186 q186
                                    cases e186
                                    replace p186 := eq_true p186
                                    replace q186 := eq_true q186
                                    have p187 : 0 ≤ (x7_2 : Int) := of_decide_eq_true (by first | (with_reducible assumption) | assumption)
                                    have q187 : x7_2 < (x6_1.length : Int) := of_decide_eq_true (by first | (with_reducible assumption) | assumption)
                                    obtain ⟨ad187, e187, hx187_0⟩ := Kd.at_int (Kd.R_reads' HO_6.out).2.2 x7_2 p187 q187
                                    obtain rfl : ad186 = ad187 := (by injection e187)
                                    replace p187 := eq_true p187
                                    replace q187 := eq_true q187
                                    have p190 : 0 ≤ (x11_2 : Int) := of_decide_eq_true (by first | (with_reducible assumption) | assumption)
                                    have q190 : x11_2 < (x6_1.length : Int) := of_decide_eq_true (by first | (with_reducible assumption) | assumption)
                                    obtain ⟨ad190, e190, hx190_0⟩ := Kd.at_int (Kd.R_reads' HO_6.out).2.2 x11_2 p190 q190
                                    obtain rfl : ad186 = ad190 := (by injection e190)
                                    replace p190 := eq_true p190
                                    replace q190 := eq_true q190
                                    have p191 : 0 ≤ (x8_2 : Int) := of_decide_eq_true (by first | (with_reducible assumption) | assumption)
                                    have q191 : x8_2 < (x6_1.length : Int) := of_decide_eq_true (by first | (with_reducible assumption) | assumption)
                                    obtain ⟨ad191, e191, hx191_0⟩ := Kd.at_int (Kd.R_reads' HO_6.out).2.2 x8_2 p191 q191
                                    obtain rfl : ad186 = ad191 := (by injection e191)
                                    replace p191 := eq_true p191
                                    replace q191 := eq_true q191
                                    go_wp2
                                    repeat (go_quiet (fail); try go_wp2)
                                    go_roundg k2
                                    case measure => have := HK1.out; have := HK2.out; omega
                                    case rel => exact ⟨(x7_2), (x8_2), (wrap64 (x11_2 + 1)), (by first | rfl | (simp; done) | (simp [*]; done)), (by first | rfl | (simp; done) | (simp [*]; done)), (by first | rfl | (simp; done) | (simp [*]; done)), H', ⟨by have := HK1.out; have := HK2.out; omega⟩, ⟨by (with_reducible repeat (first | apply Kd.R_alloc | apply Kd.R_drewN | apply Kd.R_drew)); exact HO_6.out⟩, ⟨by (with_reducible repeat (first | refine blk_drewN ?_ _ | refine blk_drew ?_ | refine blk_alloc ?_ _)); exact BK176.out⟩, ⟨by repeat (first | (with_reducible first | exact HB.out | apply below_alloc | apply pw_below_drewN | apply below_drew1 | refine below_set ?_ GE176.out) | exact HB.out)⟩⟩
                                · rw [if_neg c41] at H
                                  exact absurd H (by simp)
                              · rw [if_neg c40] at H
                                exact absurd H (by simp)
                          · rw [if_neg c31] at H
                            exact absurd H (by simp)
                        · rw [if_neg c30] at H
                          exact absurd H (by simp)
                      · rw [if_neg c29] at H
                        exact absurd H (by simp)
                    · rw [if_neg c28] at H
                      exact absurd H (by simp)
                  · rw [if_neg c27] at H
                    have c27b0 : decide (x11_2 < a0_0) = false := decide_eq_false c27
                    clear c27
                    by_cases c47 : 0 ≤ x7_2
                    · rw [if_pos c47] at H
                      have c47b0 : decide (0 ≤ x7_2) = true := decide_eq_true c47
                      clear c47
                      by_cases c48 : x7_2 < (x6_1.length : Int)
                      · rw [if_pos c48] at H
                        have c48b0 : decide (x7_2 < (x6_1.length : Int)) = true := decide_eq_true c48
                        clear c48
                        by_cases c49 : 0 ≤ x8_2
                        · rw [if_pos c49] at H
                          have c49b0 : decide (0 ≤ x8_2) = true := decide_eq_true c49
                          clear c49
                          by_cases c50 : x8_2 < (x6_1.length : Int)
                          · rw [if_pos c50] at H
                            have c50b0 : decide (x8_2 < (x6_1.length : Int)) = true := decide_eq_true c50
                            clear c50
                            by_cases c51 : (wrap64 ((rd x6_1 x7_2) - (rd x6_1 x8_2))) < 2
                            · rw [if_pos c51] at H
                              have c51b0 : decide ((wrap64 ((rd x6_1 x7_2) - (rd x6_1 x8_2))) < 2) = true := decide_eq_true c51
                              clear c51
                              simp only [Option.some.injEq, Prod.mk.injEq] at H
                              obtain ⟨rfl, rfl, rfl, rfl⟩ := H
                              have hcz52_0 : wr.cell? ⟨gb176, 0, none⟩ = some (.int .i64 a0_0) := (blk_cell BK176.out 0).trans rfl
                              have hcz52_1 : wr.cell? ⟨gb176, 1, none⟩ = some (.slice A0_1 l0_1.length c0_1) := (blk_cell BK176.out 1).trans rfl
                              have hfz52_0 := blk_frozen BK176.out 0
                              have hfz52_1 := blk_frozen BK176.out 1
                              obtain ⟨Ao53, co53, eo53⟩ := Kd.R_slice HO_6.out
                              subst eo53
                              have p192 : 0 ≤ (x7_2 : Int) := of_decide_eq_true (by first | (with_reducible assumption) | assumption)
                              have q192 : x7_2 < (x6_1.length : Int) := of_decide_eq_true (by first | (with_reducible assumption) | assumption)
                              obtain ⟨ad192, e192, hx192_0⟩ := Kd.at_int (Kd.R_reads' HO_6.out).2.2 x7_2 p192 q192
                              cases e192
                              replace p192 := eq_true p192
                              replace q192 := eq_true q192
                              have p193 : 0 ≤ (x8_2 : Int) := of_decide_eq_true (by first | (with_reducible assumption) | assumption)
                              have q193 : x8_2 < (x6_1.length : Int) := of_decide_eq_true (by first | (with_reducible assumption) | assumption)
                              obtain ⟨ad193, e193, hx193_0⟩ := Kd.at_int (Kd.R_reads' HO_6.out).2.2 x8_2 p193 q193
                              obtain rfl : ad192 = ad193 := (by injection e193)
                              replace p193 := eq_true p193
                              replace q193 := eq_true q193
                              go_wp2
                              repeat (go_quiet (fail); try go_wp2)
                              refine bodyPost_ret (results_list (rs := [.tmp 2, .tmp 3, .tmp 4, .tmp 5]) rfl (by simp) (.tmp (.tmp (.tmp (.tmp .nil))))) rfl ?_
                              exact ⟨by first | rfl | (simp [errW_none, errW_some] <;> rfl) | (simp [*, errW_none, errW_some] <;> rfl), by repeat (first | (with_reducible first | exact HB.out | apply below_alloc | apply pw_below_drewN | apply below_drew1 | refine below_set ?_ GE176.out) | exact HB.out)⟩
                            · rw [if_neg c51] at H
                              have c51b0 : decide ((wrap64 ((rd x6_1 x7_2) - (rd x6_1 x8_2))) < 2) = false := decide_eq_false c51
                              clear c51
                              have H' := Aside0.mk H
                              clear H
                              have hcz54_0 : wr.cell? ⟨gb176, 0, none⟩ = some (.int .i64 a0_0) := (blk_cell BK176.out 0).trans rfl
                              have hcz54_1 : wr.cell? ⟨gb176, 1, none⟩ = some (.slice A0_1 l0_1.length c0_1) := (blk_cell BK176.out 1).trans rfl
                              have hfz54_0 := blk_frozen BK176.out 0
                              have hfz54_1 := blk_frozen BK176.out 1
                              obtain ⟨Ao55, co55, eo55⟩ := Kd.R_slice HO_6.out
                              subst eo55
                              have p192 : 0 ≤ (x7_2 : Int) := of_decide_eq_true (by first | (with_reducible assumption) | assumption)
                              have q192 : x7_2 < (x6_1.length : Int) := of_decide_eq_true (by first | (with_reducible assumption) | assumption)
                              obtain ⟨ad192, e192, hx192_0⟩ := Kd.at_int (Kd.R_reads' HO_6.out).2.2 x7_2 p192 q192
                              cases e192
                              replace p192 := eq_true p192
                              replace q192 := eq_true q192
                              have p193 : 0 ≤ (x8_2 : Int) := of_decide_eq_true (by first | (with_reducible assumption) | assumption)
                              have q193 : x8_2 < (x6_1.length : Int) := of_decide_eq_true (by first | (with_reducible assumption) | assumption)
                              obtain ⟨ad193, e193, hx193_0⟩ := Kd.at_int (Kd.R_reads' HO_6.out).2.2 x8_2 p193 q193
                              obtain rfl : ad192 = ad193 := (by injection e193)
                              replace p193 := eq_true p193
                              replace q193 := eq_true q193
                              go_wp2
                              repeat (go_quiet (fail); try go_wp2)
                              go_loopg [12] k2 (fun kq v12 w' => ∃ (x12_3 : Int), v12 = .int .i64 x12_3 ∧ Aside0 (fascineref14_Plan.l3 kq x7_2 x8_2 x12_3 a0_0 l0_1 = some (r1, r2, r3, r4)) ∧ Aside0 (kq ≤ k2) ∧ Aside0 (w'.heap[gb176]? = some (.cells #[.int .i64 a0_0, (.slice A0_1 l0_1.length c0_1)] 24 (0, 0))) ∧ Aside0 (Below w.heap.size w w'))
                              case atStart => exact ⟨(0), (by first | rfl | (simp; done) | (simp [*]; done)), H', ⟨Nat.le_refl _⟩, ⟨by (with_reducible repeat (first | refine blk_drewN ?_ _ | refine blk_drew ?_ | refine blk_alloc ?_ _)); exact BK176.out⟩, ⟨by repeat (first | (with_reducible first | exact HB.out | apply below_alloc | apply pw_below_drewN | apply below_drew1 | refine below_set ?_ GE176.out) | exact HB.out)⟩⟩
                              case round =>
                                clear H'
                                try clear c1
                                try clear p1
                                try clear q1
                                try clear hx1
                                try clear c2
                                try clear p2
                                try clear q2
                                try clear hx2
                                try clear hf2
                                try clear c3
                                try clear c4
                                try clear c4b0
                                try clear c4b1
                                try clear c5
                                try clear c5b0
                                try clear c5b1
                                try clear p6
                                try clear c12
                                try clear c12b0
                                try clear c14
                                try clear c14b0
                                try clear c15
                                try clear c15b0
                                try clear c16
                                try clear c16b0
                                try clear c17
                                try clear c17b0
                                try clear c18
                                try clear c18b0
                                try clear p18
                                try clear q18
                                try clear hx18
                                try clear c19
                                try clear c19b0
                                try clear p19
                                try clear q19
                                try clear hx19
                                try clear p20
                                try clear q20
                                try clear hx20
                                try clear hf20
                                try clear c27
                                try clear c27b0
                                try clear c28
                                try clear c28b0
                                try clear c29
                                try clear c29b0
                                try clear c30
                                try clear c30b0
                                try clear c31
                                try clear c31b0
                                try clear c32
                                try clear c32b0
                                try clear c33
                                try clear c33b0
                                try clear c34
                                try clear c34b0
                                try clear c35
                                try clear c35b0
                                try clear c40
                                try clear c40b0
                                try clear c41
                                try clear c41b0
                                try clear c42
                                try clear c42b0
                                try clear c47
                                try clear c47b0
                                try clear c48
                                try clear c48b0
                                try clear c49
                                try clear c49b0
                                try clear c50
                                try clear c50b0
                                try clear c51
                                try clear c51b0
                                try clear hcz13_0
                                try clear hcz13_1
                                try clear hcz21_0
                                try clear hcz21_1
                                try clear hcz25_0
                                try clear hcz25_1
                                try clear hcz26_0
                                try clear hcz26_1
                                try clear hcz36_0
                                try clear hcz36_1
                                try clear hcz38_0
                                try clear hcz38_1
                                try clear hcz43_0
                                try clear hcz43_1
                                try clear hcz45_0
                                try clear hcz45_1
                                try clear hcz52_0
                                try clear hcz52_1
                                try clear hcz54_0
                                try clear hcz54_1
                                try clear hcz7_0
                                try clear hcz7_1
                                try clear hcz9_0
                                try clear hcz9_1
                                try clear hfz13_0
                                try clear hfz13_1
                                try clear hfz21_0
                                try clear hfz21_1
                                try clear hfz25_0
                                try clear hfz25_1
                                try clear hfz26_0
                                try clear hfz26_1
                                try clear hfz36_0
                                try clear hfz36_1
                                try clear hfz38_0
                                try clear hfz38_1
                                try clear hfz43_0
                                try clear hfz43_1
                                try clear hfz45_0
                                try clear hfz45_1
                                try clear hfz52_0
                                try clear hfz52_1
                                try clear hfz54_0
                                try clear hfz54_1
                                try clear hfz7_0
                                try clear hfz7_1
                                try clear hfz9_0
                                try clear hfz9_1
                                try clear hx181_0
                                try clear hx181_1
                                try clear hx181_2
                                try clear hx181_3
                                try clear hx182_0
                                try clear hx182_1
                                try clear hx182_2
                                try clear hx182_3
                                try clear hx183_0
                                try clear hx184_0
                                try clear hx186_0
                                try clear hx187_0
                                try clear hx188_0
                                try clear hx189_0
                                try clear hx190_0
                                try clear hx191_0
                                try clear hx192_0
                                try clear hx193_0
                                try clear hx20_0
                                try clear p1
                                try clear p18
                                try clear p181
                                try clear p182
                                try clear p183
                                try clear p184
                                try clear p186
                                try clear p187
                                try clear p188
                                try clear p189
                                try clear p190
                                try clear p191
                                try clear p192
                                try clear p193
                                try clear p2
                                try clear p20
                                try clear p6
                                try clear q1
                                try clear q18
                                try clear q181
                                try clear q182
                                try clear q183
                                try clear q184
                                try clear q186
                                try clear q187
                                try clear q188
                                try clear q189
                                try clear q190
                                try clear q191
                                try clear q192
                                try clear q193
                                try clear q2
                                try clear q20
                                obtain ⟨x12_3, rfl, HA, HK3, BK176, HB⟩ := hrel
                                cases gk with
                                | zero => exact absurd HA.out (by simp [fascineref14_Plan.l3])
                                | succ k3 =>
                                  have H := HA.out
                                  clear HA
                                  simp only [fascineref14_Plan.l3] at H
                                  by_cases c56 : x12_3 < (l0_1.length : Int)
                                  · rw [if_pos c56] at H
                                    have c56b0 : decide (x12_3 < (l0_1.length : Int)) = true := decide_eq_true c56
                                    clear c56
                                    by_cases c57 : 0 ≤ x12_3
                                    · rw [if_pos c57] at H
                                      have c57b0 : decide (0 ≤ x12_3) = true := decide_eq_true c57
                                      clear c57
                                      replace H := Option.bind_eq_some_iff.mp H
                                      obtain ⟨t195, A580, H⟩ := H
                                      replace H : (if t195 = true then ((fascineref14_In.f k3 ((rd_T42 l0_1 x12_3).f0) ((rd_T42 l0_1 x12_3).f1) ((rd_T42 l0_1 x12_3).f2) ((rd_T42 l0_1 x12_3).f3) x8_2).bind fun t197 => (if t197 = true then (fascineref14_Plan.l3 k3 x7_2 x8_2 (wrap64 (x12_3 + 1)) a0_0 l0_1) else (some (x12_3, x7_2, x8_2, true)))) else (fascineref14_Plan.l3 k3 x7_2 x8_2 (wrap64 (x12_3 + 1)) a0_0 l0_1)) = some (r1, r2, r3, r4) := H
                                      have A58 := Aside0.mk A580
                                      clear A580
                                      by_cases c59 : t195 = true
                                      · subst c59
                                        have H1 : ((fascineref14_In.f k3 ((rd_T42 l0_1 x12_3).f0) ((rd_T42 l0_1 x12_3).f1) ((rd_T42 l0_1 x12_3).f2) ((rd_T42 l0_1 x12_3).f3) x8_2).bind fun t197 => (if t197 = true then (fascineref14_Plan.l3 k3 x7_2 x8_2 (wrap64 (x12_3 + 1)) a0_0 l0_1) else (some (x12_3, x7_2, x8_2, true)))) = some (r1, r2, r3, r4) := by rw [if_pos rfl] at H; exact H
                                        clear H
                                        have H := H1
                                        clear H1
                                        replace H := Option.bind_eq_some_iff.mp H
                                        obtain ⟨t197, A600, H⟩ := H
                                        replace H : (if t197 = true then (fascineref14_Plan.l3 k3 x7_2 x8_2 (wrap64 (x12_3 + 1)) a0_0 l0_1) else (some (x12_3, x7_2, x8_2, true))) = some (r1, r2, r3, r4) := H
                                        have A60 := Aside0.mk A600
                                        clear A600
                                        by_cases c61 : t197 = true
                                        · subst c61
                                          have H1 : (fascineref14_Plan.l3 k3 x7_2 x8_2 (wrap64 (x12_3 + 1)) a0_0 l0_1) = some (r1, r2, r3, r4) := by rw [if_pos rfl] at H; exact H
                                          clear H
                                          have H := H1
                                          clear H1
                                          have H' := Aside0.mk H
                                          clear H
                                          have hcz62_0 : wr.cell? ⟨gb176, 0, none⟩ = some (.int .i64 a0_0) := (blk_cell BK176.out 0).trans rfl
                                          have hcz62_1 : wr.cell? ⟨gb176, 1, none⟩ = some (.slice A0_1 l0_1.length c0_1) := (blk_cell BK176.out 1).trans rfl
                                          have hfz62_0 := blk_frozen BK176.out 0
                                          have hfz62_1 := blk_frozen BK176.out 1
                                          have p194 : 0 ≤ (x12_3 : Int) := of_decide_eq_true (by first | (with_reducible assumption) | assumption)
                                          have q194 : x12_3 < (l0_1.length : Int) := of_decide_eq_true (by first | (with_reducible assumption) | assumption)
                                          obtain ⟨ad194, A194_3, c194_3, e194, hx194_0, hx194_1, hx194_2, hx194_3, hl194_3, hi194_3⟩ := at_T42 HR0_1.out x12_3 p194 q194
                                          cases e194
                                          replace hx194_0 := (HB.out.cell (World.block_lt_of_cell? w _ hx194_0)).trans hx194_0
                                          replace hx194_1 := (HB.out.cell (World.block_lt_of_cell? w _ hx194_1)).trans hx194_1
                                          replace hx194_2 := (HB.out.cell (World.block_lt_of_cell? w _ hx194_2)).trans hx194_2
                                          replace hx194_3 := (HB.out.cell (World.block_lt_of_cell? w _ hx194_3)).trans hx194_3
                                          have HR194_3 := Aside0.mk hi194_3
                                          have HC194_3 := Aside0.mk hl194_3
                                          clear hi194_3 hl194_3
                                          replace p194 := eq_true p194
                                          replace q194 := eq_true q194
                                          go_wp2_with (first | (go_at_call 49; (with_reducible refine (fascineref14_In.calls k3 ((rd_T42 l0_1 x12_3).f0) ((rd_T42 l0_1 x12_3).f1) ((rd_T42 l0_1 x12_3).f2) _ _ ((rd_T42 l0_1 x12_3).f3) x7_2 true _ ?side1 ?side2 A58.out).mono ?_); (case side1 => repeat (first | exact (Kd.C_below HR194_3.out HB.out) | (with_reducible refine Kd.C_alloc ?_ _) | (with_reducible refine Kd.C_drewN ?_ _) | (with_reducible refine Kd.C_drew ?_))); (case side2 => exact HC194_3.out); rintro e w63 ⟨rfl, hb⟩; have n0_ := Aside0.mk (blk_below (g := gb176) (o := .cells #[.int .i64 a0_0, .slice (some ad194) l0_1.length c0_1] 24 (0, 0)) (by (with_reducible repeat (first | refine blk_drewN ?_ _ | refine blk_drew ?_ | refine blk_alloc ?_ _)); exact BK176.out) hb); have n1_ := Aside0.mk (below_step (by repeat (first | (with_reducible first | exact HB.out | apply below_alloc | apply pw_below_drewN | apply below_drew1 | refine below_set ?_ GE176.out) | exact HB.out)) hb); clear BK176; clear HB; have BK176 := n0_; have HB := n1_; clear n0_ n1_; (try clear hb); (try clear hb2); (try clear hk); (try clear hi); have hcz64_0 : w63.cell? ⟨gb176, 0, none⟩ = some (.int .i64 a0_0) := (blk_cell BK176.out 0).trans rfl; have hcz64_1 : w63.cell? ⟨gb176, 1, none⟩ = some (.slice (some ad194) l0_1.length c0_1) := (blk_cell BK176.out 1).trans rfl; have hfz64_0 := blk_frozen BK176.out 0; have hfz64_1 := blk_frozen BK176.out 1; have p196 : 0 ≤ (x12_3 : Int) := of_decide_eq_true (by first | (with_reducible assumption) | assumption); have q196 : x12_3 < (l0_1.length : Int) := of_decide_eq_true (by first | (with_reducible assumption) | assumption); obtain ⟨ad196, A196_3, c196_3, e196, hx196_0, hx196_1, hx196_2, hx196_3, hl196_3, hi196_3⟩ := at_T42 HR0_1.out x12_3 p196 q196; obtain rfl : ad194 = ad196 := (by injection e196); replace hx196_0 := (HB.out.cell (World.block_lt_of_cell? w _ hx196_0)).trans hx196_0; replace hx196_1 := (HB.out.cell (World.block_lt_of_cell? w _ hx196_1)).trans hx196_1; replace hx196_2 := (HB.out.cell (World.block_lt_of_cell? w _ hx196_2)).trans hx196_2; replace hx196_3 := (HB.out.cell (World.block_lt_of_cell? w _ hx196_3)).trans hx196_3; have HR196_3 := Aside0.mk hi196_3; have HC196_3 := Aside0.mk hl196_3; clear hi196_3 hl196_3; replace p196 := eq_true p196; replace q196 := eq_true q196) | (go_at_call 49; (with_reducible refine (fascineref14_In.calls k3 ((rd_T42 l0_1 x12_3).f0) ((rd_T42 l0_1 x12_3).f1) ((rd_T42 l0_1 x12_3).f2) _ _ ((rd_T42 l0_1 x12_3).f3) x8_2 true _ ?side1 ?side2 A60.out).mono ?_); (case side1 => repeat (first | exact (Kd.C_below HR196_3.out HB.out) | (with_reducible refine Kd.C_alloc ?_ _) | (with_reducible refine Kd.C_drewN ?_ _) | (with_reducible refine Kd.C_drew ?_))); (case side2 => exact HC196_3.out); rintro e w65 ⟨rfl, hb⟩; have n0_ := Aside0.mk (blk_below (g := gb176) (o := .cells #[.int .i64 a0_0, .slice (some ad194) l0_1.length c0_1] 24 (0, 0)) (by (with_reducible repeat (first | refine blk_drewN ?_ _ | refine blk_drew ?_ | refine blk_alloc ?_ _)); exact BK176.out) hb); have n1_ := Aside0.mk (below_step (by repeat (first | (with_reducible first | exact HB.out | apply below_alloc | apply pw_below_drewN | apply below_drew1 | refine below_set ?_ GE176.out) | exact HB.out)) hb); clear BK176; clear HB; have BK176 := n0_; have HB := n1_; clear n0_ n1_; (try clear hb); (try clear hb2); (try clear hk); (try clear hi)))
                                          repeat (go_quiet (first | (go_at_call 49; (with_reducible refine (fascineref14_In.calls k3 ((rd_T42 l0_1 x12_3).f0) ((rd_T42 l0_1 x12_3).f1) ((rd_T42 l0_1 x12_3).f2) _ _ ((rd_T42 l0_1 x12_3).f3) x7_2 true _ ?side1 ?side2 A58.out).mono ?_); (case side1 => repeat (first | exact (Kd.C_below HR194_3.out HB.out) | (with_reducible refine Kd.C_alloc ?_ _) | (with_reducible refine Kd.C_drewN ?_ _) | (with_reducible refine Kd.C_drew ?_))); (case side2 => exact HC194_3.out); rintro e w63 ⟨rfl, hb⟩; have n0_ := Aside0.mk (blk_below (g := gb176) (o := .cells #[.int .i64 a0_0, .slice (some ad194) l0_1.length c0_1] 24 (0, 0)) (by (with_reducible repeat (first | refine blk_drewN ?_ _ | refine blk_drew ?_ | refine blk_alloc ?_ _)); exact BK176.out) hb); have n1_ := Aside0.mk (below_step (by repeat (first | (with_reducible first | exact HB.out | apply below_alloc | apply pw_below_drewN | apply below_drew1 | refine below_set ?_ GE176.out) | exact HB.out)) hb); clear BK176; clear HB; have BK176 := n0_; have HB := n1_; clear n0_ n1_; (try clear hb); (try clear hb2); (try clear hk); (try clear hi); have hcz64_0 : w63.cell? ⟨gb176, 0, none⟩ = some (.int .i64 a0_0) := (blk_cell BK176.out 0).trans rfl; have hcz64_1 : w63.cell? ⟨gb176, 1, none⟩ = some (.slice (some ad194) l0_1.length c0_1) := (blk_cell BK176.out 1).trans rfl; have hfz64_0 := blk_frozen BK176.out 0; have hfz64_1 := blk_frozen BK176.out 1; have p196 : 0 ≤ (x12_3 : Int) := of_decide_eq_true (by first | (with_reducible assumption) | assumption); have q196 : x12_3 < (l0_1.length : Int) := of_decide_eq_true (by first | (with_reducible assumption) | assumption); obtain ⟨ad196, A196_3, c196_3, e196, hx196_0, hx196_1, hx196_2, hx196_3, hl196_3, hi196_3⟩ := at_T42 HR0_1.out x12_3 p196 q196; obtain rfl : ad194 = ad196 := (by injection e196); replace hx196_0 := (HB.out.cell (World.block_lt_of_cell? w _ hx196_0)).trans hx196_0; replace hx196_1 := (HB.out.cell (World.block_lt_of_cell? w _ hx196_1)).trans hx196_1; replace hx196_2 := (HB.out.cell (World.block_lt_of_cell? w _ hx196_2)).trans hx196_2; replace hx196_3 := (HB.out.cell (World.block_lt_of_cell? w _ hx196_3)).trans hx196_3; have HR196_3 := Aside0.mk hi196_3; have HC196_3 := Aside0.mk hl196_3; clear hi196_3 hl196_3; replace p196 := eq_true p196; replace q196 := eq_true q196) | (go_at_call 49; (with_reducible refine (fascineref14_In.calls k3 ((rd_T42 l0_1 x12_3).f0) ((rd_T42 l0_1 x12_3).f1) ((rd_T42 l0_1 x12_3).f2) _ _ ((rd_T42 l0_1 x12_3).f3) x8_2 true _ ?side1 ?side2 A60.out).mono ?_); (case side1 => repeat (first | exact (Kd.C_below HR196_3.out HB.out) | (with_reducible refine Kd.C_alloc ?_ _) | (with_reducible refine Kd.C_drewN ?_ _) | (with_reducible refine Kd.C_drew ?_))); (case side2 => exact HC196_3.out); rintro e w65 ⟨rfl, hb⟩; have n0_ := Aside0.mk (blk_below (g := gb176) (o := .cells #[.int .i64 a0_0, .slice (some ad194) l0_1.length c0_1] 24 (0, 0)) (by (with_reducible repeat (first | refine blk_drewN ?_ _ | refine blk_drew ?_ | refine blk_alloc ?_ _)); exact BK176.out) hb); have n1_ := Aside0.mk (below_step (by repeat (first | (with_reducible first | exact HB.out | apply below_alloc | apply pw_below_drewN | apply below_drew1 | refine below_set ?_ GE176.out) | exact HB.out)) hb); clear BK176; clear HB; have BK176 := n0_; have HB := n1_; clear n0_ n1_; (try clear hb); (try clear hb2); (try clear hk); (try clear hi))); try go_wp2_with (first | (go_at_call 49; (with_reducible refine (fascineref14_In.calls k3 ((rd_T42 l0_1 x12_3).f0) ((rd_T42 l0_1 x12_3).f1) ((rd_T42 l0_1 x12_3).f2) _ _ ((rd_T42 l0_1 x12_3).f3) x7_2 true _ ?side1 ?side2 A58.out).mono ?_); (case side1 => repeat (first | exact (Kd.C_below HR194_3.out HB.out) | (with_reducible refine Kd.C_alloc ?_ _) | (with_reducible refine Kd.C_drewN ?_ _) | (with_reducible refine Kd.C_drew ?_))); (case side2 => exact HC194_3.out); rintro e w63 ⟨rfl, hb⟩; have n0_ := Aside0.mk (blk_below (g := gb176) (o := .cells #[.int .i64 a0_0, .slice (some ad194) l0_1.length c0_1] 24 (0, 0)) (by (with_reducible repeat (first | refine blk_drewN ?_ _ | refine blk_drew ?_ | refine blk_alloc ?_ _)); exact BK176.out) hb); have n1_ := Aside0.mk (below_step (by repeat (first | (with_reducible first | exact HB.out | apply below_alloc | apply pw_below_drewN | apply below_drew1 | refine below_set ?_ GE176.out) | exact HB.out)) hb); clear BK176; clear HB; have BK176 := n0_; have HB := n1_; clear n0_ n1_; (try clear hb); (try clear hb2); (try clear hk); (try clear hi); have hcz64_0 : w63.cell? ⟨gb176, 0, none⟩ = some (.int .i64 a0_0) := (blk_cell BK176.out 0).trans rfl; have hcz64_1 : w63.cell? ⟨gb176, 1, none⟩ = some (.slice (some ad194) l0_1.length c0_1) := (blk_cell BK176.out 1).trans rfl; have hfz64_0 := blk_frozen BK176.out 0; have hfz64_1 := blk_frozen BK176.out 1; have p196 : 0 ≤ (x12_3 : Int) := of_decide_eq_true (by first | (with_reducible assumption) | assumption); have q196 : x12_3 < (l0_1.length : Int) := of_decide_eq_true (by first | (with_reducible assumption) | assumption); obtain ⟨ad196, A196_3, c196_3, e196, hx196_0, hx196_1, hx196_2, hx196_3, hl196_3, hi196_3⟩ := at_T42 HR0_1.out x12_3 p196 q196; obtain rfl : ad194 = ad196 := (by injection e196); replace hx196_0 := (HB.out.cell (World.block_lt_of_cell? w _ hx196_0)).trans hx196_0; replace hx196_1 := (HB.out.cell (World.block_lt_of_cell? w _ hx196_1)).trans hx196_1; replace hx196_2 := (HB.out.cell (World.block_lt_of_cell? w _ hx196_2)).trans hx196_2; replace hx196_3 := (HB.out.cell (World.block_lt_of_cell? w _ hx196_3)).trans hx196_3; have HR196_3 := Aside0.mk hi196_3; have HC196_3 := Aside0.mk hl196_3; clear hi196_3 hl196_3; replace p196 := eq_true p196; replace q196 := eq_true q196) | (go_at_call 49; (with_reducible refine (fascineref14_In.calls k3 ((rd_T42 l0_1 x12_3).f0) ((rd_T42 l0_1 x12_3).f1) ((rd_T42 l0_1 x12_3).f2) _ _ ((rd_T42 l0_1 x12_3).f3) x8_2 true _ ?side1 ?side2 A60.out).mono ?_); (case side1 => repeat (first | exact (Kd.C_below HR196_3.out HB.out) | (with_reducible refine Kd.C_alloc ?_ _) | (with_reducible refine Kd.C_drewN ?_ _) | (with_reducible refine Kd.C_drew ?_))); (case side2 => exact HC196_3.out); rintro e w65 ⟨rfl, hb⟩; have n0_ := Aside0.mk (blk_below (g := gb176) (o := .cells #[.int .i64 a0_0, .slice (some ad194) l0_1.length c0_1] 24 (0, 0)) (by (with_reducible repeat (first | refine blk_drewN ?_ _ | refine blk_drew ?_ | refine blk_alloc ?_ _)); exact BK176.out) hb); have n1_ := Aside0.mk (below_step (by repeat (first | (with_reducible first | exact HB.out | apply below_alloc | apply pw_below_drewN | apply below_drew1 | refine below_set ?_ GE176.out) | exact HB.out)) hb); clear BK176; clear HB; have BK176 := n0_; have HB := n1_; clear n0_ n1_; (try clear hb); (try clear hb2); (try clear hk); (try clear hi))))
                                          go_roundg k3
                                          case measure => have := HK1.out; have := HK2.out; have := HK3.out; omega
                                          case rel => exact ⟨(wrap64 (x12_3 + 1)), (by first | rfl | (simp; done) | (simp [*]; done)), H', ⟨by have := HK1.out; have := HK2.out; have := HK3.out; omega⟩, ⟨by (with_reducible repeat (first | refine blk_drewN ?_ _ | refine blk_drew ?_ | refine blk_alloc ?_ _)); exact BK176.out⟩, ⟨by repeat (first | (with_reducible first | exact HB.out | apply below_alloc | apply pw_below_drewN | apply below_drew1 | refine below_set ?_ GE176.out) | exact HB.out)⟩⟩
                                        · replace c61 := Bool.eq_false_iff.mpr c61
                                          subst c61
                                          have H1 : (some (x12_3, x7_2, x8_2, true)) = some (r1, r2, r3, r4) := by rw [if_neg (show ¬ (false = true) by decide)] at H; exact H
                                          clear H
                                          have H := H1
                                          clear H1
                                          simp only [Option.some.injEq, Prod.mk.injEq] at H
                                          obtain ⟨rfl, rfl, rfl, rfl⟩ := H
                                          have hcz66_0 : wr.cell? ⟨gb176, 0, none⟩ = some (.int .i64 a0_0) := (blk_cell BK176.out 0).trans rfl
                                          have hcz66_1 : wr.cell? ⟨gb176, 1, none⟩ = some (.slice A0_1 l0_1.length c0_1) := (blk_cell BK176.out 1).trans rfl
                                          have hfz66_0 := blk_frozen BK176.out 0
                                          have hfz66_1 := blk_frozen BK176.out 1
                                          have p194 : 0 ≤ (x12_3 : Int) := of_decide_eq_true (by first | (with_reducible assumption) | assumption)
                                          have q194 : x12_3 < (l0_1.length : Int) := of_decide_eq_true (by first | (with_reducible assumption) | assumption)
                                          obtain ⟨ad194, A194_3, c194_3, e194, hx194_0, hx194_1, hx194_2, hx194_3, hl194_3, hi194_3⟩ := at_T42 HR0_1.out x12_3 p194 q194
                                          cases e194
                                          replace hx194_0 := (HB.out.cell (World.block_lt_of_cell? w _ hx194_0)).trans hx194_0
                                          replace hx194_1 := (HB.out.cell (World.block_lt_of_cell? w _ hx194_1)).trans hx194_1
                                          replace hx194_2 := (HB.out.cell (World.block_lt_of_cell? w _ hx194_2)).trans hx194_2
                                          replace hx194_3 := (HB.out.cell (World.block_lt_of_cell? w _ hx194_3)).trans hx194_3
                                          have HR194_3 := Aside0.mk hi194_3
                                          have HC194_3 := Aside0.mk hl194_3
                                          clear hi194_3 hl194_3
                                          replace p194 := eq_true p194
                                          replace q194 := eq_true q194
                                          go_wp2_with (first | (go_at_call 49; (with_reducible refine (fascineref14_In.calls k3 ((rd_T42 l0_1 x12_3).f0) ((rd_T42 l0_1 x12_3).f1) ((rd_T42 l0_1 x12_3).f2) _ _ ((rd_T42 l0_1 x12_3).f3) x7_2 true _ ?side1 ?side2 A58.out).mono ?_); (case side1 => repeat (first | exact (Kd.C_below HR194_3.out HB.out) | (with_reducible refine Kd.C_alloc ?_ _) | (with_reducible refine Kd.C_drewN ?_ _) | (with_reducible refine Kd.C_drew ?_))); (case side2 => exact HC194_3.out); rintro e w67 ⟨rfl, hb⟩; have n0_ := Aside0.mk (blk_below (g := gb176) (o := .cells #[.int .i64 a0_0, .slice (some ad194) l0_1.length c0_1] 24 (0, 0)) (by (with_reducible repeat (first | refine blk_drewN ?_ _ | refine blk_drew ?_ | refine blk_alloc ?_ _)); exact BK176.out) hb); have n1_ := Aside0.mk (below_step (by repeat (first | (with_reducible first | exact HB.out | apply below_alloc | apply pw_below_drewN | apply below_drew1 | refine below_set ?_ GE176.out) | exact HB.out)) hb); clear BK176; clear HB; have BK176 := n0_; have HB := n1_; clear n0_ n1_; (try clear hb); (try clear hb2); (try clear hk); (try clear hi); have hcz68_0 : w67.cell? ⟨gb176, 0, none⟩ = some (.int .i64 a0_0) := (blk_cell BK176.out 0).trans rfl; have hcz68_1 : w67.cell? ⟨gb176, 1, none⟩ = some (.slice (some ad194) l0_1.length c0_1) := (blk_cell BK176.out 1).trans rfl; have hfz68_0 := blk_frozen BK176.out 0; have hfz68_1 := blk_frozen BK176.out 1; have p196 : 0 ≤ (x12_3 : Int) := of_decide_eq_true (by first | (with_reducible assumption) | assumption); have q196 : x12_3 < (l0_1.length : Int) := of_decide_eq_true (by first | (with_reducible assumption) | assumption); obtain ⟨ad196, A196_3, c196_3, e196, hx196_0, hx196_1, hx196_2, hx196_3, hl196_3, hi196_3⟩ := at_T42 HR0_1.out x12_3 p196 q196; obtain rfl : ad194 = ad196 := (by injection e196); replace hx196_0 := (HB.out.cell (World.block_lt_of_cell? w _ hx196_0)).trans hx196_0; replace hx196_1 := (HB.out.cell (World.block_lt_of_cell? w _ hx196_1)).trans hx196_1; replace hx196_2 := (HB.out.cell (World.block_lt_of_cell? w _ hx196_2)).trans hx196_2; replace hx196_3 := (HB.out.cell (World.block_lt_of_cell? w _ hx196_3)).trans hx196_3; have HR196_3 := Aside0.mk hi196_3; have HC196_3 := Aside0.mk hl196_3; clear hi196_3 hl196_3; replace p196 := eq_true p196; replace q196 := eq_true q196) | (go_at_call 49; (with_reducible refine (fascineref14_In.calls k3 ((rd_T42 l0_1 x12_3).f0) ((rd_T42 l0_1 x12_3).f1) ((rd_T42 l0_1 x12_3).f2) _ _ ((rd_T42 l0_1 x12_3).f3) x8_2 false _ ?side1 ?side2 A60.out).mono ?_); (case side1 => repeat (first | exact (Kd.C_below HR196_3.out HB.out) | (with_reducible refine Kd.C_alloc ?_ _) | (with_reducible refine Kd.C_drewN ?_ _) | (with_reducible refine Kd.C_drew ?_))); (case side2 => exact HC196_3.out); rintro e w69 ⟨rfl, hb⟩; have n0_ := Aside0.mk (blk_below (g := gb176) (o := .cells #[.int .i64 a0_0, .slice (some ad194) l0_1.length c0_1] 24 (0, 0)) (by (with_reducible repeat (first | refine blk_drewN ?_ _ | refine blk_drew ?_ | refine blk_alloc ?_ _)); exact BK176.out) hb); have n1_ := Aside0.mk (below_step (by repeat (first | (with_reducible first | exact HB.out | apply below_alloc | apply pw_below_drewN | apply below_drew1 | refine below_set ?_ GE176.out) | exact HB.out)) hb); clear BK176; clear HB; have BK176 := n0_; have HB := n1_; clear n0_ n1_; (try clear hb); (try clear hb2); (try clear hk); (try clear hi)))
                                          repeat (go_quiet (first | (go_at_call 49; (with_reducible refine (fascineref14_In.calls k3 ((rd_T42 l0_1 x12_3).f0) ((rd_T42 l0_1 x12_3).f1) ((rd_T42 l0_1 x12_3).f2) _ _ ((rd_T42 l0_1 x12_3).f3) x7_2 true _ ?side1 ?side2 A58.out).mono ?_); (case side1 => repeat (first | exact (Kd.C_below HR194_3.out HB.out) | (with_reducible refine Kd.C_alloc ?_ _) | (with_reducible refine Kd.C_drewN ?_ _) | (with_reducible refine Kd.C_drew ?_))); (case side2 => exact HC194_3.out); rintro e w67 ⟨rfl, hb⟩; have n0_ := Aside0.mk (blk_below (g := gb176) (o := .cells #[.int .i64 a0_0, .slice (some ad194) l0_1.length c0_1] 24 (0, 0)) (by (with_reducible repeat (first | refine blk_drewN ?_ _ | refine blk_drew ?_ | refine blk_alloc ?_ _)); exact BK176.out) hb); have n1_ := Aside0.mk (below_step (by repeat (first | (with_reducible first | exact HB.out | apply below_alloc | apply pw_below_drewN | apply below_drew1 | refine below_set ?_ GE176.out) | exact HB.out)) hb); clear BK176; clear HB; have BK176 := n0_; have HB := n1_; clear n0_ n1_; (try clear hb); (try clear hb2); (try clear hk); (try clear hi); have hcz68_0 : w67.cell? ⟨gb176, 0, none⟩ = some (.int .i64 a0_0) := (blk_cell BK176.out 0).trans rfl; have hcz68_1 : w67.cell? ⟨gb176, 1, none⟩ = some (.slice (some ad194) l0_1.length c0_1) := (blk_cell BK176.out 1).trans rfl; have hfz68_0 := blk_frozen BK176.out 0; have hfz68_1 := blk_frozen BK176.out 1; have p196 : 0 ≤ (x12_3 : Int) := of_decide_eq_true (by first | (with_reducible assumption) | assumption); have q196 : x12_3 < (l0_1.length : Int) := of_decide_eq_true (by first | (with_reducible assumption) | assumption); obtain ⟨ad196, A196_3, c196_3, e196, hx196_0, hx196_1, hx196_2, hx196_3, hl196_3, hi196_3⟩ := at_T42 HR0_1.out x12_3 p196 q196; obtain rfl : ad194 = ad196 := (by injection e196); replace hx196_0 := (HB.out.cell (World.block_lt_of_cell? w _ hx196_0)).trans hx196_0; replace hx196_1 := (HB.out.cell (World.block_lt_of_cell? w _ hx196_1)).trans hx196_1; replace hx196_2 := (HB.out.cell (World.block_lt_of_cell? w _ hx196_2)).trans hx196_2; replace hx196_3 := (HB.out.cell (World.block_lt_of_cell? w _ hx196_3)).trans hx196_3; have HR196_3 := Aside0.mk hi196_3; have HC196_3 := Aside0.mk hl196_3; clear hi196_3 hl196_3; replace p196 := eq_true p196; replace q196 := eq_true q196) | (go_at_call 49; (with_reducible refine (fascineref14_In.calls k3 ((rd_T42 l0_1 x12_3).f0) ((rd_T42 l0_1 x12_3).f1) ((rd_T42 l0_1 x12_3).f2) _ _ ((rd_T42 l0_1 x12_3).f3) x8_2 false _ ?side1 ?side2 A60.out).mono ?_); (case side1 => repeat (first | exact (Kd.C_below HR196_3.out HB.out) | (with_reducible refine Kd.C_alloc ?_ _) | (with_reducible refine Kd.C_drewN ?_ _) | (with_reducible refine Kd.C_drew ?_))); (case side2 => exact HC196_3.out); rintro e w69 ⟨rfl, hb⟩; have n0_ := Aside0.mk (blk_below (g := gb176) (o := .cells #[.int .i64 a0_0, .slice (some ad194) l0_1.length c0_1] 24 (0, 0)) (by (with_reducible repeat (first | refine blk_drewN ?_ _ | refine blk_drew ?_ | refine blk_alloc ?_ _)); exact BK176.out) hb); have n1_ := Aside0.mk (below_step (by repeat (first | (with_reducible first | exact HB.out | apply below_alloc | apply pw_below_drewN | apply below_drew1 | refine below_set ?_ GE176.out) | exact HB.out)) hb); clear BK176; clear HB; have BK176 := n0_; have HB := n1_; clear n0_ n1_; (try clear hb); (try clear hb2); (try clear hk); (try clear hi))); try go_wp2_with (first | (go_at_call 49; (with_reducible refine (fascineref14_In.calls k3 ((rd_T42 l0_1 x12_3).f0) ((rd_T42 l0_1 x12_3).f1) ((rd_T42 l0_1 x12_3).f2) _ _ ((rd_T42 l0_1 x12_3).f3) x7_2 true _ ?side1 ?side2 A58.out).mono ?_); (case side1 => repeat (first | exact (Kd.C_below HR194_3.out HB.out) | (with_reducible refine Kd.C_alloc ?_ _) | (with_reducible refine Kd.C_drewN ?_ _) | (with_reducible refine Kd.C_drew ?_))); (case side2 => exact HC194_3.out); rintro e w67 ⟨rfl, hb⟩; have n0_ := Aside0.mk (blk_below (g := gb176) (o := .cells #[.int .i64 a0_0, .slice (some ad194) l0_1.length c0_1] 24 (0, 0)) (by (with_reducible repeat (first | refine blk_drewN ?_ _ | refine blk_drew ?_ | refine blk_alloc ?_ _)); exact BK176.out) hb); have n1_ := Aside0.mk (below_step (by repeat (first | (with_reducible first | exact HB.out | apply below_alloc | apply pw_below_drewN | apply below_drew1 | refine below_set ?_ GE176.out) | exact HB.out)) hb); clear BK176; clear HB; have BK176 := n0_; have HB := n1_; clear n0_ n1_; (try clear hb); (try clear hb2); (try clear hk); (try clear hi); have hcz68_0 : w67.cell? ⟨gb176, 0, none⟩ = some (.int .i64 a0_0) := (blk_cell BK176.out 0).trans rfl; have hcz68_1 : w67.cell? ⟨gb176, 1, none⟩ = some (.slice (some ad194) l0_1.length c0_1) := (blk_cell BK176.out 1).trans rfl; have hfz68_0 := blk_frozen BK176.out 0; have hfz68_1 := blk_frozen BK176.out 1; have p196 : 0 ≤ (x12_3 : Int) := of_decide_eq_true (by first | (with_reducible assumption) | assumption); have q196 : x12_3 < (l0_1.length : Int) := of_decide_eq_true (by first | (with_reducible assumption) | assumption); obtain ⟨ad196, A196_3, c196_3, e196, hx196_0, hx196_1, hx196_2, hx196_3, hl196_3, hi196_3⟩ := at_T42 HR0_1.out x12_3 p196 q196; obtain rfl : ad194 = ad196 := (by injection e196); replace hx196_0 := (HB.out.cell (World.block_lt_of_cell? w _ hx196_0)).trans hx196_0; replace hx196_1 := (HB.out.cell (World.block_lt_of_cell? w _ hx196_1)).trans hx196_1; replace hx196_2 := (HB.out.cell (World.block_lt_of_cell? w _ hx196_2)).trans hx196_2; replace hx196_3 := (HB.out.cell (World.block_lt_of_cell? w _ hx196_3)).trans hx196_3; have HR196_3 := Aside0.mk hi196_3; have HC196_3 := Aside0.mk hl196_3; clear hi196_3 hl196_3; replace p196 := eq_true p196; replace q196 := eq_true q196) | (go_at_call 49; (with_reducible refine (fascineref14_In.calls k3 ((rd_T42 l0_1 x12_3).f0) ((rd_T42 l0_1 x12_3).f1) ((rd_T42 l0_1 x12_3).f2) _ _ ((rd_T42 l0_1 x12_3).f3) x8_2 false _ ?side1 ?side2 A60.out).mono ?_); (case side1 => repeat (first | exact (Kd.C_below HR196_3.out HB.out) | (with_reducible refine Kd.C_alloc ?_ _) | (with_reducible refine Kd.C_drewN ?_ _) | (with_reducible refine Kd.C_drew ?_))); (case side2 => exact HC196_3.out); rintro e w69 ⟨rfl, hb⟩; have n0_ := Aside0.mk (blk_below (g := gb176) (o := .cells #[.int .i64 a0_0, .slice (some ad194) l0_1.length c0_1] 24 (0, 0)) (by (with_reducible repeat (first | refine blk_drewN ?_ _ | refine blk_drew ?_ | refine blk_alloc ?_ _)); exact BK176.out) hb); have n1_ := Aside0.mk (below_step (by repeat (first | (with_reducible first | exact HB.out | apply below_alloc | apply pw_below_drewN | apply below_drew1 | refine below_set ?_ GE176.out) | exact HB.out)) hb); clear BK176; clear HB; have BK176 := n0_; have HB := n1_; clear n0_ n1_; (try clear hb); (try clear hb2); (try clear hk); (try clear hi))))
                                          refine bodyPost_ret (results_list (rs := [.tmp 2, .tmp 3, .tmp 4, .tmp 5]) rfl (by simp) (.tmp (.tmp (.tmp (.tmp .nil))))) rfl ?_
                                          exact ⟨by first | rfl | (simp [errW_none, errW_some] <;> rfl) | (simp [*, errW_none, errW_some] <;> rfl), by repeat (first | (with_reducible first | exact HB.out | apply below_alloc | apply pw_below_drewN | apply below_drew1 | refine below_set ?_ GE176.out) | exact HB.out)⟩
                                      · replace c59 := Bool.eq_false_iff.mpr c59
                                        subst c59
                                        have H1 : (fascineref14_Plan.l3 k3 x7_2 x8_2 (wrap64 (x12_3 + 1)) a0_0 l0_1) = some (r1, r2, r3, r4) := by rw [if_neg (show ¬ (false = true) by decide)] at H; exact H
                                        clear H
                                        have H := H1
                                        clear H1
                                        have H' := Aside0.mk H
                                        clear H
                                        have hcz70_0 : wr.cell? ⟨gb176, 0, none⟩ = some (.int .i64 a0_0) := (blk_cell BK176.out 0).trans rfl
                                        have hcz70_1 : wr.cell? ⟨gb176, 1, none⟩ = some (.slice A0_1 l0_1.length c0_1) := (blk_cell BK176.out 1).trans rfl
                                        have hfz70_0 := blk_frozen BK176.out 0
                                        have hfz70_1 := blk_frozen BK176.out 1
                                        have p194 : 0 ≤ (x12_3 : Int) := of_decide_eq_true (by first | (with_reducible assumption) | assumption)
                                        have q194 : x12_3 < (l0_1.length : Int) := of_decide_eq_true (by first | (with_reducible assumption) | assumption)
                                        obtain ⟨ad194, A194_3, c194_3, e194, hx194_0, hx194_1, hx194_2, hx194_3, hl194_3, hi194_3⟩ := at_T42 HR0_1.out x12_3 p194 q194
                                        cases e194
                                        replace hx194_0 := (HB.out.cell (World.block_lt_of_cell? w _ hx194_0)).trans hx194_0
                                        replace hx194_1 := (HB.out.cell (World.block_lt_of_cell? w _ hx194_1)).trans hx194_1
                                        replace hx194_2 := (HB.out.cell (World.block_lt_of_cell? w _ hx194_2)).trans hx194_2
                                        replace hx194_3 := (HB.out.cell (World.block_lt_of_cell? w _ hx194_3)).trans hx194_3
                                        have HR194_3 := Aside0.mk hi194_3
                                        have HC194_3 := Aside0.mk hl194_3
                                        clear hi194_3 hl194_3
                                        replace p194 := eq_true p194
                                        replace q194 := eq_true q194
                                        go_wp2_with (first | (go_at_call 49; (with_reducible refine (fascineref14_In.calls k3 ((rd_T42 l0_1 x12_3).f0) ((rd_T42 l0_1 x12_3).f1) ((rd_T42 l0_1 x12_3).f2) _ _ ((rd_T42 l0_1 x12_3).f3) x7_2 false _ ?side1 ?side2 A58.out).mono ?_); (case side1 => repeat (first | exact (Kd.C_below HR194_3.out HB.out) | (with_reducible refine Kd.C_alloc ?_ _) | (with_reducible refine Kd.C_drewN ?_ _) | (with_reducible refine Kd.C_drew ?_))); (case side2 => exact HC194_3.out); rintro e w71 ⟨rfl, hb⟩; have n0_ := Aside0.mk (blk_below (g := gb176) (o := .cells #[.int .i64 a0_0, .slice (some ad194) l0_1.length c0_1] 24 (0, 0)) (by (with_reducible repeat (first | refine blk_drewN ?_ _ | refine blk_drew ?_ | refine blk_alloc ?_ _)); exact BK176.out) hb); have n1_ := Aside0.mk (below_step (by repeat (first | (with_reducible first | exact HB.out | apply below_alloc | apply pw_below_drewN | apply below_drew1 | refine below_set ?_ GE176.out) | exact HB.out)) hb); clear BK176; clear HB; have BK176 := n0_; have HB := n1_; clear n0_ n1_; (try clear hb); (try clear hb2); (try clear hk); (try clear hi)))
                                        repeat (go_quiet (first | (go_at_call 49; (with_reducible refine (fascineref14_In.calls k3 ((rd_T42 l0_1 x12_3).f0) ((rd_T42 l0_1 x12_3).f1) ((rd_T42 l0_1 x12_3).f2) _ _ ((rd_T42 l0_1 x12_3).f3) x7_2 false _ ?side1 ?side2 A58.out).mono ?_); (case side1 => repeat (first | exact (Kd.C_below HR194_3.out HB.out) | (with_reducible refine Kd.C_alloc ?_ _) | (with_reducible refine Kd.C_drewN ?_ _) | (with_reducible refine Kd.C_drew ?_))); (case side2 => exact HC194_3.out); rintro e w71 ⟨rfl, hb⟩; have n0_ := Aside0.mk (blk_below (g := gb176) (o := .cells #[.int .i64 a0_0, .slice (some ad194) l0_1.length c0_1] 24 (0, 0)) (by (with_reducible repeat (first | refine blk_drewN ?_ _ | refine blk_drew ?_ | refine blk_alloc ?_ _)); exact BK176.out) hb); have n1_ := Aside0.mk (below_step (by repeat (first | (with_reducible first | exact HB.out | apply below_alloc | apply pw_below_drewN | apply below_drew1 | refine below_set ?_ GE176.out) | exact HB.out)) hb); clear BK176; clear HB; have BK176 := n0_; have HB := n1_; clear n0_ n1_; (try clear hb); (try clear hb2); (try clear hk); (try clear hi))); try go_wp2_with (first | (go_at_call 49; (with_reducible refine (fascineref14_In.calls k3 ((rd_T42 l0_1 x12_3).f0) ((rd_T42 l0_1 x12_3).f1) ((rd_T42 l0_1 x12_3).f2) _ _ ((rd_T42 l0_1 x12_3).f3) x7_2 false _ ?side1 ?side2 A58.out).mono ?_); (case side1 => repeat (first | exact (Kd.C_below HR194_3.out HB.out) | (with_reducible refine Kd.C_alloc ?_ _) | (with_reducible refine Kd.C_drewN ?_ _) | (with_reducible refine Kd.C_drew ?_))); (case side2 => exact HC194_3.out); rintro e w71 ⟨rfl, hb⟩; have n0_ := Aside0.mk (blk_below (g := gb176) (o := .cells #[.int .i64 a0_0, .slice (some ad194) l0_1.length c0_1] 24 (0, 0)) (by (with_reducible repeat (first | refine blk_drewN ?_ _ | refine blk_drew ?_ | refine blk_alloc ?_ _)); exact BK176.out) hb); have n1_ := Aside0.mk (below_step (by repeat (first | (with_reducible first | exact HB.out | apply below_alloc | apply pw_below_drewN | apply below_drew1 | refine below_set ?_ GE176.out) | exact HB.out)) hb); clear BK176; clear HB; have BK176 := n0_; have HB := n1_; clear n0_ n1_; (try clear hb); (try clear hb2); (try clear hk); (try clear hi))))
                                        go_roundg k3
                                        case measure => have := HK1.out; have := HK2.out; have := HK3.out; omega
                                        case rel => exact ⟨(wrap64 (x12_3 + 1)), (by first | rfl | (simp; done) | (simp [*]; done)), H', ⟨by have := HK1.out; have := HK2.out; have := HK3.out; omega⟩, ⟨by (with_reducible repeat (first | refine blk_drewN ?_ _ | refine blk_drew ?_ | refine blk_alloc ?_ _)); exact BK176.out⟩, ⟨by repeat (first | (with_reducible first | exact HB.out | apply below_alloc | apply pw_below_drewN | apply below_drew1 | refine below_set ?_ GE176.out) | exact HB.out)⟩⟩
                                    · rw [if_neg c57] at H
                                      exact absurd H (by simp)
                                  · rw [if_neg c56] at H
                                    have c56b0 : decide (x12_3 < (l0_1.length : Int)) = false := decide_eq_false c56
                                    clear c56
                                    simp only [Option.some.injEq, Prod.mk.injEq] at H
                                    obtain ⟨rfl, rfl, rfl, rfl⟩ := H
                                    have hcz72_0 : wr.cell? ⟨gb176, 0, none⟩ = some (.int .i64 a0_0) := (blk_cell BK176.out 0).trans rfl
                                    have hcz72_1 : wr.cell? ⟨gb176, 1, none⟩ = some (.slice A0_1 l0_1.length c0_1) := (blk_cell BK176.out 1).trans rfl
                                    have hfz72_0 := blk_frozen BK176.out 0
                                    have hfz72_1 := blk_frozen BK176.out 1
                                    go_wp2
                                    repeat (go_quiet (fail); try go_wp2)
                                    refine bodyPost_ret (results_list (rs := [.tmp 2, .tmp 3, .tmp 4, .tmp 5]) rfl (by simp) (.tmp (.tmp (.tmp (.tmp .nil))))) rfl ?_
                                    exact ⟨by first | rfl | (simp [errW_none, errW_some] <;> rfl) | (simp [*, errW_none, errW_some] <;> rfl), by repeat (first | (with_reducible first | exact HB.out | apply below_alloc | apply pw_below_drewN | apply below_drew1 | refine below_set ?_ GE176.out) | exact HB.out)⟩
                          · rw [if_neg c50] at H
                            exact absurd H (by simp)
                        · rw [if_neg c49] at H
                          exact absurd H (by simp)
                      · rw [if_neg c48] at H
                        exact absurd H (by simp)
                    · rw [if_neg c47] at H
                      exact absurd H (by simp)
      · rw [if_neg c5] at H
        exact absurd H (by simp)
    · rw [if_neg c4] at H
      exact absurd H (by simp)
  · replace c3 := Bool.eq_false_iff.mpr c3
    subst c3
    have H1 : (some (0, 0, 0, false)) = some (r1, r2, r3, r4) := by rw [if_neg (show ¬ (false = true) by decide)] at H; exact H
    clear H
    have H := H1
    clear H1
    simp only [Option.some.injEq, Prod.mk.injEq] at H
    obtain ⟨rfl, rfl, rfl, rfl⟩ := H
    go_enter Try.func37, Try.ntmps37
    go_wp2_with (first | ((with_reducible refine gate_dst (N := 1) rfl ?_); refine box_event ?hg (N := 1) ?hd (cs := #[.int .i64 a0_0, .slice A0_1 l0_1.length c0_1]) (t := 24) ?hr ?_; (case hd => rfl); (case hg => rfl); (case hr => first | (go_simp; done) | (go_simp; rfl)); intro gb176 hg w73 hbox hb; have n0_ := Aside0.mk (below_step (by repeat (first | (with_reducible first | exact HB.out | apply below_alloc | apply pw_below_drewN | apply below_drew1) | exact HB.out)) hb); have n1_ := Aside0.mk (hbox); have n2_ := Aside0.mk ((by rw [hg]; exact (below_size (by repeat (first | (with_reducible first | exact HB.out | apply below_alloc | apply pw_below_drewN | apply below_drew1) | exact HB.out))) : w.heap.size ≤ gb176)); have n3_ := Aside0.mk ((by rw [hg]; exact (below_size (by repeat (first | (with_reducible first | exact HB.out | apply below_alloc | apply pw_below_drewN | apply below_drew1) | exact HB.out))) : w.heap.size ≤ gb176)); clear HB; have HB := n0_; have BK176 := n1_; have GW176 := n2_; have GE176 := n3_; clear n0_ n1_ n2_ n3_; clear hb hbox hg; have hcz74_0 : w73.cell? ⟨gb176, 0, none⟩ = some (.int .i64 a0_0) := (blk_cell BK176.out 0).trans rfl; have hcz74_1 : w73.cell? ⟨gb176, 1, none⟩ = some (.slice A0_1 l0_1.length c0_1) := (blk_cell BK176.out 1).trans rfl; have hfz74_0 := blk_frozen BK176.out 0; have hfz74_1 := blk_frozen BK176.out 1) | (go_at_call 20; (with_reducible refine (fascineref14_Form.calls k a0_0 _ _ l0_1 false _ ?side1 ?side2 A2.out).mono ?_); (case side1 => repeat (first | exact (Kd.C_below HR0_1.out HB.out) | (with_reducible refine Kd.C_alloc ?_ _) | (with_reducible refine Kd.C_drewN ?_ _) | (with_reducible refine Kd.C_drew ?_))); (case side2 => exact HC0_1.out); rintro e w75 ⟨rfl, hb⟩; have n0_ := Aside0.mk (blk_below (g := gb176) (o := .cells #[.int .i64 a0_0, .slice A0_1 l0_1.length c0_1] 24 (0, 0)) (by (with_reducible repeat (first | refine blk_drewN ?_ _ | refine blk_drew ?_ | refine blk_alloc ?_ _)); exact BK176.out) hb); have n1_ := Aside0.mk (below_step (by repeat (first | (with_reducible first | exact HB.out | apply below_alloc | apply pw_below_drewN | apply below_drew1 | refine below_set ?_ GE176.out) | exact HB.out)) hb); clear BK176; clear HB; have BK176 := n0_; have HB := n1_; clear n0_ n1_; (try clear hb); (try clear hb2); (try clear hk); (try clear hi)))
    repeat (go_quiet (first | ((with_reducible refine gate_dst (N := 1) rfl ?_); refine box_event ?hg (N := 1) ?hd (cs := #[.int .i64 a0_0, .slice A0_1 l0_1.length c0_1]) (t := 24) ?hr ?_; (case hd => rfl); (case hg => rfl); (case hr => first | (go_simp; done) | (go_simp; rfl)); intro gb176 hg w73 hbox hb; have n0_ := Aside0.mk (below_step (by repeat (first | (with_reducible first | exact HB.out | apply below_alloc | apply pw_below_drewN | apply below_drew1) | exact HB.out)) hb); have n1_ := Aside0.mk (hbox); have n2_ := Aside0.mk ((by rw [hg]; exact (below_size (by repeat (first | (with_reducible first | exact HB.out | apply below_alloc | apply pw_below_drewN | apply below_drew1) | exact HB.out))) : w.heap.size ≤ gb176)); have n3_ := Aside0.mk ((by rw [hg]; exact (below_size (by repeat (first | (with_reducible first | exact HB.out | apply below_alloc | apply pw_below_drewN | apply below_drew1) | exact HB.out))) : w.heap.size ≤ gb176)); clear HB; have HB := n0_; have BK176 := n1_; have GW176 := n2_; have GE176 := n3_; clear n0_ n1_ n2_ n3_; clear hb hbox hg; have hcz74_0 : w73.cell? ⟨gb176, 0, none⟩ = some (.int .i64 a0_0) := (blk_cell BK176.out 0).trans rfl; have hcz74_1 : w73.cell? ⟨gb176, 1, none⟩ = some (.slice A0_1 l0_1.length c0_1) := (blk_cell BK176.out 1).trans rfl; have hfz74_0 := blk_frozen BK176.out 0; have hfz74_1 := blk_frozen BK176.out 1) | (go_at_call 20; (with_reducible refine (fascineref14_Form.calls k a0_0 _ _ l0_1 false _ ?side1 ?side2 A2.out).mono ?_); (case side1 => repeat (first | exact (Kd.C_below HR0_1.out HB.out) | (with_reducible refine Kd.C_alloc ?_ _) | (with_reducible refine Kd.C_drewN ?_ _) | (with_reducible refine Kd.C_drew ?_))); (case side2 => exact HC0_1.out); rintro e w75 ⟨rfl, hb⟩; have n0_ := Aside0.mk (blk_below (g := gb176) (o := .cells #[.int .i64 a0_0, .slice A0_1 l0_1.length c0_1] 24 (0, 0)) (by (with_reducible repeat (first | refine blk_drewN ?_ _ | refine blk_drew ?_ | refine blk_alloc ?_ _)); exact BK176.out) hb); have n1_ := Aside0.mk (below_step (by repeat (first | (with_reducible first | exact HB.out | apply below_alloc | apply pw_below_drewN | apply below_drew1 | refine below_set ?_ GE176.out) | exact HB.out)) hb); clear BK176; clear HB; have BK176 := n0_; have HB := n1_; clear n0_ n1_; (try clear hb); (try clear hb2); (try clear hk); (try clear hi))); try go_wp2_with (first | ((with_reducible refine gate_dst (N := 1) rfl ?_); refine box_event ?hg (N := 1) ?hd (cs := #[.int .i64 a0_0, .slice A0_1 l0_1.length c0_1]) (t := 24) ?hr ?_; (case hd => rfl); (case hg => rfl); (case hr => first | (go_simp; done) | (go_simp; rfl)); intro gb176 hg w73 hbox hb; have n0_ := Aside0.mk (below_step (by repeat (first | (with_reducible first | exact HB.out | apply below_alloc | apply pw_below_drewN | apply below_drew1) | exact HB.out)) hb); have n1_ := Aside0.mk (hbox); have n2_ := Aside0.mk ((by rw [hg]; exact (below_size (by repeat (first | (with_reducible first | exact HB.out | apply below_alloc | apply pw_below_drewN | apply below_drew1) | exact HB.out))) : w.heap.size ≤ gb176)); have n3_ := Aside0.mk ((by rw [hg]; exact (below_size (by repeat (first | (with_reducible first | exact HB.out | apply below_alloc | apply pw_below_drewN | apply below_drew1) | exact HB.out))) : w.heap.size ≤ gb176)); clear HB; have HB := n0_; have BK176 := n1_; have GW176 := n2_; have GE176 := n3_; clear n0_ n1_ n2_ n3_; clear hb hbox hg; have hcz74_0 : w73.cell? ⟨gb176, 0, none⟩ = some (.int .i64 a0_0) := (blk_cell BK176.out 0).trans rfl; have hcz74_1 : w73.cell? ⟨gb176, 1, none⟩ = some (.slice A0_1 l0_1.length c0_1) := (blk_cell BK176.out 1).trans rfl; have hfz74_0 := blk_frozen BK176.out 0; have hfz74_1 := blk_frozen BK176.out 1) | (go_at_call 20; (with_reducible refine (fascineref14_Form.calls k a0_0 _ _ l0_1 false _ ?side1 ?side2 A2.out).mono ?_); (case side1 => repeat (first | exact (Kd.C_below HR0_1.out HB.out) | (with_reducible refine Kd.C_alloc ?_ _) | (with_reducible refine Kd.C_drewN ?_ _) | (with_reducible refine Kd.C_drew ?_))); (case side2 => exact HC0_1.out); rintro e w75 ⟨rfl, hb⟩; have n0_ := Aside0.mk (blk_below (g := gb176) (o := .cells #[.int .i64 a0_0, .slice A0_1 l0_1.length c0_1] 24 (0, 0)) (by (with_reducible repeat (first | refine blk_drewN ?_ _ | refine blk_drew ?_ | refine blk_alloc ?_ _)); exact BK176.out) hb); have n1_ := Aside0.mk (below_step (by repeat (first | (with_reducible first | exact HB.out | apply below_alloc | apply pw_below_drewN | apply below_drew1 | refine below_set ?_ GE176.out) | exact HB.out)) hb); clear BK176; clear HB; have BK176 := n0_; have HB := n1_; clear n0_ n1_; (try clear hb); (try clear hb2); (try clear hk); (try clear hi))))
    refine bodyPost_ret (results_list (rs := [.tmp 2, .tmp 3, .tmp 4, .tmp 5]) rfl (by simp) (.tmp (.tmp (.tmp (.tmp .nil))))) rfl ?_
    exact ⟨by first | rfl | (simp [errW_none, errW_some] <;> rfl) | (simp [*, errW_none, errW_some] <;> rfl), by repeat (first | (with_reducible first | exact HB.out | apply below_alloc | apply pw_below_drewN | apply below_drew1 | refine below_set ?_ GE176.out) | exact HB.out)⟩

end Go.Proofs.Ytkoaeiiaagipeaa.PMetaPlans
