-- WRITTEN BY A PROGRAM OF THIS SESSION (wip/patch_print.py: the kit's printer with rules of this session's own); Lean checks it.
import Derived.Test.YtkoaeiiaagipeaaPMetaStaysx0
import Derived.Test.YtkoaeiiaagipeaaPMetaStaysx1
import Derived.Test.YtkoaeiiaagipeaaPMetaStaysx2
namespace Go.Proofs.Ytkoaeiiaagipeaa.PMetaStays
open Go.RowKit Go.Proofs.YtkoaeiiaagipeaaW.PrintWords Go.Proofs.YtkoaeiiaagipeaaW.PrintLast Go.Proofs.YtkoaeiiaagipeaaW.PrintMore
open Go.Proofs.Ytkoaeiiaagipeaa.G
attribute [local go_sem] max2_int min2_int max_two min_two max_three min_three max_four min_four   -- for this text's walks alone
set_option linter.unusedVariables false
set_option linter.unusedSimpArgs false

/-! ### meta_Copy: function 21 -/
def meta_Copy.l0 : Nat → List (S42) → Int → Int → Int → List (S42) → Option (Int × (List (S42)))
 | 0, _, _, _, _, _ => none
 | k + 1, x10, x11, x12, x122000, x122001 => if x12 < x11 then (if 0 ≤ x12 then (if x12 < (x10.length : Int) then (if ([] : List Int).length + ((rd_T42 x10 x12).f3).length < 17592186044416 then (if x122001.length < 2932031007402 then (meta_Copy.l0 k x10 x11 (wrap64 (x12 + 1)) x122000 (x122001 ++ [(⟨(rd_T42 x10 x12).f0, (rd_T42 x10 x12).f1, (rd_T42 x10 x12).f2, (([] : List Int) ++ ((rd_T42 x10 x12).f3))⟩ : S42)])) else (none)) else (none)) else (none)) else (none)) else (some (x122000, x122001))
def meta_Copy.f (k : Nat) (a0_0 : Int) (l0_1 : List (S42)) : Option (Int × (List (S42))) := meta_Copy.l0 k l0_1 (l0_1.length : Int) 0 a0_0 ([] : List (S42))
theorem meta_Copy.mono_l : ∀ k, (∀ y0 y1 y2 y3 y4, LeO (meta_Copy.l0 k y0 y1 y2 y3 y4) (meta_Copy.l0 (k + 1) y0 y1 y2 y3 y4))
 | 0 => fun _ _ _ _ _ r h => by simp [meta_Copy.l0] at h
 | k + 1 => by
  have ih0 := meta_Copy.mono_l k
  ·intro y0 y1 y2 y3 y4
   unfold meta_Copy.l0
   repeat' first
   | (with_reducible exact ih0 _ _ _ _ _)
   | (with_reducible exact LeO.refl _)
   | (with_reducible exact LeO.none _)
   | (with_reducible refine LeO.ite ?_ ?_)
   | (with_reducible refine LeO.bind ?_ (fun _ => ?_))
   | exact ih0 _ _ _ _ _
   | exact LeO.none _
   | refine LeO.ite ?_ ?_
   | refine LeO.bind ?_ (fun _ => ?_)
theorem meta_Copy.mono : ∀ a0 a1 k, LeO (meta_Copy.f k a0 a1) (meta_Copy.f (k + 1) a0 a1) := by
 intro a0 a1 k
 have ih0 := meta_Copy.mono_l k
 unfold meta_Copy.f
 repeat' first
   | (with_reducible exact ih0 _ _ _ _ _)
   | (with_reducible exact LeO.refl _)
   | (with_reducible exact LeO.none _)
   | (with_reducible refine LeO.ite ?_ ?_)
   | (with_reducible refine LeO.bind ?_ (fun _ => ?_))
   | exact ih0 _ _ _ _ _
   | exact LeO.none _
   | refine LeO.ite ?_ ?_
   | refine LeO.bind ?_ (fun _ => ?_)
set_option maxHeartbeats 8000000 in
set_option maxRecDepth 100000 in
theorem meta_Copy.calls (k : Nat) (a0_0 : Int) (A0_1 : Option Addr) (c0_1 : Nat) (l0_1 : List (S42)) (r1 : Int) (r2 : List (S42)) (w : World) (hr0_1 : Kd.C k42 w A0_1 l0_1.length l0_1) (hc0_1 : l0_1.length ≤ c0_1) (h : meta_Copy.f k a0_0 l0_1 = some (r1, r2)) :
  Calls Try.prog 21 #[.agg #[.int .i64 a0_0, .slice A0_1 l0_1.length c0_1]] w fun e w' => ∃ v1_ : Value, e = .returned (.agg #[.int .i64 r1, v1_]) ∧ Kd.S k42 42 w' w.heap.size (fun _ => True) v1_ r2 ∧ Below w.heap.size w w' := by
 have hu24 := Try.underlying24
 have hu42 := Try.underlying42
 have HR0_1 := Aside0.mk hr0_1
 have HC0_1 := Aside0.mk hc0_1
 clear hr0_1 hc0_1
 have HB := Aside0.mk (Below.refl w.heap.size w)
 have H : (meta_Copy.l0 k l0_1 (l0_1.length : Int) 0 a0_0 ([] : List (S42))) = some (r1, r2) := h
 clear h
 have H' := Aside0.mk H
 clear H
 go_enter Try.func21, Try.ntmps21
 go_wp2_with (first | ((with_reducible refine gate_dst (N := 1) rfl ?_); refine box_event ?hg (N := 1) ?hd (cs := #[.int .i64 a0_0, .slice A0_1 l0_1.length c0_1]) (t := 24) ?hr ?_; (case hd => rfl); (case hg => rfl); (case hr => first | (go_simp; done) | (go_simp; rfl)); intro gb119 hg w2 hbox hb; have n0_ := Aside0.mk (below_step (by repeat (first | (with_reducible first | exact HB.out | apply below_alloc | apply pw_below_drewN | apply below_drew1) | exact HB.out)) hb); have n1_ := Aside0.mk (hbox); have n2_ := Aside0.mk ((by rw [hg]; exact (below_size (by repeat (first | (with_reducible first | exact HB.out | apply below_alloc | apply pw_below_drewN | apply below_drew1) | exact HB.out))) : w.heap.size ≤ gb119)); have n3_ := Aside0.mk ((by rw [hg]; exact (below_size (by repeat (first | (with_reducible first | exact HB.out | apply below_alloc | apply pw_below_drewN | apply below_drew1) | exact HB.out))) : w.heap.size ≤ gb119)); clear HB; have HB := n0_; have BK119 := n1_; have GW119 := n2_; have GE119 := n3_; clear n0_ n1_ n2_ n3_; clear hb hbox hg) | ((with_reducible refine gate_dst (N := 2) rfl ?_); refine box_event ?hg (N := 2) ?hd (cs := #[.int .i64 0, .slice none 0 0]) (t := 24) ?hr ?_; (case hd => rfl); (case hg => rfl); (case hr => first | (go_simp; done) | (go_simp; rfl)); intro gb120 hg w3 hbox hb; have n0_ := Aside0.mk (blk_below (g := gb119) (o := .cells #[.int .i64 a0_0, .slice A0_1 l0_1.length c0_1] 24 (0, 0)) (by (with_reducible repeat (first | refine blk_drewN ?_ _ | refine blk_drew ?_ | refine blk_alloc ?_ _)); exact BK119.out) hb); have n1_ := Aside0.mk (below_step (by repeat (first | (with_reducible first | exact HB.out | apply below_alloc | apply pw_below_drewN | apply below_drew1 | refine below_set ?_ GE119.out) | exact HB.out)) hb); have n2_ := Aside0.mk (hbox); have n3_ := Aside0.mk ((by rw [hg]; exact (below_size (by repeat (first | (with_reducible first | exact HB.out | apply below_alloc | apply pw_below_drewN | apply below_drew1 | refine below_set ?_ GE119.out) | exact HB.out))) : w.heap.size ≤ gb120)); have n4_ := Aside0.mk ((by rw [hg]; exact (below_size (by repeat (first | (with_reducible first | exact HB.out | apply below_alloc | apply pw_below_drewN | apply below_drew1 | refine below_set ?_ GE119.out) | exact HB.out))) : w.heap.size ≤ gb120)); have n5_ := Aside0.mk ((by rw [hg]; exact Nat.ne_of_lt (blk_lt (g := gb119) (o := .cells #[.int .i64 a0_0, .slice A0_1 l0_1.length c0_1] 24 (0, 0)) (by (with_reducible repeat (first | refine blk_drewN ?_ _ | refine blk_drew ?_ | refine blk_alloc ?_ _)); exact BK119.out)) : gb119 ≠ gb120)); have n6_ := Aside0.mk ((by rw [hg]; exact Nat.ne_of_gt (blk_lt (g := gb119) (o := .cells #[.int .i64 a0_0, .slice A0_1 l0_1.length c0_1] 24 (0, 0)) (by (with_reducible repeat (first | refine blk_drewN ?_ _ | refine blk_drew ?_ | refine blk_alloc ?_ _)); exact BK119.out)) : gb120 ≠ gb119)); clear BK119; clear HB; have BK119 := n0_; have HB := n1_; have BK120 := n2_; have GW120 := n3_; have GE120 := n4_; have NB119_120 := n5_; have NB120_119 := n6_; clear n0_ n1_ n2_ n3_ n4_ n5_ n6_; clear hb hbox hg; have hnb4 := NB119_120.out; have hnc4 := NB120_119.out; have hcz5_0 : w3.cell? ⟨gb119, 0, none⟩ = some (.int .i64 a0_0) := (blk_cell BK119.out 0).trans rfl; have hcz5_1 : w3.cell? ⟨gb119, 1, none⟩ = some (.slice A0_1 l0_1.length c0_1) := (blk_cell BK119.out 1).trans rfl; have hfz5_0 := blk_frozen BK119.out 0; have hfz5_1 := blk_frozen BK119.out 1) | ((with_reducible refine gate_dst (N := 3) rfl ?_); refine box_event ?hg (N := 3) ?hd (cs := #[.int .i64 0, .slice none 0 0]) (t := 24) ?hr ?_; (case hd => rfl); (case hg => rfl); (case hr => first | (go_simp; done) | (go_simp; rfl)); intro gb121 hg w6 hbox hb; have n0_ := Aside0.mk (blk_below (g := gb119) (o := .cells #[.int .i64 a0_0, .slice A0_1 l0_1.length c0_1] 24 (0, 0)) (by (with_reducible repeat (first | refine blk_drewN ?_ _ | refine blk_drew ?_ | refine blk_alloc ?_ _)); exact BK119.out) hb); have n1_ := Aside0.mk (blk_below (g := gb120) (o := .cells #[.int .i64 0, .slice none 0 0] 24 (0, 0)) (by (with_reducible repeat (first | refine blk_drewN ?_ _ | refine blk_drew ?_ | refine blk_alloc ?_ _)); exact BK120.out) hb); have n2_ := Aside0.mk (below_step (by repeat (first | (with_reducible first | exact HB.out | apply below_alloc | apply pw_below_drewN | apply below_drew1 | refine below_set ?_ GE119.out | refine below_set ?_ GE120.out) | exact HB.out)) hb); have n3_ := Aside0.mk (hbox); have n4_ := Aside0.mk ((by rw [hg]; exact (below_size (by repeat (first | (with_reducible first | exact HB.out | apply below_alloc | apply pw_below_drewN | apply below_drew1 | refine below_set ?_ GE119.out | refine below_set ?_ GE120.out) | exact HB.out))) : w.heap.size ≤ gb121)); have n5_ := Aside0.mk ((by rw [hg]; exact (below_size (by repeat (first | (with_reducible first | exact HB.out | apply below_alloc | apply pw_below_drewN | apply below_drew1 | refine below_set ?_ GE119.out | refine below_set ?_ GE120.out) | exact HB.out))) : w.heap.size ≤ gb121)); have n6_ := Aside0.mk ((by rw [hg]; exact Nat.ne_of_lt (blk_lt (g := gb119) (o := .cells #[.int .i64 a0_0, .slice A0_1 l0_1.length c0_1] 24 (0, 0)) (by (with_reducible repeat (first | refine blk_drewN ?_ _ | refine blk_drew ?_ | refine blk_alloc ?_ _)); exact BK119.out)) : gb119 ≠ gb121)); have n7_ := Aside0.mk ((by rw [hg]; exact Nat.ne_of_gt (blk_lt (g := gb119) (o := .cells #[.int .i64 a0_0, .slice A0_1 l0_1.length c0_1] 24 (0, 0)) (by (with_reducible repeat (first | refine blk_drewN ?_ _ | refine blk_drew ?_ | refine blk_alloc ?_ _)); exact BK119.out)) : gb121 ≠ gb119)); have n8_ := Aside0.mk ((by rw [hg]; exact Nat.ne_of_lt (blk_lt (g := gb120) (o := .cells #[.int .i64 0, .slice none 0 0] 24 (0, 0)) (by (with_reducible repeat (first | refine blk_drewN ?_ _ | refine blk_drew ?_ | refine blk_alloc ?_ _)); exact BK120.out)) : gb120 ≠ gb121)); have n9_ := Aside0.mk ((by rw [hg]; exact Nat.ne_of_gt (blk_lt (g := gb120) (o := .cells #[.int .i64 0, .slice none 0 0] 24 (0, 0)) (by (with_reducible repeat (first | refine blk_drewN ?_ _ | refine blk_drew ?_ | refine blk_alloc ?_ _)); exact BK120.out)) : gb121 ≠ gb120)); clear BK119; clear BK120; clear HB; have BK119 := n0_; have BK120 := n1_; have HB := n2_; have BK121 := n3_; have GW121 := n4_; have GE121 := n5_; have NB119_121 := n6_; have NB121_119 := n7_; have NB120_121 := n8_; have NB121_120 := n9_; clear n0_ n1_ n2_ n3_ n4_ n5_ n6_ n7_ n8_ n9_; clear hb hbox hg; have hnb7 := NB121_119.out; have hnc7 := NB119_121.out; have hnb8 := NB121_120.out; have hnc8 := NB120_121.out; have hcz9_0 : w6.cell? ⟨gb121, 0, none⟩ = some (.int .i64 0) := (blk_cell BK121.out 0).trans rfl; have hcz9_1 : w6.cell? ⟨gb121, 1, none⟩ = some (.slice none 0 0) := (blk_cell BK121.out 1).trans rfl; have hfz9_0 := blk_frozen BK121.out 0; have hfz9_1 := blk_frozen BK121.out 1; have hcz10_0 : w6.cell? ⟨gb119, 0, none⟩ = some (.int .i64 a0_0) := (blk_cell BK119.out 0).trans rfl; have hcz10_1 : w6.cell? ⟨gb119, 1, none⟩ = some (.slice A0_1 l0_1.length c0_1) := (blk_cell BK119.out 1).trans rfl; have hfz10_0 := blk_frozen BK119.out 0; have hfz10_1 := blk_frozen BK119.out 1))
 go_loopg [12] k (fun kq v12 w' => ∃ (x12_1 : Int) (x122001_1 : List (S42)) (u122001 : Value), v12 = .int .i64 x12_1 ∧ Aside0 (meta_Copy.l0 kq l0_1 (l0_1.length : Int) x12_1 a0_0 x122001_1 = some (r1, r2)) ∧ Aside0 (kq ≤ k) ∧ Aside0 (Kd.S k42 42 w' w.heap.size (fun _ => True) u122001 x122001_1) ∧ Aside0 (w'.heap[gb119]? = some (.cells #[.int .i64 a0_0, (.slice A0_1 l0_1.length c0_1)] 24 (0, 0))) ∧ Aside0 (w'.heap[gb120]? = some (.cells #[.int .i64 0, (.slice none 0 0)] 24 (0, 0))) ∧ Aside0 (w'.heap[gb121]? = some (.cells #[.int .i64 a0_0, u122001] 24 (0, 0))) ∧ Aside0 (Below w.heap.size w w'))
 case atStart => exact ⟨(0), (([] : List (S42))), (.slice none 0 0), (by first | rfl | (simp; done) | (simp [*]; done)), H', ⟨Nat.le_refl _⟩, ⟨by first | exact Kd.S_nil _ _ _ _ _ | exact Kd.N_nil _ _ _ _ _ | exact Kd.V_nil _ _ _ _ _ | exact Kd.Q_nil _ _ _ _ _ | exact Kd.R_nil _ _ _ _ _⟩, ⟨by (with_reducible repeat (first | refine blk_drewN ?_ _ | refine blk_drew ?_ | refine blk_alloc ?_ _)); refine blk_far ?_ NB119_121.out _; (with_reducible repeat (first | refine blk_drewN ?_ _ | refine blk_drew ?_ | refine blk_alloc ?_ _)); refine blk_far ?_ NB119_121.out _; (with_reducible repeat (first | refine blk_drewN ?_ _ | refine blk_drew ?_ | refine blk_alloc ?_ _)); exact BK119.out⟩, ⟨by (with_reducible repeat (first | refine blk_drewN ?_ _ | refine blk_drew ?_ | refine blk_alloc ?_ _)); refine blk_far ?_ NB120_121.out _; (with_reducible repeat (first | refine blk_drewN ?_ _ | refine blk_drew ?_ | refine blk_alloc ?_ _)); refine blk_far ?_ NB120_121.out _; (with_reducible repeat (first | refine blk_drewN ?_ _ | refine blk_drew ?_ | refine blk_alloc ?_ _)); exact BK120.out⟩, ⟨by (with_reducible repeat (first | refine blk_drewN ?_ _ | refine blk_drew ?_ | refine blk_alloc ?_ _)); refine blk_put (cs := #[.int .i64 a0_0, .slice none 0 0]) ?_ 1 _ rfl; (with_reducible repeat (first | refine blk_drewN ?_ _ | refine blk_drew ?_ | refine blk_alloc ?_ _)); refine blk_put (cs := #[.int .i64 0, .slice none 0 0]) ?_ 0 _ rfl; (with_reducible repeat (first | refine blk_drewN ?_ _ | refine blk_drew ?_ | refine blk_alloc ?_ _)); exact BK121.out⟩, ⟨by repeat (first | (with_reducible first | exact HB.out | apply below_alloc | apply pw_below_drewN | apply below_drew1 | refine below_set ?_ GE119.out | refine below_set ?_ GE120.out | refine below_set ?_ GE121.out) | exact HB.out)⟩⟩
 case round =>
  clear H'
  try clear c2
  try clear p2
  try clear c4
  try clear c7
  try clear c8
  try clear hcz10_0
  try clear hcz10_1
  try clear hcz5_0
  try clear hcz5_1
  try clear hcz9_0
  try clear hcz9_1
  try clear hfz10_0
  try clear hfz10_1
  try clear hfz5_0
  try clear hfz5_1
  try clear hfz9_0
  try clear hfz9_1
  obtain ⟨x12_1, x122001_1, u122001, rfl, HA, HK1, HO_122001, BK119, BK120, BK121, HB⟩ := hrel
  cases gk with
  | zero => exact absurd HA.out (by simp [meta_Copy.l0])
  | succ k1 =>
   have H := HA.out
   clear HA
   simp only [meta_Copy.l0] at H
   by_cases c11 : x12_1 < (l0_1.length : Int)
   ·rw [if_pos c11] at H
    have c11b0 : decide (x12_1 < (l0_1.length : Int)) = true := decide_eq_true c11
    clear c11
    by_cases c12 : 0 ≤ x12_1
    ·rw [if_pos c12] at H
     have c12b0 : decide (0 ≤ x12_1) = true := decide_eq_true c12
     clear c12
     by_cases c13 : x12_1 < (l0_1.length : Int)
     ·rw [if_pos c13] at H
      have c13b0 : decide (x12_1 < (l0_1.length : Int)) = true := decide_eq_true c13
      clear c13
      by_cases c14 : ([] : List Int).length + ((rd_T42 l0_1 x12_1).f3).length < 17592186044416
      ·rw [if_pos c14] at H
       have LMc14 := Aside0.mk c14
       clear c14
       obtain ⟨y124, hy124⟩ : ∃ y_ : List Int, y_ = (([] : List Int) ++ ((rd_T42 l0_1 x12_1).f3)) := ⟨_, rfl⟩
       replace H : (if x122001_1.length < 2932031007402 then (meta_Copy.l0 k1 l0_1 (l0_1.length : Int) (wrap64 (x12_1 + 1)) a0_0 (x122001_1 ++ [(⟨(rd_T42 l0_1 x12_1).f0, (rd_T42 l0_1 x12_1).f1, (rd_T42 l0_1 x12_1).f2, y124⟩ : S42)])) else (none)) = some (r1, r2) := by first | (rw [hy124]; with_reducible exact H) | (have H2_ := (Option.bind_some _ _).symm.trans H; rw [hy124]; with_reducible exact H2_) | (have H2_ := (Option.bind_some _ _).symm.trans H; with_reducible exact H2_) | with_reducible exact H | (rw [hy124]; exact H) | exact H
       have Ny124 := Aside0.mk hy124
       clear hy124
       by_cases c15 : x122001_1.length < 2932031007402
       ·rw [if_pos c15] at H
        have LMc15 := Aside0.mk c15
        clear c15
        obtain ⟨y127, hy127⟩ : ∃ y_ : List (S42), y_ = (x122001_1 ++ [(⟨(rd_T42 l0_1 x12_1).f0, (rd_T42 l0_1 x12_1).f1, (rd_T42 l0_1 x12_1).f2, y124⟩ : S42)]) := ⟨_, rfl⟩
        replace H : (meta_Copy.l0 k1 l0_1 (l0_1.length : Int) (wrap64 (x12_1 + 1)) a0_0 y127) = some (r1, r2) := by first | (rw [hy127]; with_reducible exact H) | (have H2_ := (Option.bind_some _ _).symm.trans H; rw [hy127]; with_reducible exact H2_) | (have H2_ := (Option.bind_some _ _).symm.trans H; with_reducible exact H2_) | with_reducible exact H | (rw [hy127]; exact H) | exact H
        have Ny127 := Aside0.mk hy127
        clear hy127
        have H' := Aside0.mk H
        clear H
        have p122 : 0 ≤ (x12_1 : Int) := of_decide_eq_true (by first | (with_reducible assumption) | assumption)
        have q122 : x12_1 < (l0_1.length : Int) := of_decide_eq_true (by first | (with_reducible assumption) | assumption)
        obtain ⟨ad122, A122_3, c122_3, e122, hx122_0, hx122_1, hx122_2, hx122_3, hl122_3, hi122_3⟩ := at_T42 HR0_1.out x12_1 p122 q122
        cases e122
        replace hx122_0 := (HB.out.cell (World.block_lt_of_cell? w _ hx122_0)).trans hx122_0
        replace hx122_1 := (HB.out.cell (World.block_lt_of_cell? w _ hx122_1)).trans hx122_1
        replace hx122_2 := (HB.out.cell (World.block_lt_of_cell? w _ hx122_2)).trans hx122_2
        replace hx122_3 := (HB.out.cell (World.block_lt_of_cell? w _ hx122_3)).trans hx122_3
        have HR122_3 := Aside0.mk hi122_3
        have HC122_3 := Aside0.mk hl122_3
        clear hi122_3 hl122_3
        replace p122 := eq_true p122
        replace q122 := eq_true q122
        go_wp2_with (first | ((with_reducible refine gate_dst (N := 5) rfl ?_); refine box_event ?hg (N := 5) ?hd (cs := #[.int .u64 0, .int .u64 0, .int .i64 0, .slice none 0 0]) (t := 42) ?hr ?_; (case hd => rfl); (case hg => rfl); (case hr => first | (go_simp; done) | (go_simp; rfl)); intro gb123 hg w16 hbox hb; have n0_ := Aside0.mk (Kd.S_below (Kd.S_elderB (by (with_reducible repeat (first | apply Kd.S_alloc | apply Kd.S_drewN | apply Kd.S_drew)); exact HO_122001.out) gb123 (Nat.le_of_eq hg.symm)) hb); have n1_ := Aside0.mk (blk_below (g := gb119) (o := .cells #[.int .i64 a0_0, .slice (some ad122) l0_1.length c0_1] 24 (0, 0)) (by (with_reducible repeat (first | refine blk_drewN ?_ _ | refine blk_drew ?_ | refine blk_alloc ?_ _)); exact BK119.out) hb); have n2_ := Aside0.mk (blk_below (g := gb120) (o := .cells #[.int .i64 0, .slice none 0 0] 24 (0, 0)) (by (with_reducible repeat (first | refine blk_drewN ?_ _ | refine blk_drew ?_ | refine blk_alloc ?_ _)); exact BK120.out) hb); have n3_ := Aside0.mk (blk_below (g := gb121) (o := .cells #[.int .i64 a0_0, u122001] 24 (0, 0)) (by (with_reducible repeat (first | refine blk_drewN ?_ _ | refine blk_drew ?_ | refine blk_alloc ?_ _)); exact BK121.out) hb); have n4_ := Aside0.mk (below_step (by repeat (first | (with_reducible first | exact HB.out | apply below_alloc | apply pw_below_drewN | apply below_drew1 | refine below_set ?_ GE119.out | refine below_set ?_ GE120.out | refine below_set ?_ GE121.out) | exact HB.out)) hb); have n5_ := Aside0.mk (hbox); have n6_ := Aside0.mk ((by rw [hg]; exact (below_size (by repeat (first | (with_reducible first | exact HB.out | apply below_alloc | apply pw_below_drewN | apply below_drew1 | refine below_set ?_ GE119.out | refine below_set ?_ GE120.out | refine below_set ?_ GE121.out) | exact HB.out))) : w.heap.size ≤ gb123)); have n7_ := Aside0.mk ((by rw [hg]; exact (below_size (by repeat (first | (with_reducible first | exact HB.out | apply below_alloc | apply pw_below_drewN | apply below_drew1 | refine below_set ?_ GE119.out | refine below_set ?_ GE120.out | refine below_set ?_ GE121.out) | exact HB.out))) : w.heap.size ≤ gb123)); have n8_ := Aside0.mk ((by rw [hg]; exact Nat.ne_of_lt (blk_lt (g := gb119) (o := .cells #[.int .i64 a0_0, .slice (some ad122) l0_1.length c0_1] 24 (0, 0)) (by (with_reducible repeat (first | refine blk_drewN ?_ _ | refine blk_drew ?_ | refine blk_alloc ?_ _)); exact BK119.out)) : gb119 ≠ gb123)); have n9_ := Aside0.mk ((by rw [hg]; exact Nat.ne_of_gt (blk_lt (g := gb119) (o := .cells #[.int .i64 a0_0, .slice (some ad122) l0_1.length c0_1] 24 (0, 0)) (by (with_reducible repeat (first | refine blk_drewN ?_ _ | refine blk_drew ?_ | refine blk_alloc ?_ _)); exact BK119.out)) : gb123 ≠ gb119)); have n10_ := Aside0.mk ((by rw [hg]; exact Nat.ne_of_lt (blk_lt (g := gb120) (o := .cells #[.int .i64 0, .slice none 0 0] 24 (0, 0)) (by (with_reducible repeat (first | refine blk_drewN ?_ _ | refine blk_drew ?_ | refine blk_alloc ?_ _)); exact BK120.out)) : gb120 ≠ gb123)); have n11_ := Aside0.mk ((by rw [hg]; exact Nat.ne_of_gt (blk_lt (g := gb120) (o := .cells #[.int .i64 0, .slice none 0 0] 24 (0, 0)) (by (with_reducible repeat (first | refine blk_drewN ?_ _ | refine blk_drew ?_ | refine blk_alloc ?_ _)); exact BK120.out)) : gb123 ≠ gb120)); have n12_ := Aside0.mk ((by rw [hg]; exact Nat.ne_of_lt (blk_lt (g := gb121) (o := .cells #[.int .i64 a0_0, u122001] 24 (0, 0)) (by (with_reducible repeat (first | refine blk_drewN ?_ _ | refine blk_drew ?_ | refine blk_alloc ?_ _)); exact BK121.out)) : gb121 ≠ gb123)); have n13_ := Aside0.mk ((by rw [hg]; exact Nat.ne_of_gt (blk_lt (g := gb121) (o := .cells #[.int .i64 a0_0, u122001] 24 (0, 0)) (by (with_reducible repeat (first | refine blk_drewN ?_ _ | refine blk_drew ?_ | refine blk_alloc ?_ _)); exact BK121.out)) : gb123 ≠ gb121)); clear HO_122001; clear BK119; clear BK120; clear BK121; clear HB; have HO_122001 := n0_; have BK119 := n1_; have BK120 := n2_; have BK121 := n3_; have HB := n4_; have BK123 := n5_; have GW123 := n6_; have GE123 := n7_; have NB119_123 := n8_; have NB123_119 := n9_; have NB120_123 := n10_; have NB123_120 := n11_; have NB121_123 := n12_; have NB123_121 := n13_; clear n0_ n1_ n2_ n3_ n4_ n5_ n6_ n7_ n8_ n9_ n10_ n11_ n12_ n13_; clear hb hbox hg; have hnb17 := NB123_119.out; have hnc17 := NB119_123.out; have hnb18 := NB123_120.out; have hnc18 := NB120_123.out; have hnb19 := NB123_121.out; have hnc19 := NB121_123.out; have hcz20_0 : w16.cell? ⟨gb123, 0, none⟩ = some (.int .u64 0) := (blk_cell BK123.out 0).trans rfl; have hcz20_1 : w16.cell? ⟨gb123, 1, none⟩ = some (.int .u64 0) := (blk_cell BK123.out 1).trans rfl; have hcz20_2 : w16.cell? ⟨gb123, 2, none⟩ = some (.int .i64 0) := (blk_cell BK123.out 2).trans rfl; have hcz20_3 : w16.cell? ⟨gb123, 3, none⟩ = some (.slice none 0 0) := (blk_cell BK123.out 3).trans rfl; have hfz20_0 := blk_frozen BK123.out 0; have hfz20_1 := blk_frozen BK123.out 1; have hfz20_2 := blk_frozen BK123.out 2; have hfz20_3 := blk_frozen BK123.out 3) | ((with_reducible refine gate_builtin (b := .append) (xs := #[.const (.slice none 0 0), .tmp 17]) rfl ?_); at_builtin; refine Kd.R_append_rows (Kd.int .i64) (w0 := w) w.heap.size rfl (.const (.slice none 0 0)) (.tmp 17) 40 3 (.int .i64 0) 8 rfl Try.underlying40 info3 rfl (by decide) (by omega) (.slice none 0 0) ([] : List Int) ((rd_T42 l0_1 x12_1).f3) _ _ _ (fun _ => True) (fun _ => False) rfl rfl ?aO ?aR (fun _ _ h => h) (fun _ h => h.elim) ?aF ?aB ?aS ?aL ?_; (case aR => exact Kd.C_below HR122_3.out (by repeat (first | (with_reducible first | exact HB.out | apply below_alloc | apply pw_below_drewN | apply below_drew1 | refine below_set ?_ GE119.out | refine below_set ?_ GE120.out | refine below_set ?_ GE121.out | refine below_set ?_ GE123.out) | exact HB.out))); (case aB => exact (by repeat (first | (with_reducible first | exact HB.out | apply below_alloc | apply pw_below_drewN | apply below_drew1 | refine below_set ?_ GE119.out | refine below_set ?_ GE120.out | refine below_set ?_ GE121.out | refine below_set ?_ GE123.out) | exact HB.out))); (case aF => exact (fun _ _ => trivial)); (case aO => exact ((Kd.R_nil _ _ _ _ (fun _ => True)))); (case aS => exact (below_size (by repeat (first | (with_reducible first | exact HB.out | apply below_alloc | apply pw_below_drewN | apply below_drew1 | refine below_set ?_ GE119.out | refine below_set ?_ GE120.out | refine below_set ?_ GE121.out | refine below_set ?_ GE123.out) | exact HB.out)))); (case aL => have := LMc14.out; omega); intro v125 w21 ho hb hg hat; rw [← Ny124.out] at ho; have n0_ := Aside0.mk (Kd.S_after (Kd.S_apart_nil (by (with_reducible repeat (first | apply Kd.S_alloc | apply Kd.S_drewN | apply Kd.S_drew)); exact (Kd.S_mono (Kd.S_far (p := ⟨gb123, 3, none⟩) (Kd.S_far (p := ⟨gb123, 2, none⟩) (Kd.S_far (p := ⟨gb123, 1, none⟩) (Kd.S_far (p := ⟨gb123, 0, none⟩) (Kd.S_mono HO_122001.out (fun k_ hk => (⟨hk, hk.2⟩ : _ ∧ k_ ≠ gb123))) (fun _ hk => hk.2) (.int .u64 ((rd_T42 l0_1 x12_1).f0))) (fun _ hk => hk.2) (.int .u64 ((rd_T42 l0_1 x12_1).f1))) (fun _ hk => hk.2) (.int .i64 ((rd_T42 l0_1 x12_1).f2))) (fun _ hk => hk.2) (.slice A122_3 ((rd_T42 l0_1 x12_1).f3).length c122_3)) (fun _ h_ => h_.1)))) hg hat); have n1_ := Aside0.mk (blk_grown (g := gb119) (o := .cells #[.int .i64 a0_0, .slice (some ad122) l0_1.length c0_1] 24 (0, 0)) (by (with_reducible repeat (first | refine blk_drewN ?_ _ | refine blk_drew ?_ | refine blk_alloc ?_ _)); refine blk_far ?_ NB119_123.out _; (with_reducible repeat (first | refine blk_drewN ?_ _ | refine blk_drew ?_ | refine blk_alloc ?_ _)); refine blk_far ?_ NB119_123.out _; (with_reducible repeat (first | refine blk_drewN ?_ _ | refine blk_drew ?_ | refine blk_alloc ?_ _)); refine blk_far ?_ NB119_123.out _; (with_reducible repeat (first | refine blk_drewN ?_ _ | refine blk_drew ?_ | refine blk_alloc ?_ _)); refine blk_far ?_ NB119_123.out _; (with_reducible repeat (first | refine blk_drewN ?_ _ | refine blk_drew ?_ | refine blk_alloc ?_ _)); exact BK119.out) hg (by simp [Value.ownBlock])); have n2_ := Aside0.mk (blk_grown (g := gb120) (o := .cells #[.int .i64 0, .slice none 0 0] 24 (0, 0)) (by (with_reducible repeat (first | refine blk_drewN ?_ _ | refine blk_drew ?_ | refine blk_alloc ?_ _)); refine blk_far ?_ NB120_123.out _; (with_reducible repeat (first | refine blk_drewN ?_ _ | refine blk_drew ?_ | refine blk_alloc ?_ _)); refine blk_far ?_ NB120_123.out _; (with_reducible repeat (first | refine blk_drewN ?_ _ | refine blk_drew ?_ | refine blk_alloc ?_ _)); refine blk_far ?_ NB120_123.out _; (with_reducible repeat (first | refine blk_drewN ?_ _ | refine blk_drew ?_ | refine blk_alloc ?_ _)); refine blk_far ?_ NB120_123.out _; (with_reducible repeat (first | refine blk_drewN ?_ _ | refine blk_drew ?_ | refine blk_alloc ?_ _)); exact BK120.out) hg (by simp [Value.ownBlock])); have n3_ := Aside0.mk (blk_grown (g := gb121) (o := .cells #[.int .i64 a0_0, u122001] 24 (0, 0)) (by (with_reducible repeat (first | refine blk_drewN ?_ _ | refine blk_drew ?_ | refine blk_alloc ?_ _)); refine blk_far ?_ NB121_123.out _; (with_reducible repeat (first | refine blk_drewN ?_ _ | refine blk_drew ?_ | refine blk_alloc ?_ _)); refine blk_far ?_ NB121_123.out _; (with_reducible repeat (first | refine blk_drewN ?_ _ | refine blk_drew ?_ | refine blk_alloc ?_ _)); refine blk_far ?_ NB121_123.out _; (with_reducible repeat (first | refine blk_drewN ?_ _ | refine blk_drew ?_ | refine blk_alloc ?_ _)); refine blk_far ?_ NB121_123.out _; (with_reducible repeat (first | refine blk_drewN ?_ _ | refine blk_drew ?_ | refine blk_alloc ?_ _)); exact BK121.out) hg (by simp [Value.ownBlock])); have n4_ := Aside0.mk (blk_grown (g := gb123) (o := .cells #[.int .u64 ((rd_T42 l0_1 x12_1).f0), .int .u64 ((rd_T42 l0_1 x12_1).f1), .int .i64 ((rd_T42 l0_1 x12_1).f2), .slice A122_3 ((rd_T42 l0_1 x12_1).f3).length c122_3] 42 (0, 0)) (by (with_reducible repeat (first | refine blk_drewN ?_ _ | refine blk_drew ?_ | refine blk_alloc ?_ _)); refine blk_put (cs := #[.int .u64 ((rd_T42 l0_1 x12_1).f0), .int .u64 ((rd_T42 l0_1 x12_1).f1), .int .i64 ((rd_T42 l0_1 x12_1).f2), .slice none 0 0]) ?_ 3 _ rfl; (with_reducible repeat (first | refine blk_drewN ?_ _ | refine blk_drew ?_ | refine blk_alloc ?_ _)); refine blk_put (cs := #[.int .u64 ((rd_T42 l0_1 x12_1).f0), .int .u64 ((rd_T42 l0_1 x12_1).f1), .int .i64 0, .slice none 0 0]) ?_ 2 _ rfl; (with_reducible repeat (first | refine blk_drewN ?_ _ | refine blk_drew ?_ | refine blk_alloc ?_ _)); refine blk_put (cs := #[.int .u64 ((rd_T42 l0_1 x12_1).f0), .int .u64 0, .int .i64 0, .slice none 0 0]) ?_ 1 _ rfl; (with_reducible repeat (first | refine blk_drewN ?_ _ | refine blk_drew ?_ | refine blk_alloc ?_ _)); refine blk_put (cs := #[.int .u64 0, .int .u64 0, .int .i64 0, .slice none 0 0]) ?_ 0 _ rfl; (with_reducible repeat (first | refine blk_drewN ?_ _ | refine blk_drew ?_ | refine blk_alloc ?_ _)); exact BK123.out) hg (by simp [Value.ownBlock])); have n5_ := Aside0.mk (hb); have n6_ := Aside0.mk (ho); clear HO_122001; clear BK119; clear BK120; clear BK121; clear BK123; clear HB; have HO_122001 := n0_; have BK119 := n1_; have BK120 := n2_; have BK121 := n3_; have BK123 := n4_; have HB := n5_; have HO126 := n6_; clear n0_ n1_ n2_ n3_ n4_ n5_ n6_; clear ho hb hg hat; obtain ⟨Ao22, co22, eo22⟩ := Kd.R_slice HO126.out; subst eo22; have hcz23_0 : w21.cell? ⟨gb123, 0, none⟩ = some (.int .u64 ((rd_T42 l0_1 x12_1).f0)) := (blk_cell BK123.out 0).trans rfl; have hcz23_1 : w21.cell? ⟨gb123, 1, none⟩ = some (.int .u64 ((rd_T42 l0_1 x12_1).f1)) := (blk_cell BK123.out 1).trans rfl; have hcz23_2 : w21.cell? ⟨gb123, 2, none⟩ = some (.int .i64 ((rd_T42 l0_1 x12_1).f2)) := (blk_cell BK123.out 2).trans rfl; have hcz23_3 : w21.cell? ⟨gb123, 3, none⟩ = some (.slice A122_3 ((rd_T42 l0_1 x12_1).f3).length c122_3) := (blk_cell BK123.out 3).trans rfl; have hfz23_0 := blk_frozen BK123.out 0; have hfz23_1 := blk_frozen BK123.out 1; have hfz23_2 := blk_frozen BK123.out 2; have hfz23_3 := blk_frozen BK123.out 3) | ((with_reducible refine gate_store (t := 40) (p := 19) rfl ?_); refine store_event (t := 40) (p := 19) (v := ?vo_w24) (w1 := (w21.setCell ⟨gb123, 3, none⟩ (.slice Ao22 y124.length co22))) ?hg ?ho ?hn ?hr ?_; (case ho => rfl); (case hg => rfl); (case hn => rfl); (case hr => first | (go_simp; done) | (go_simp; rfl)); intro w24 hw; have n0_ : Aside0 (Kd.S k42 42 w24 w.heap.size (fun k_ => some k_ ≠ (.slice Ao22 y124.length co22 : Value).ownBlock ∧ k_ ≠ gb123) u122001 x122001_1) := ⟨(by rw [hw]; exact (by (with_reducible repeat (first | apply Kd.S_alloc | apply Kd.S_drewN | apply Kd.S_drew)); exact Kd.S_mono (Kd.S_far (p := ⟨gb123, 3, none⟩) (Kd.S_mono HO_122001.out (fun k_ hk => (⟨hk, hk.1.2⟩ : _ ∧ k_ ≠ gb123))) (fun _ hk => hk.2) (.slice Ao22 y124.length co22)) (fun _ hk => ⟨hk.1.2, hk.1.1.2⟩)))⟩; have n1_ : Aside0 (Kd.R (Kd.int .i64) 3 w24 w.heap.size (fun _ => True) (.slice Ao22 y124.length co22) y124) := ⟨(by rw [hw]; exact (by (with_reducible repeat (first | apply Kd.R_alloc | apply Kd.R_drewN | apply Kd.R_drew)); exact Kd.R_mono (Kd.R_far (p := ⟨gb123, 3, none⟩) (Kd.R_types HO126.out BK123.out (by decide)) (fun _ hk => hk.2) (.slice Ao22 y124.length co22)) (fun _ hk => trivial)))⟩; have n2_ : Aside0 (w24.heap[gb119]? = some (.cells #[.int .i64 a0_0, .slice (some ad122) l0_1.length c0_1] 24 (0, 0))) := ⟨(by rw [hw]; exact (by (with_reducible repeat (first | refine blk_drewN ?_ _ | refine blk_drew ?_ | refine blk_alloc ?_ _)); refine blk_far ?_ NB119_123.out _; (with_reducible repeat (first | refine blk_drewN ?_ _ | refine blk_drew ?_ | refine blk_alloc ?_ _)); exact BK119.out))⟩; have n3_ : Aside0 (w24.heap[gb120]? = some (.cells #[.int .i64 0, .slice none 0 0] 24 (0, 0))) := ⟨(by rw [hw]; exact (by (with_reducible repeat (first | refine blk_drewN ?_ _ | refine blk_drew ?_ | refine blk_alloc ?_ _)); refine blk_far ?_ NB120_123.out _; (with_reducible repeat (first | refine blk_drewN ?_ _ | refine blk_drew ?_ | refine blk_alloc ?_ _)); exact BK120.out))⟩; have n4_ : Aside0 (w24.heap[gb121]? = some (.cells #[.int .i64 a0_0, u122001] 24 (0, 0))) := ⟨(by rw [hw]; exact (by (with_reducible repeat (first | refine blk_drewN ?_ _ | refine blk_drew ?_ | refine blk_alloc ?_ _)); refine blk_far ?_ NB121_123.out _; (with_reducible repeat (first | refine blk_drewN ?_ _ | refine blk_drew ?_ | refine blk_alloc ?_ _)); exact BK121.out))⟩; have n5_ : Aside0 (w24.heap[gb123]? = some (.cells #[.int .u64 ((rd_T42 l0_1 x12_1).f0), .int .u64 ((rd_T42 l0_1 x12_1).f1), .int .i64 ((rd_T42 l0_1 x12_1).f2), .slice Ao22 y124.length co22] 42 (0, 0))) := ⟨(by rw [hw]; exact (by (with_reducible repeat (first | refine blk_drewN ?_ _ | refine blk_drew ?_ | refine blk_alloc ?_ _)); refine blk_put (cs := #[.int .u64 ((rd_T42 l0_1 x12_1).f0), .int .u64 ((rd_T42 l0_1 x12_1).f1), .int .i64 ((rd_T42 l0_1 x12_1).f2), .slice A122_3 ((rd_T42 l0_1 x12_1).f3).length c122_3]) ?_ 3 _ rfl; (with_reducible repeat (first | refine blk_drewN ?_ _ | refine blk_drew ?_ | refine blk_alloc ?_ _)); exact BK123.out))⟩; have n6_ : Aside0 (Below w.heap.size w w24) := ⟨(by rw [hw]; exact (by repeat (first | (with_reducible first | exact HB.out | apply below_alloc | apply pw_below_drewN | apply below_drew1 | refine below_set ?_ GE119.out | refine below_set ?_ GE120.out | refine below_set ?_ GE121.out | refine below_set ?_ GE123.out) | exact HB.out)))⟩; clear hw; clear HO_122001; clear HO126; clear BK119; clear BK120; clear BK121; clear BK123; clear HB; have HO_122001 := n0_; have HO126 := n1_; have BK119 := n2_; have BK120 := n3_; have BK121 := n4_; have BK123 := n5_; have HB := n6_; clear n0_ n1_ n2_ n3_ n4_ n5_ n6_; have hnb25 := NB121_119.out; have hnc25 := NB119_121.out; have hnb26 := NB121_120.out; have hnc26 := NB120_121.out; have hcz27_0 : w24.cell? ⟨gb121, 0, none⟩ = some (.int .i64 a0_0) := (blk_cell BK121.out 0).trans rfl; have hcz27_1 : w24.cell? ⟨gb121, 1, none⟩ = some (u122001) := (blk_cell BK121.out 1).trans rfl; have hfz27_0 := blk_frozen BK121.out 0; have hfz27_1 := blk_frozen BK121.out 1; have hcz28_0 : w24.cell? ⟨gb123, 0, none⟩ = some (.int .u64 ((rd_T42 l0_1 x12_1).f0)) := (blk_cell BK123.out 0).trans rfl; have hcz28_1 : w24.cell? ⟨gb123, 1, none⟩ = some (.int .u64 ((rd_T42 l0_1 x12_1).f1)) := (blk_cell BK123.out 1).trans rfl; have hcz28_2 : w24.cell? ⟨gb123, 2, none⟩ = some (.int .i64 ((rd_T42 l0_1 x12_1).f2)) := (blk_cell BK123.out 2).trans rfl; have hcz28_3 : w24.cell? ⟨gb123, 3, none⟩ = some (.slice Ao22 y124.length co22) := (blk_cell BK123.out 3).trans rfl; have hfz28_0 := blk_frozen BK123.out 0; have hfz28_1 := blk_frozen BK123.out 1; have hfz28_2 := blk_frozen BK123.out 2; have hfz28_3 := blk_frozen BK123.out 3) | ((with_reducible refine gate_builtin (b := .append) (xs := #[.tmp 21, .tmp 23]) rfl ?_); at_builtin; refine Kd.S_append k42 (w0 := w) w.heap.size rfl (.tmp 21) (.tmp 23) 22 42 (.agg #[(.int .u64 0), (.int .u64 0), (.int .i64 0), (.slice none 0 0)]) 48 rfl Try.underlying22 info42 rfl (by decide) (by omega) u122001 x122001_1 (⟨(rd_T42 l0_1 x12_1).f0, (rd_T42 l0_1 x12_1).f1, (rd_T42 l0_1 x12_1).f2, y124⟩ : S42) [.int .u64 ((rd_T42 l0_1 x12_1).f0), .int .u64 ((rd_T42 l0_1 x12_1).f1), .int .i64 ((rd_T42 l0_1 x12_1).f2), .slice Ao22 y124.length co22] (fun k_ => k_ ≠ gb123) (fun k_ => some k_ = (.slice Ao22 y124.length co22 : Value).ownBlock) rfl rfl ?aP (fun k_ hk_ => ((Kd.R_mono (ok' := fun k_ => ((fun k_ => k_ ≠ gb123)) k_ ∧ some k_ ≠ (u122001 : Value).ownBlock) (Kd.R_types (Kd.R_apart' (HO126.out) (Kd.S_typed HO_122001.out) (by decide)) BK123.out (by decide)) (fun k_ hk => ⟨hk.2, hk.1.2⟩))).1 k_ hk_.symm) ?aF ?aO ?aB ?aS ?aL ?_; (case aP => exact k42_mkM _ _ _ (⟨(rd_T42 l0_1 x12_1).f0, (rd_T42 l0_1 x12_1).f1, (rd_T42 l0_1 x12_1).f2, y124⟩ : S42) (Kd.R_mono (Kd.R_tight rfl (Kd.R_mono (ok' := fun k_ => ((fun k_ => k_ ≠ gb123)) k_ ∧ some k_ ≠ (u122001 : Value).ownBlock) (Kd.R_types (Kd.R_apart' (HO126.out) (Kd.S_typed HO_122001.out) (by decide)) BK123.out (by decide)) (fun k_ hk => ⟨hk.2, hk.1.2⟩))) (fun _ h_ => h_))); (case aB => exact (by repeat (first | (with_reducible first | exact HB.out | apply below_alloc | apply pw_below_drewN | apply below_drew1 | refine below_set ?_ GE119.out | refine below_set ?_ GE120.out | refine below_set ?_ GE121.out | refine below_set ?_ GE123.out) | exact HB.out))); (case aF => exact (fun k_ hk => Kd.freshB (g := gb123) (o := .cells #[.int .u64 ((rd_T42 l0_1 x12_1).f0), .int .u64 ((rd_T42 l0_1 x12_1).f1), .int .i64 ((rd_T42 l0_1 x12_1).f2), .slice Ao22 y124.length co22] 42 (0, 0)) (by (with_reducible repeat (first | refine blk_drewN ?_ _ | refine blk_drew ?_ | refine blk_alloc ?_ _)); exact BK123.out) k_ hk)); (case aO => exact (by (with_reducible repeat (first | apply Kd.S_alloc | apply Kd.S_drewN | apply Kd.S_drew)); exact Kd.S_mono HO_122001.out (fun k_ hk => ⟨hk.2, fun e_ => hk.1 e_⟩))); (case aS => exact (below_size (by repeat (first | (with_reducible first | exact HB.out | apply below_alloc | apply pw_below_drewN | apply below_drew1 | refine below_set ?_ GE119.out | refine below_set ?_ GE120.out | refine below_set ?_ GE121.out | refine below_set ?_ GE123.out) | exact HB.out)))); (case aL => have := LMc15.out; omega); intro v128 w29 ho hb hg hat; rw [← Ny127.out] at ho; have n0_ := Aside0.mk (blk_grown (g := gb119) (o := .cells #[.int .i64 a0_0, .slice (some ad122) l0_1.length c0_1] 24 (0, 0)) (by (with_reducible repeat (first | refine blk_drewN ?_ _ | refine blk_drew ?_ | refine blk_alloc ?_ _)); exact BK119.out) hg (Kd.S_ne HO_122001.out BK119.out (by decide))); have n1_ := Aside0.mk (blk_grown (g := gb120) (o := .cells #[.int .i64 0, .slice none 0 0] 24 (0, 0)) (by (with_reducible repeat (first | refine blk_drewN ?_ _ | refine blk_drew ?_ | refine blk_alloc ?_ _)); exact BK120.out) hg (Kd.S_ne HO_122001.out BK120.out (by decide))); have n2_ := Aside0.mk (blk_grown (g := gb121) (o := .cells #[.int .i64 a0_0, u122001] 24 (0, 0)) (by (with_reducible repeat (first | refine blk_drewN ?_ _ | refine blk_drew ?_ | refine blk_alloc ?_ _)); exact BK121.out) hg (Kd.S_ne HO_122001.out BK121.out (by decide))); have n3_ := Aside0.mk (blk_grown (g := gb123) (o := .cells #[.int .u64 ((rd_T42 l0_1 x12_1).f0), .int .u64 ((rd_T42 l0_1 x12_1).f1), .int .i64 ((rd_T42 l0_1 x12_1).f2), .slice Ao22 y124.length co22] 42 (0, 0)) (by (with_reducible repeat (first | refine blk_drewN ?_ _ | refine blk_drew ?_ | refine blk_alloc ?_ _)); exact BK123.out) hg (Kd.S_away HO_122001.out (fun _ hk => hk.2))); have n4_ := Aside0.mk (hb); have n5_ := Aside0.mk (ho); clear BK119; clear BK120; clear BK121; clear BK123; clear HB; clear HO_122001; clear HO126; have BK119 := n0_; have BK120 := n1_; have BK121 := n2_; have BK123 := n3_; have HB := n4_; have HO129 := n5_; clear n0_ n1_ n2_ n3_ n4_ n5_; clear ho hb hg hat; obtain ⟨Ao30, co30, eo30⟩ := Kd.S_slice HO129.out; subst eo30; have hcz31_0 : w29.cell? ⟨gb121, 0, none⟩ = some (.int .i64 a0_0) := (blk_cell BK121.out 0).trans rfl; have hcz31_1 : w29.cell? ⟨gb121, 1, none⟩ = some (u122001) := (blk_cell BK121.out 1).trans rfl; have hfz31_0 := blk_frozen BK121.out 0; have hfz31_1 := blk_frozen BK121.out 1))
        go_roundg k1
        case measure => have := HK1.out; omega
        case rel => exact ⟨(wrap64 (x12_1 + 1)), (y127), (.slice Ao30 y127.length co30), (by first | rfl | (simp; done) | (simp [*]; done)), H', ⟨by have := HK1.out; omega⟩, ⟨by (with_reducible repeat (first | apply Kd.S_alloc | apply Kd.S_drewN | apply Kd.S_drew)); exact Kd.S_mono (Kd.S_far (p := ⟨gb121, 1, none⟩) (Kd.S_types HO129.out BK121.out (by decide)) (fun _ hk => hk.2) (.slice Ao30 y127.length co30)) (fun _ hk => trivial)⟩, ⟨by (with_reducible repeat (first | refine blk_drewN ?_ _ | refine blk_drew ?_ | refine blk_alloc ?_ _)); refine blk_far ?_ NB119_121.out _; (with_reducible repeat (first | refine blk_drewN ?_ _ | refine blk_drew ?_ | refine blk_alloc ?_ _)); exact BK119.out⟩, ⟨by (with_reducible repeat (first | refine blk_drewN ?_ _ | refine blk_drew ?_ | refine blk_alloc ?_ _)); refine blk_far ?_ NB120_121.out _; (with_reducible repeat (first | refine blk_drewN ?_ _ | refine blk_drew ?_ | refine blk_alloc ?_ _)); exact BK120.out⟩, ⟨by (with_reducible repeat (first | refine blk_drewN ?_ _ | refine blk_drew ?_ | refine blk_alloc ?_ _)); refine blk_put (cs := #[.int .i64 a0_0, u122001]) ?_ 1 _ rfl; (with_reducible repeat (first | refine blk_drewN ?_ _ | refine blk_drew ?_ | refine blk_alloc ?_ _)); exact BK121.out⟩, ⟨by repeat (first | (with_reducible first | exact HB.out | apply below_alloc | apply pw_below_drewN | apply below_drew1 | refine below_set ?_ GE119.out | refine below_set ?_ GE120.out | refine below_set ?_ GE121.out | refine below_set ?_ GE123.out) | exact HB.out)⟩⟩
       ·rw [if_neg c15] at H
        exact absurd H (by simp)
      ·rw [if_neg c14] at H
       exact absurd H (by simp)
     ·rw [if_neg c13] at H
      exact absurd H (by simp)
    ·rw [if_neg c12] at H
     exact absurd H (by simp)
   ·rw [if_neg c11] at H
    have c11b0 : decide (x12_1 < (l0_1.length : Int)) = false := decide_eq_false c11
    clear c11
    simp only [Option.some.injEq, Prod.mk.injEq] at H
    obtain ⟨rfl, rfl⟩ := H
    have hnb32 := NB121_119.out
    have hnc32 := NB119_121.out
    have hnb33 := NB121_120.out
    have hnc33 := NB120_121.out
    have hcz34_0 : wr.cell? ⟨gb121, 0, none⟩ = some (.int .i64 a0_0) := (blk_cell BK121.out 0).trans rfl
    have hcz34_1 : wr.cell? ⟨gb121, 1, none⟩ = some (u122001) := (blk_cell BK121.out 1).trans rfl
    have hfz34_0 := blk_frozen BK121.out 0
    have hfz34_1 := blk_frozen BK121.out 1
    have hnb35 := NB120_119.out
    have hnc35 := NB119_120.out
    have hcz36_0 : wr.cell? ⟨gb120, 0, none⟩ = some (.int .i64 0) := (blk_cell BK120.out 0).trans rfl
    have hcz36_1 : wr.cell? ⟨gb120, 1, none⟩ = some (.slice none 0 0) := (blk_cell BK120.out 1).trans rfl
    have hfz36_0 := blk_frozen BK120.out 0
    have hfz36_1 := blk_frozen BK120.out 1
    obtain ⟨Ao37, co37, eo37⟩ := Kd.S_slice HO_122001.out
    subst eo37
    go_wp2
    refine bodyPost_ret (results_cell_row rfl _ _ gb120 24 #[.int .i64 a0_0, .slice Ao37 x122001_1.length co37] (0, 0) _ rfl (by (with_reducible repeat (first | refine blk_drewN ?_ _ | refine blk_drew ?_ | refine blk_alloc ?_ _)); refine blk_put (cs := #[.int .i64 a0_0, .slice none 0 0]) ?_ 1 _ rfl; (with_reducible repeat (first | refine blk_drewN ?_ _ | refine blk_drew ?_ | refine blk_alloc ?_ _)); refine blk_put (cs := #[.int .i64 0, .slice none 0 0]) ?_ 0 _ rfl; (with_reducible repeat (first | refine blk_drewN ?_ _ | refine blk_drew ?_ | refine blk_alloc ?_ _)); exact BK120.out) Try.underlying24 rfl (by kernel_rfl)) rfl ?_
    exact ⟨_, by first | rfl | (simp [errW_none, errW_some] <;> rfl) | (simp [*, errW_none, errW_some] <;> rfl), by (with_reducible repeat (first | apply Kd.S_alloc | apply Kd.S_drewN | apply Kd.S_drew)); exact Kd.S_mono (Kd.S_far (p := ⟨gb120, 1, none⟩) (Kd.S_far (p := ⟨gb120, 0, none⟩) (Kd.S_types HO_122001.out BK120.out (by decide)) (fun _ hk => hk.2) (.int .i64 a0_0)) (fun _ hk => hk.2) (.slice Ao37 x122001_1.length co37)) (fun _ hk => trivial), by repeat (first | (with_reducible first | exact HB.out | apply below_alloc | apply pw_below_drewN | apply below_drew1 | refine below_set ?_ GE119.out | refine below_set ?_ GE120.out | refine below_set ?_ GE121.out) | exact HB.out)⟩

/-! ### meta_Apply: function 22 -/
def meta_Apply.g (n : Int) (l : List S42) (kd sd nd rv : Int) (s : S42) (i : Bool) : Option (Int × List S42 × Bool) :=
 if rv ≠ s.f0 then some (n, l, false) else if s.f0 ≥ 1152921504606846976 then some (n, l, false) else if s.f1 ≥ 1152921504606846976 then some (n, l, false)
 else if kd = 1 ∧ i = true then some (n, l.set sd.toNat ⟨IntKind.u64.wrap (s.f0 + 1), IntKind.u64.wrap (s.f1 + 1), nd, s.f3⟩, true)
 else if kd = 2 ∧ i = false then (if s.f3.length < 17592186044416 then (slices_Sort_int_int.f (s.f3 ++ [nd])).bind fun z => some (n, l.set sd.toNat ⟨IntKind.u64.wrap (s.f0 + 1), s.f1, s.f2, z⟩, true) else none)
 else if kd = 3 ∧ i = true ∧ nd ≠ s.f2 then (if s.f3 = [] then none else some (n, l.set sd.toNat ⟨IntKind.u64.wrap (s.f0 + 1), s.f1, s.f2, s.f3.filter fun x => !(x == nd)⟩, true))
 else some (n, l, false)
def meta_Apply.f (k : Nat) (a0_0 : Int) (l0_1 : List S42) (a1_0 a1_1 a1_2 a1_3 : Int) : Option (Int × List S42 × Bool) :=
 (meta_Copy.f k a0_0 l0_1).bind fun b => (meta_Form.f k a0_0 l0_1).bind fun t =>
  if t = true ∧ 0 ≤ a1_1 ∧ a1_1 < (l0_1.length : Int) ∧ 0 ≤ a1_2 ∧ a1_2 < a0_0 then
   (if a1_1 < (b.2.length : Int) then (slices_Contains_int_int.f k (rd_T42 b.2 a1_1).f3 a1_2).bind fun i => meta_Apply.g b.1 b.2 a1_0 a1_1 a1_2 a1_3 (rd_T42 b.2 a1_1) i else none)
  else some (b.1, b.2, false)
theorem meta_Apply.elem {W : World} {base : Nat} {ok : Nat → Prop} {g n cap : Nat} {xs : List S42} (h : Kd.S k42 42 W base ok (.slice (some ⟨g, 0, none⟩) n cap) xs) (i : Nat) (hi : i < n) :
  ∃ (oki : Nat → Prop) (vi : Value), (Kd.int .i64).R 3 W base oki vi (rd_T42 xs i).f3 ∧ (∀ k, oki k → ok k ∧ k ≠ g) ∧
   Kd.H k42 42 W base ok (.slice (some ⟨g, 0, none⟩) n cap) xs (i : Int) oki [.int .u64 (rd_T42 xs i).f0, .int .u64 (rd_T42 xs i).f1, .int .i64 (rd_T42 xs i).f2, vi] ∧
   W.cell? ⟨g, i * 4, none⟩ = some (.int .u64 (rd_T42 xs i).f0) ∧ W.cell? ⟨g, i * 4 + 1, none⟩ = some (.int .u64 (rd_T42 xs i).f1) ∧ W.cell? ⟨g, i * 4 + 2, none⟩ = some (.int .i64 (rd_T42 xs i).f2) ∧ W.cell? ⟨g, i * 4 + 3, none⟩ = some vi ∧ (∀ j, W.frozen? ⟨g, i * 4 + j, none⟩ = false) := by
 obtain ⟨oki, c, hcl, hM, hcc, hfr, hoki, hH⟩ := Kd.S_elem h z42 (i : Int) (by omega) (by omega)
 obtain ⟨vi, rfl, hR⟩ := k42_openM hM
 simp only [Int.toNat_natCast] at hcc hfr
 exact ⟨oki, vi, hR, hoki, hH, hcc 0 _ rfl, hcc 1 _ rfl, hcc 2 _ rfl, hcc 3 _ rfl, hfr⟩
theorem meta_Apply.set {W : World} {base : Nat} {ok oki : Nat → Prop} {g n cap : Nat} {xs : List S42} {i : Nat} {c : List Value} (h : Kd.H k42 42 W base ok (.slice (some ⟨g, 0, none⟩) n cap) xs (i : Int) oki c) (hi : i < n) (j : Nat) (hj : j < 4) (hc : c.length = 4) (u : Value) (hu : u.oneCell' = true) :
  Kd.H k42 42 (W.setCell ⟨g, i * 4 + j, none⟩ u) base ok (.slice (some ⟨g, 0, none⟩) n cap) xs (i : Int) oki (c.set j u) := by
 have h2 := (Kd.H_seg h (by omega) (by omega) (seg := [u]) (j := j) (show j + 1 ≤ 4 by omega) (by simpa using hu)).1
 have e : c.take j ++ [u] ++ c.drop (j + [u].length) = c.set j u := by
  rw [List.set_eq_take_append_cons_drop, if_pos (by omega)]; simp
 rw [e] at h2
 exact h2
theorem meta_Apply.cells {W : World} {base : Nat} {ok oki : Nat → Prop} {g n cap : Nat} {xs : List S42} {i : Nat} {c : List Value} (h : Kd.H k42 42 W base ok (.slice (some ⟨g, 0, none⟩) n cap) xs (i : Int) oki c) (hi : i < n) (j : Nat) (u : Value) (hu : c[j]? = some u) : W.cell? ⟨g, i * 4 + j, none⟩ = some u := by
 obtain ⟨_, _, _, _, _, hcc, _⟩ := Kd.H_raw h (by omega) (by omega)
 have := hcc j u hu
 simp only [Int.toNat_natCast] at this
 exact this
theorem meta_Apply.back {W : World} {base : Nat} {ok oki : Nat → Prop} {g n cap : Nat} {xs : List S42} {i : Nat} {a b d : Int} {vi : Value} {l : List Int} (h : Kd.H k42 42 W base ok (.slice (some ⟨g, 0, none⟩) n cap) xs (i : Int) oki [.int .u64 a, .int .u64 b, .int .i64 d, vi]) (hR : (Kd.int .i64).R 3 W base oki vi l) :
  Kd.S k42 42 W base ok (.slice (some ⟨g, 0, none⟩) n cap) (xs.set i ⟨a, b, d, l⟩) := by
 have := Kd.H_back h (k42_mkM W base oki ⟨a, b, d, l⟩ hR) (fun _ hk => hk)
 simpa using this
set_option maxHeartbeats 8000000 in
set_option maxRecDepth 100000 in
theorem meta_Apply.no (k : Nat) (a0_0 : Int) (A0_1 : Option Addr) (c0_1 : Nat) (l0_1 : List (S42)) (a1_0 a1_1 a1_2 a1_3 : Int) (t1 : Int) (sh : List S42) (w : World) (hr : Kd.C k42 w A0_1 l0_1.length l0_1) (hc : l0_1.length ≤ c0_1) (ha : meta_Copy.f k a0_0 l0_1 = some (t1, sh)) (fm : Bool) (hf : meta_Form.f k a0_0 l0_1 = some fm) (hn : ¬ (fm = true ∧ 0 ≤ a1_1 ∧ a1_1 < (l0_1.length : Int) ∧ 0 ≤ a1_2 ∧ a1_2 < a0_0)) :
  Calls Try.prog 22 #[.agg #[.int .i64 a0_0, .slice A0_1 l0_1.length c0_1], .agg #[.int .u8 a1_0, .int .i64 a1_1, .int .i64 a1_2, .int .u64 a1_3]] w fun e w' => ∃ v1_ : Value, e = .returned (.tuple #[.agg #[.int .i64 t1, v1_], .bool false]) ∧ Kd.S k42 42 w' w.heap.size (fun _ => True) v1_ sh ∧ Below w.heap.size w w' := by
 have hu24 := Try.underlying24
 have hu39 := Try.underlying39
 have HR := Aside0.mk hr
 have HC := Aside0.mk hc
 have HA := Aside0.mk ha
 clear hr hc ha
 have HB := Aside0.mk (Below.refl w.heap.size w)
 have HF := Aside0.mk hf
 clear hf
 have HN := Aside0.mk hn
 clear hn
 go_enter Try.func22, Try.ntmps22
 go_upto_region 2 with (first | ((with_reducible refine gate_dst (N := 2) rfl ?_); refine box_event ?hg (N := 2) ?hd (cs := #[.int .i64 a0_0, .slice A0_1 l0_1.length c0_1]) (t := 24) ?hr ?_; (case hd => rfl); (case hg => rfl); (case hr => first | (go_simp; done) | (go_simp; rfl)); intro b2 hg w2 hbox hb; have GE2 := Aside0.mk (show w.heap.size ≤ b2 by rw [hg]; exact HB.out.size); have m_ := Aside0.mk (below_step HB.out hb); clear HB; have HB := m_; clear m_; have BK2 := Aside0.mk hbox; clear hb hbox hg) | ((with_reducible refine gate_dst (N := 3) rfl ?_); refine box_event ?hg (N := 3) ?hd (cs := #[.int .u8 a1_0, .int .i64 a1_1, .int .i64 a1_2, .int .u64 a1_3]) (t := 39) ?hr ?_; (case hd => rfl); (case hg => rfl); (case hr => first | (go_simp; done) | (go_simp; rfl)); intro b3 hg w3 hbox hb; have L2_3 := Aside0.mk (show b2 < b3 by rw [hg]; exact blk_lt BK2.out); have m_ := Aside0.mk (blk_below BK2.out hb); clear BK2; have BK2 := m_; clear m_; have GE3 := Aside0.mk (show w.heap.size ≤ b3 by rw [hg]; exact HB.out.size); have m_ := Aside0.mk (below_step HB.out hb); clear HB; have HB := m_; clear m_; have BK3 := Aside0.mk hbox; clear hb hbox hg) | ((with_reducible refine gate_dst (N := 4) rfl ?_); refine box_event ?hg (N := 4) ?hd (cs := #[.int .i64 0, .slice none 0 0]) (t := 24) ?hr ?_; (case hd => rfl); (case hg => rfl); (case hr => first | (go_simp; done) | (go_simp; rfl)); intro b4 hg w4 hbox hb; have L2_4 := Aside0.mk (show b2 < b4 by rw [hg]; exact blk_lt BK2.out); have m_ := Aside0.mk (blk_below BK2.out hb); clear BK2; have BK2 := m_; clear m_; have L3_4 := Aside0.mk (show b3 < b4 by rw [hg]; exact blk_lt BK3.out); have m_ := Aside0.mk (blk_below BK3.out hb); clear BK3; have BK3 := m_; clear m_; have GE4 := Aside0.mk (show w.heap.size ≤ b4 by rw [hg]; exact HB.out.size); have m_ := Aside0.mk (below_step HB.out hb); clear HB; have HB := m_; clear m_; have BK4 := Aside0.mk hbox; clear hb hbox hg; have hz2_0 : w4.cell? ⟨b2, 0, none⟩ = some (.int .i64 a0_0) := (blk_cell BK2.out 0).trans rfl; have hz2_1 : w4.cell? ⟨b2, 1, none⟩ = some (.slice A0_1 l0_1.length c0_1) := (blk_cell BK2.out 1).trans rfl; have hy2_0 := blk_frozen BK2.out 0; have hy2_1 := blk_frozen BK2.out 1) | ((with_reducible refine gate_callee (f := 21) rfl ?_); refine goesL_ (some 10) rfl rfl Try.func21 (by kernel_rfl) rfl #[.agg #[.int .i64 a0_0, .slice A0_1 l0_1.length c0_1]] rfl (by (try simp only [List.map_toArray, List.map_cons, List.map_nil]); first | done | rfl) ?_; (with_reducible refine (meta_Copy.calls k a0_0 _ _ l0_1 t1 sh _ ?side1 ?side2 HA.out).mono ?_); (case side1 => exact (Kd.C_below HR.out HB.out)); (case side2 => exact HC.out); rintro e w5 ⟨v1, rfl, ho0, hb⟩; refine ⟨_, rfl, ?_⟩; have HO := Aside0.mk (Kd.S_lower ho0 HB.out.size); have m_ := Aside0.mk (blk_below BK2.out hb); clear BK2; have BK2 := m_; clear m_; have m_ := Aside0.mk (blk_below BK3.out hb); clear BK3; have BK3 := m_; clear m_; have m_ := Aside0.mk (blk_below BK4.out hb); clear BK4; have BK4 := m_; clear m_; have m_ := Aside0.mk (below_step HB.out hb); clear HB; have HB := m_; clear m_; clear hb ho0) | ((with_reducible refine gate_dst (N := 6) rfl ?_); refine box_event ?hg (N := 6) ?hd (cs := #[.int .i64 0, .slice none 0 0]) (t := 24) ?hr ?_; (case hd => rfl); (case hg => rfl); (case hr => first | (go_simp; done) | (go_simp; rfl)); intro b6 hg w6 hbox hb; have L2_6 := Aside0.mk (show b2 < b6 by rw [hg]; exact blk_lt BK2.out); have m_ := Aside0.mk (blk_below BK2.out hb); clear BK2; have BK2 := m_; clear m_; have L3_6 := Aside0.mk (show b3 < b6 by rw [hg]; exact blk_lt BK3.out); have m_ := Aside0.mk (blk_below BK3.out hb); clear BK3; have BK3 := m_; clear m_; have L4_6 := Aside0.mk (show b4 < b6 by rw [hg]; exact blk_lt BK4.out); have m_ := Aside0.mk (blk_below BK4.out hb); clear BK4; have BK4 := m_; clear m_; have m_ := Aside0.mk (Kd.S_below HO.out hb); clear HO; have HO := m_; clear m_; have GE6 := Aside0.mk (show w.heap.size ≤ b6 by rw [hg]; exact HB.out.size); have m_ := Aside0.mk (below_step HB.out hb); clear HB; have HB := m_; clear m_; have BK6 := Aside0.mk hbox; clear hb hbox hg; have hz6_0 : w6.cell? ⟨b6, 0, none⟩ = some (.int .i64 0) := (blk_cell BK6.out 0).trans rfl; have hz6_1 : w6.cell? ⟨b6, 1, none⟩ = some (.slice none 0 0) := (blk_cell BK6.out 1).trans rfl; have hy6_0 := blk_frozen BK6.out 0; have hy6_1 := blk_frozen BK6.out 1; obtain ⟨ao, co, eo⟩ := Kd.S_slice HO.out; subst eo))
 have m2_ := Aside0.mk (show ((w6.setCell ⟨b6, 0, none⟩ (.int .i64 t1)).setCell ⟨b6, 1, none⟩ (.slice ao sh.length co)).heap[b2]? = some (.cells #[.int .i64 a0_0, .slice A0_1 l0_1.length c0_1] 24 (0, 0)) from blk_far (blk_far BK2.out (Nat.ne_of_lt L2_6.out) _) (Nat.ne_of_lt L2_6.out) _)
 have m3_ := Aside0.mk (show ((w6.setCell ⟨b6, 0, none⟩ (.int .i64 t1)).setCell ⟨b6, 1, none⟩ (.slice ao sh.length co)).heap[b3]? = some (.cells #[.int .u8 a1_0, .int .i64 a1_1, .int .i64 a1_2, .int .u64 a1_3] 39 (0, 0)) from blk_far (blk_far BK3.out (Nat.ne_of_lt L3_6.out) _) (Nat.ne_of_lt L3_6.out) _)
 have m4_ := Aside0.mk (show ((w6.setCell ⟨b6, 0, none⟩ (.int .i64 t1)).setCell ⟨b6, 1, none⟩ (.slice ao sh.length co)).heap[b4]? = some (.cells #[.int .i64 0, .slice none 0 0] 24 (0, 0)) from blk_far (blk_far BK4.out (Nat.ne_of_lt L4_6.out) _) (Nat.ne_of_lt L4_6.out) _)
 have m6_ := Aside0.mk (show ((w6.setCell ⟨b6, 0, none⟩ (.int .i64 t1)).setCell ⟨b6, 1, none⟩ (.slice ao sh.length co)).heap[b6]? = some (.cells #[.int .i64 t1, .slice ao sh.length co] 24 (0, 0)) from blk_put (blk_put BK6.out 0 _ rfl) 1 _ rfl)
 have m7_ := Aside0.mk (show Kd.S k42 42 ((w6.setCell ⟨b6, 0, none⟩ (.int .i64 t1)).setCell ⟨b6, 1, none⟩ (.slice ao sh.length co)) w.heap.size (fun _ => True) (.slice ao sh.length co) sh from Kd.S_set (Kd.S_set HO.out BK6.out (by decide) 0 _) (blk_put BK6.out 0 (.int .i64 t1) rfl) (by decide) 1 _)
 have m8_ := Aside0.mk (show Below w.heap.size w ((w6.setCell ⟨b6, 0, none⟩ (.int .i64 t1)).setCell ⟨b6, 1, none⟩ (.slice ao sh.length co)) from below_set (below_set HB.out GE6.out) GE6.out)
 clear BK2 BK3 BK4 BK6 HO HB hz2_0 hz2_1 hy2_0 hy2_1 hz6_0 hz6_1 hy6_0 hy6_1
 generalize ((w6.setCell ⟨b6, 0, none⟩ (.int .i64 t1)).setCell ⟨b6, 1, none⟩ (.slice ao sh.length co)) = wa at *
 have BK2 := m2_; have BK3 := m3_; have BK4 := m4_; have BK6 := m6_; have HO := m7_; have HB := m8_; clear m2_ m3_ m4_ m6_ m7_ m8_
 have hza2_0 : wa.cell? ⟨b2, 0, none⟩ = some (.int .i64 a0_0) := (blk_cell BK2.out 0).trans rfl
 have hya2_0 : wa.frozen? ⟨b2, 0, none⟩ = false := blk_frozen BK2.out 0
 have hza2_1 : wa.cell? ⟨b2, 1, none⟩ = some (.slice A0_1 l0_1.length c0_1) := (blk_cell BK2.out 1).trans rfl
 have hya2_1 : wa.frozen? ⟨b2, 1, none⟩ = false := blk_frozen BK2.out 1
 cases fm with
 | false =>
  go_wp2_with (first | ((with_reducible refine gate_callee (f := 19) rfl ?_); refine goesL_ (some 12) rfl rfl Try.func19 (by kernel_rfl) rfl #[.agg #[.int .i64 a0_0, .slice A0_1 l0_1.length c0_1]] rfl (by (try simp only [List.map_toArray, List.map_cons, List.map_nil]); first | done | rfl) ?_; (with_reducible refine (meta_Form.calls k a0_0 _ _ l0_1 _ _ ?side1 ?side2 HF.out).mono ?_); (case side1 => exact (Kd.C_below HR.out HB.out)); (case side2 => exact HC.out); rintro e w7 ⟨rfl, hb⟩; refine ⟨_, rfl, ?_⟩; have m_ := Aside0.mk (blk_below BK2.out hb); clear BK2; have BK2 := m_; clear m_; have m_ := Aside0.mk (blk_below BK3.out hb); clear BK3; have BK3 := m_; clear m_; have m_ := Aside0.mk (blk_below BK4.out hb); clear BK4; have BK4 := m_; clear m_; have m_ := Aside0.mk (blk_below BK6.out hb); clear BK6; have BK6 := m_; clear m_; have m_ := Aside0.mk (Kd.S_below HO.out hb); clear HO; have HO := m_; clear m_; have m_ := Aside0.mk (below_step HB.out hb); clear HB; have HB := m_; clear m_; clear hb; have hzf2_0 : w7.cell? ⟨b2, 0, none⟩ = some (.int .i64 a0_0) := (blk_cell BK2.out 0).trans rfl; have hyf2_0 : w7.frozen? ⟨b2, 0, none⟩ = false := blk_frozen BK2.out 0; have hzf2_1 : w7.cell? ⟨b2, 1, none⟩ = some (.slice A0_1 l0_1.length c0_1) := (blk_cell BK2.out 1).trans rfl; have hyf2_1 : w7.frozen? ⟨b2, 1, none⟩ = false := blk_frozen BK2.out 1; have hzf3_0 : w7.cell? ⟨b3, 0, none⟩ = some (.int .u8 a1_0) := (blk_cell BK3.out 0).trans rfl; have hyf3_0 : w7.frozen? ⟨b3, 0, none⟩ = false := blk_frozen BK3.out 0; have hzf3_1 : w7.cell? ⟨b3, 1, none⟩ = some (.int .i64 a1_1) := (blk_cell BK3.out 1).trans rfl; have hyf3_1 : w7.frozen? ⟨b3, 1, none⟩ = false := blk_frozen BK3.out 1; have hzf3_2 : w7.cell? ⟨b3, 2, none⟩ = some (.int .i64 a1_2) := (blk_cell BK3.out 2).trans rfl; have hyf3_2 : w7.frozen? ⟨b3, 2, none⟩ = false := blk_frozen BK3.out 2; have hzf3_3 : w7.cell? ⟨b3, 3, none⟩ = some (.int .u64 a1_3) := (blk_cell BK3.out 3).trans rfl; have hyf3_3 : w7.frozen? ⟨b3, 3, none⟩ = false := blk_frozen BK3.out 3; have hzf4_0 : w7.cell? ⟨b4, 0, none⟩ = some (.int .i64 0) := (blk_cell BK4.out 0).trans rfl; have hyf4_0 : w7.frozen? ⟨b4, 0, none⟩ = false := blk_frozen BK4.out 0; have hzf4_1 : w7.cell? ⟨b4, 1, none⟩ = some (.slice none 0 0) := (blk_cell BK4.out 1).trans rfl; have hyf4_1 : w7.frozen? ⟨b4, 1, none⟩ = false := blk_frozen BK4.out 1; have hzf6_0 : w7.cell? ⟨b6, 0, none⟩ = some (.int .i64 t1) := (blk_cell BK6.out 0).trans rfl; have hyf6_0 : w7.frozen? ⟨b6, 0, none⟩ = false := blk_frozen BK6.out 0; have hzf6_1 : w7.cell? ⟨b6, 1, none⟩ = some (.slice ao sh.length co) := (blk_cell BK6.out 1).trans rfl; have hyf6_1 : w7.frozen? ⟨b6, 1, none⟩ = false := blk_frozen BK6.out 1; have hne := Nat.ne_of_lt L4_6.out; have hne' := (Nat.ne_of_lt L4_6.out).symm))
  refine bodyPost_ret (results_ct rfl _ _ b4 24 #[.int .i64 t1, .slice ao sh.length co] (0, 0) _ rfl (blk_put (blk_put BK4.out 0 _ rfl) 1 _ rfl) Try.underlying24 rfl (by kernel_rfl)) rfl ?_
  exact ⟨_, rfl, Kd.S_set (Kd.S_set HO.out BK4.out (by decide) 0 _) (blk_put BK4.out 0 (.int .i64 t1) rfl) (by decide) 1 _, below_set (below_set HB.out GE4.out) GE4.out⟩
 | true =>
  by_cases c1 : a1_1 < 0
  ·have d1 : decide (a1_1 < 0) = true := decide_eq_true c1
   clear c1
   go_wp2_with (first | ((with_reducible refine gate_callee (f := 19) rfl ?_); refine goesL_ (some 12) rfl rfl Try.func19 (by kernel_rfl) rfl #[.agg #[.int .i64 a0_0, .slice A0_1 l0_1.length c0_1]] rfl (by (try simp only [List.map_toArray, List.map_cons, List.map_nil]); first | done | rfl) ?_; (with_reducible refine (meta_Form.calls k a0_0 _ _ l0_1 _ _ ?side1 ?side2 HF.out).mono ?_); (case side1 => exact (Kd.C_below HR.out HB.out)); (case side2 => exact HC.out); rintro e w7 ⟨rfl, hb⟩; refine ⟨_, rfl, ?_⟩; have m_ := Aside0.mk (blk_below BK2.out hb); clear BK2; have BK2 := m_; clear m_; have m_ := Aside0.mk (blk_below BK3.out hb); clear BK3; have BK3 := m_; clear m_; have m_ := Aside0.mk (blk_below BK4.out hb); clear BK4; have BK4 := m_; clear m_; have m_ := Aside0.mk (blk_below BK6.out hb); clear BK6; have BK6 := m_; clear m_; have m_ := Aside0.mk (Kd.S_below HO.out hb); clear HO; have HO := m_; clear m_; have m_ := Aside0.mk (below_step HB.out hb); clear HB; have HB := m_; clear m_; clear hb; have hzf2_0 : w7.cell? ⟨b2, 0, none⟩ = some (.int .i64 a0_0) := (blk_cell BK2.out 0).trans rfl; have hyf2_0 : w7.frozen? ⟨b2, 0, none⟩ = false := blk_frozen BK2.out 0; have hzf2_1 : w7.cell? ⟨b2, 1, none⟩ = some (.slice A0_1 l0_1.length c0_1) := (blk_cell BK2.out 1).trans rfl; have hyf2_1 : w7.frozen? ⟨b2, 1, none⟩ = false := blk_frozen BK2.out 1; have hzf3_0 : w7.cell? ⟨b3, 0, none⟩ = some (.int .u8 a1_0) := (blk_cell BK3.out 0).trans rfl; have hyf3_0 : w7.frozen? ⟨b3, 0, none⟩ = false := blk_frozen BK3.out 0; have hzf3_1 : w7.cell? ⟨b3, 1, none⟩ = some (.int .i64 a1_1) := (blk_cell BK3.out 1).trans rfl; have hyf3_1 : w7.frozen? ⟨b3, 1, none⟩ = false := blk_frozen BK3.out 1; have hzf3_2 : w7.cell? ⟨b3, 2, none⟩ = some (.int .i64 a1_2) := (blk_cell BK3.out 2).trans rfl; have hyf3_2 : w7.frozen? ⟨b3, 2, none⟩ = false := blk_frozen BK3.out 2; have hzf3_3 : w7.cell? ⟨b3, 3, none⟩ = some (.int .u64 a1_3) := (blk_cell BK3.out 3).trans rfl; have hyf3_3 : w7.frozen? ⟨b3, 3, none⟩ = false := blk_frozen BK3.out 3; have hzf4_0 : w7.cell? ⟨b4, 0, none⟩ = some (.int .i64 0) := (blk_cell BK4.out 0).trans rfl; have hyf4_0 : w7.frozen? ⟨b4, 0, none⟩ = false := blk_frozen BK4.out 0; have hzf4_1 : w7.cell? ⟨b4, 1, none⟩ = some (.slice none 0 0) := (blk_cell BK4.out 1).trans rfl; have hyf4_1 : w7.frozen? ⟨b4, 1, none⟩ = false := blk_frozen BK4.out 1; have hzf6_0 : w7.cell? ⟨b6, 0, none⟩ = some (.int .i64 t1) := (blk_cell BK6.out 0).trans rfl; have hyf6_0 : w7.frozen? ⟨b6, 0, none⟩ = false := blk_frozen BK6.out 0; have hzf6_1 : w7.cell? ⟨b6, 1, none⟩ = some (.slice ao sh.length co) := (blk_cell BK6.out 1).trans rfl; have hyf6_1 : w7.frozen? ⟨b6, 1, none⟩ = false := blk_frozen BK6.out 1; have hne := Nat.ne_of_lt L4_6.out; have hne' := (Nat.ne_of_lt L4_6.out).symm))
   refine bodyPost_ret (results_ct rfl _ _ b4 24 #[.int .i64 t1, .slice ao sh.length co] (0, 0) _ rfl (blk_put (blk_put BK4.out 0 _ rfl) 1 _ rfl) Try.underlying24 rfl (by kernel_rfl)) rfl ?_
   exact ⟨_, rfl, Kd.S_set (Kd.S_set HO.out BK4.out (by decide) 0 _) (blk_put BK4.out 0 (.int .i64 t1) rfl) (by decide) 1 _, below_set (below_set HB.out GE4.out) GE4.out⟩
  ·have d1 : decide (a1_1 < 0) = false := decide_eq_false c1
   by_cases c2 : (l0_1.length : Int) ≤ a1_1
   ·have d2 : decide ((l0_1.length : Int) ≤ a1_1) = true := decide_eq_true c2
    clear c1 c2
    go_wp2_with (first | ((with_reducible refine gate_callee (f := 19) rfl ?_); refine goesL_ (some 12) rfl rfl Try.func19 (by kernel_rfl) rfl #[.agg #[.int .i64 a0_0, .slice A0_1 l0_1.length c0_1]] rfl (by (try simp only [List.map_toArray, List.map_cons, List.map_nil]); first | done | rfl) ?_; (with_reducible refine (meta_Form.calls k a0_0 _ _ l0_1 _ _ ?side1 ?side2 HF.out).mono ?_); (case side1 => exact (Kd.C_below HR.out HB.out)); (case side2 => exact HC.out); rintro e w7 ⟨rfl, hb⟩; refine ⟨_, rfl, ?_⟩; have m_ := Aside0.mk (blk_below BK2.out hb); clear BK2; have BK2 := m_; clear m_; have m_ := Aside0.mk (blk_below BK3.out hb); clear BK3; have BK3 := m_; clear m_; have m_ := Aside0.mk (blk_below BK4.out hb); clear BK4; have BK4 := m_; clear m_; have m_ := Aside0.mk (blk_below BK6.out hb); clear BK6; have BK6 := m_; clear m_; have m_ := Aside0.mk (Kd.S_below HO.out hb); clear HO; have HO := m_; clear m_; have m_ := Aside0.mk (below_step HB.out hb); clear HB; have HB := m_; clear m_; clear hb; have hzf2_0 : w7.cell? ⟨b2, 0, none⟩ = some (.int .i64 a0_0) := (blk_cell BK2.out 0).trans rfl; have hyf2_0 : w7.frozen? ⟨b2, 0, none⟩ = false := blk_frozen BK2.out 0; have hzf2_1 : w7.cell? ⟨b2, 1, none⟩ = some (.slice A0_1 l0_1.length c0_1) := (blk_cell BK2.out 1).trans rfl; have hyf2_1 : w7.frozen? ⟨b2, 1, none⟩ = false := blk_frozen BK2.out 1; have hzf3_0 : w7.cell? ⟨b3, 0, none⟩ = some (.int .u8 a1_0) := (blk_cell BK3.out 0).trans rfl; have hyf3_0 : w7.frozen? ⟨b3, 0, none⟩ = false := blk_frozen BK3.out 0; have hzf3_1 : w7.cell? ⟨b3, 1, none⟩ = some (.int .i64 a1_1) := (blk_cell BK3.out 1).trans rfl; have hyf3_1 : w7.frozen? ⟨b3, 1, none⟩ = false := blk_frozen BK3.out 1; have hzf3_2 : w7.cell? ⟨b3, 2, none⟩ = some (.int .i64 a1_2) := (blk_cell BK3.out 2).trans rfl; have hyf3_2 : w7.frozen? ⟨b3, 2, none⟩ = false := blk_frozen BK3.out 2; have hzf3_3 : w7.cell? ⟨b3, 3, none⟩ = some (.int .u64 a1_3) := (blk_cell BK3.out 3).trans rfl; have hyf3_3 : w7.frozen? ⟨b3, 3, none⟩ = false := blk_frozen BK3.out 3; have hzf4_0 : w7.cell? ⟨b4, 0, none⟩ = some (.int .i64 0) := (blk_cell BK4.out 0).trans rfl; have hyf4_0 : w7.frozen? ⟨b4, 0, none⟩ = false := blk_frozen BK4.out 0; have hzf4_1 : w7.cell? ⟨b4, 1, none⟩ = some (.slice none 0 0) := (blk_cell BK4.out 1).trans rfl; have hyf4_1 : w7.frozen? ⟨b4, 1, none⟩ = false := blk_frozen BK4.out 1; have hzf6_0 : w7.cell? ⟨b6, 0, none⟩ = some (.int .i64 t1) := (blk_cell BK6.out 0).trans rfl; have hyf6_0 : w7.frozen? ⟨b6, 0, none⟩ = false := blk_frozen BK6.out 0; have hzf6_1 : w7.cell? ⟨b6, 1, none⟩ = some (.slice ao sh.length co) := (blk_cell BK6.out 1).trans rfl; have hyf6_1 : w7.frozen? ⟨b6, 1, none⟩ = false := blk_frozen BK6.out 1; have hne := Nat.ne_of_lt L4_6.out; have hne' := (Nat.ne_of_lt L4_6.out).symm))
    refine bodyPost_ret (results_ct rfl _ _ b4 24 #[.int .i64 t1, .slice ao sh.length co] (0, 0) _ rfl (blk_put (blk_put BK4.out 0 _ rfl) 1 _ rfl) Try.underlying24 rfl (by kernel_rfl)) rfl ?_
    exact ⟨_, rfl, Kd.S_set (Kd.S_set HO.out BK4.out (by decide) 0 _) (blk_put BK4.out 0 (.int .i64 t1) rfl) (by decide) 1 _, below_set (below_set HB.out GE4.out) GE4.out⟩
   ·have d2 : decide ((l0_1.length : Int) ≤ a1_1) = false := decide_eq_false c2
    by_cases c3 : a1_2 < 0
    ·have d3 : decide (a1_2 < 0) = true := decide_eq_true c3
     clear c1 c2 c3
     go_wp2_with (first | ((with_reducible refine gate_callee (f := 19) rfl ?_); refine goesL_ (some 12) rfl rfl Try.func19 (by kernel_rfl) rfl #[.agg #[.int .i64 a0_0, .slice A0_1 l0_1.length c0_1]] rfl (by (try simp only [List.map_toArray, List.map_cons, List.map_nil]); first | done | rfl) ?_; (with_reducible refine (meta_Form.calls k a0_0 _ _ l0_1 _ _ ?side1 ?side2 HF.out).mono ?_); (case side1 => exact (Kd.C_below HR.out HB.out)); (case side2 => exact HC.out); rintro e w7 ⟨rfl, hb⟩; refine ⟨_, rfl, ?_⟩; have m_ := Aside0.mk (blk_below BK2.out hb); clear BK2; have BK2 := m_; clear m_; have m_ := Aside0.mk (blk_below BK3.out hb); clear BK3; have BK3 := m_; clear m_; have m_ := Aside0.mk (blk_below BK4.out hb); clear BK4; have BK4 := m_; clear m_; have m_ := Aside0.mk (blk_below BK6.out hb); clear BK6; have BK6 := m_; clear m_; have m_ := Aside0.mk (Kd.S_below HO.out hb); clear HO; have HO := m_; clear m_; have m_ := Aside0.mk (below_step HB.out hb); clear HB; have HB := m_; clear m_; clear hb; have hzf2_0 : w7.cell? ⟨b2, 0, none⟩ = some (.int .i64 a0_0) := (blk_cell BK2.out 0).trans rfl; have hyf2_0 : w7.frozen? ⟨b2, 0, none⟩ = false := blk_frozen BK2.out 0; have hzf2_1 : w7.cell? ⟨b2, 1, none⟩ = some (.slice A0_1 l0_1.length c0_1) := (blk_cell BK2.out 1).trans rfl; have hyf2_1 : w7.frozen? ⟨b2, 1, none⟩ = false := blk_frozen BK2.out 1; have hzf3_0 : w7.cell? ⟨b3, 0, none⟩ = some (.int .u8 a1_0) := (blk_cell BK3.out 0).trans rfl; have hyf3_0 : w7.frozen? ⟨b3, 0, none⟩ = false := blk_frozen BK3.out 0; have hzf3_1 : w7.cell? ⟨b3, 1, none⟩ = some (.int .i64 a1_1) := (blk_cell BK3.out 1).trans rfl; have hyf3_1 : w7.frozen? ⟨b3, 1, none⟩ = false := blk_frozen BK3.out 1; have hzf3_2 : w7.cell? ⟨b3, 2, none⟩ = some (.int .i64 a1_2) := (blk_cell BK3.out 2).trans rfl; have hyf3_2 : w7.frozen? ⟨b3, 2, none⟩ = false := blk_frozen BK3.out 2; have hzf3_3 : w7.cell? ⟨b3, 3, none⟩ = some (.int .u64 a1_3) := (blk_cell BK3.out 3).trans rfl; have hyf3_3 : w7.frozen? ⟨b3, 3, none⟩ = false := blk_frozen BK3.out 3; have hzf4_0 : w7.cell? ⟨b4, 0, none⟩ = some (.int .i64 0) := (blk_cell BK4.out 0).trans rfl; have hyf4_0 : w7.frozen? ⟨b4, 0, none⟩ = false := blk_frozen BK4.out 0; have hzf4_1 : w7.cell? ⟨b4, 1, none⟩ = some (.slice none 0 0) := (blk_cell BK4.out 1).trans rfl; have hyf4_1 : w7.frozen? ⟨b4, 1, none⟩ = false := blk_frozen BK4.out 1; have hzf6_0 : w7.cell? ⟨b6, 0, none⟩ = some (.int .i64 t1) := (blk_cell BK6.out 0).trans rfl; have hyf6_0 : w7.frozen? ⟨b6, 0, none⟩ = false := blk_frozen BK6.out 0; have hzf6_1 : w7.cell? ⟨b6, 1, none⟩ = some (.slice ao sh.length co) := (blk_cell BK6.out 1).trans rfl; have hyf6_1 : w7.frozen? ⟨b6, 1, none⟩ = false := blk_frozen BK6.out 1; have hne := Nat.ne_of_lt L4_6.out; have hne' := (Nat.ne_of_lt L4_6.out).symm))
     refine bodyPost_ret (results_ct rfl _ _ b4 24 #[.int .i64 t1, .slice ao sh.length co] (0, 0) _ rfl (blk_put (blk_put BK4.out 0 _ rfl) 1 _ rfl) Try.underlying24 rfl (by kernel_rfl)) rfl ?_
     exact ⟨_, rfl, Kd.S_set (Kd.S_set HO.out BK4.out (by decide) 0 _) (blk_put BK4.out 0 (.int .i64 t1) rfl) (by decide) 1 _, below_set (below_set HB.out GE4.out) GE4.out⟩
    ·have d3 : decide (a1_2 < 0) = false := decide_eq_false c3
     have c4 : a0_0 ≤ a1_2 := by
      by_cases h : a1_2 < a0_0
      ·exact absurd ⟨rfl, by omega, by omega, by omega, h⟩ HN.out
      ·omega
     have d4 : decide (a0_0 ≤ a1_2) = true := decide_eq_true c4
     clear c1 c2 c3 c4
     go_wp2_with (first | ((with_reducible refine gate_callee (f := 19) rfl ?_); refine goesL_ (some 12) rfl rfl Try.func19 (by kernel_rfl) rfl #[.agg #[.int .i64 a0_0, .slice A0_1 l0_1.length c0_1]] rfl (by (try simp only [List.map_toArray, List.map_cons, List.map_nil]); first | done | rfl) ?_; (with_reducible refine (meta_Form.calls k a0_0 _ _ l0_1 _ _ ?side1 ?side2 HF.out).mono ?_); (case side1 => exact (Kd.C_below HR.out HB.out)); (case side2 => exact HC.out); rintro e w7 ⟨rfl, hb⟩; refine ⟨_, rfl, ?_⟩; have m_ := Aside0.mk (blk_below BK2.out hb); clear BK2; have BK2 := m_; clear m_; have m_ := Aside0.mk (blk_below BK3.out hb); clear BK3; have BK3 := m_; clear m_; have m_ := Aside0.mk (blk_below BK4.out hb); clear BK4; have BK4 := m_; clear m_; have m_ := Aside0.mk (blk_below BK6.out hb); clear BK6; have BK6 := m_; clear m_; have m_ := Aside0.mk (Kd.S_below HO.out hb); clear HO; have HO := m_; clear m_; have m_ := Aside0.mk (below_step HB.out hb); clear HB; have HB := m_; clear m_; clear hb; have hzf2_0 : w7.cell? ⟨b2, 0, none⟩ = some (.int .i64 a0_0) := (blk_cell BK2.out 0).trans rfl; have hyf2_0 : w7.frozen? ⟨b2, 0, none⟩ = false := blk_frozen BK2.out 0; have hzf2_1 : w7.cell? ⟨b2, 1, none⟩ = some (.slice A0_1 l0_1.length c0_1) := (blk_cell BK2.out 1).trans rfl; have hyf2_1 : w7.frozen? ⟨b2, 1, none⟩ = false := blk_frozen BK2.out 1; have hzf3_0 : w7.cell? ⟨b3, 0, none⟩ = some (.int .u8 a1_0) := (blk_cell BK3.out 0).trans rfl; have hyf3_0 : w7.frozen? ⟨b3, 0, none⟩ = false := blk_frozen BK3.out 0; have hzf3_1 : w7.cell? ⟨b3, 1, none⟩ = some (.int .i64 a1_1) := (blk_cell BK3.out 1).trans rfl; have hyf3_1 : w7.frozen? ⟨b3, 1, none⟩ = false := blk_frozen BK3.out 1; have hzf3_2 : w7.cell? ⟨b3, 2, none⟩ = some (.int .i64 a1_2) := (blk_cell BK3.out 2).trans rfl; have hyf3_2 : w7.frozen? ⟨b3, 2, none⟩ = false := blk_frozen BK3.out 2; have hzf3_3 : w7.cell? ⟨b3, 3, none⟩ = some (.int .u64 a1_3) := (blk_cell BK3.out 3).trans rfl; have hyf3_3 : w7.frozen? ⟨b3, 3, none⟩ = false := blk_frozen BK3.out 3; have hzf4_0 : w7.cell? ⟨b4, 0, none⟩ = some (.int .i64 0) := (blk_cell BK4.out 0).trans rfl; have hyf4_0 : w7.frozen? ⟨b4, 0, none⟩ = false := blk_frozen BK4.out 0; have hzf4_1 : w7.cell? ⟨b4, 1, none⟩ = some (.slice none 0 0) := (blk_cell BK4.out 1).trans rfl; have hyf4_1 : w7.frozen? ⟨b4, 1, none⟩ = false := blk_frozen BK4.out 1; have hzf6_0 : w7.cell? ⟨b6, 0, none⟩ = some (.int .i64 t1) := (blk_cell BK6.out 0).trans rfl; have hyf6_0 : w7.frozen? ⟨b6, 0, none⟩ = false := blk_frozen BK6.out 0; have hzf6_1 : w7.cell? ⟨b6, 1, none⟩ = some (.slice ao sh.length co) := (blk_cell BK6.out 1).trans rfl; have hyf6_1 : w7.frozen? ⟨b6, 1, none⟩ = false := blk_frozen BK6.out 1; have hne := Nat.ne_of_lt L4_6.out; have hne' := (Nat.ne_of_lt L4_6.out).symm))
     refine bodyPost_ret (results_ct rfl _ _ b4 24 #[.int .i64 t1, .slice ao sh.length co] (0, 0) _ rfl (blk_put (blk_put BK4.out 0 _ rfl) 1 _ rfl) Try.underlying24 rfl (by kernel_rfl)) rfl ?_
     exact ⟨_, rfl, Kd.S_set (Kd.S_set HO.out BK4.out (by decide) 0 _) (blk_put BK4.out 0 (.int .i64 t1) rfl) (by decide) 1 _, below_set (below_set HB.out GE4.out) GE4.out⟩
theorem meta_Apply.fn (nd x : Int) (b : Nat) (W : World) (hc : W.cell? ⟨b, 2, none⟩ = some (.int .i64 nd)) : FnGives Try.prog 51 #[.pointer (some ⟨b, 0, none⟩)] #[.int .i64 x] (.bool (x == nd)) W := by
 show Calls Try.prog 51 #[.int .i64 x, .pointer (some ⟨b, 0, none⟩)] W _
 have hu39 := Try.underlying39
 go_enter Try.func51, Try.ntmps51
 go_wp2
 all_goals (go_ret; exact ⟨by simp_all, 0, rfl⟩)
theorem meta_Apply.grown_put {w : World} {g q : Nat} (d : Array Int) : w.grownBy (Go.Sort.putRow (Value.int .i64) (Go.Sort.ahead w q) g 0 d) (some g) := by
 refine ⟨rfl, rfl, rfl, by simp [Go.Sort.putRow, Go.Sort.mapBlock, Go.Sort.ahead], fun k hk hne => ?_⟩
 have : g ≠ k := fun e => hne (by rw [e])
 simp [Go.Sort.putRow, Go.Sort.mapBlock, Go.Sort.ahead, Array.getElem?_modify, this]
open Go.Sort in
theorem meta_Apply.del (l : List Int) (nd : Int) (gi ci b base : Nat) (oki : Nat → Prop) (W : World) (hR : (Kd.int .i64).R 3 W base oki (.slice (some ⟨gi, 0, none⟩) l.length ci) l) (hb : b ≠ gi) (hlt : b < W.heap.size) (hc : W.cell? ⟨b, 2, none⟩ = some (.int .i64 nd)) :
  Calls Try.prog 50 #[.slice (some ⟨gi, 0, none⟩) l.length ci, .func (.func 51) #[] #[.pointer (some ⟨b, 0, none⟩)]] W fun e w' => e = .returned (.slice (some ⟨gi, 0, none⟩) (l.filter fun x => !(x == nd)).length ci) ∧ W.grownBy w' (some gi) ∧ (Kd.int .i64).R 3 w' base oki (.slice (some ⟨gi, 0, none⟩) (l.filter fun x => !(x == nd)).length ci) (l.filter fun x => !(x == nd)) := by
 have ho := Kd.own_of_R hR
 obtain ⟨g, cap, hv, hg, hgs, hn, hm, hl, hH⟩ := Lib.holds_of_ownsRow (zs := l) ho (by simp)
 injection hv with hv1 _ hv3
 injection hv1 with hv1
 injection hv1 with hv1
 subst hv1
 subst hv3
 have hcon := AnyE.slices_DeleteFunc Try.l50 (Value.int .i64) (fun _ => rfl) (fun x => x == nd) 51 #[.pointer (some ⟨b, 0, none⟩)] (enters_of Try.func51 (by kernel_rfl) rfl) 0 Try.zeroValue3 gi 0 ci l.toArray W
  (fun V x hV => meta_Apply.fn nd x b V ((hV.cell (p := ⟨b, 2, none⟩) hlt).trans hc))
  (fun n os dk x _ => meta_Apply.fn nd x b _ (by
   unfold sortWorld
   rw [cell?_grow _ _ _ (by show b < (Go.Sort.putRow _ _ _ _ _).heap.size; rw [size_putRow]; exact hlt), cell?_putRow_other _ _ gi 0 _ _ (Or.inl hb)]
   exact hc))
  hH (by have h9 : ci ≤ 9223372036854775807 := hm; simp only [List.size_toArray]; omega) (by simpa using hn)
 change Calls Try.prog 50 _ _ _ at hcon
 simp only [List.size_toArray] at hcon
 refine hcon.mono ?_
 rintro e w' ⟨rfl, q, rfl⟩
 have hlen : (l.filter fun x => !(x == nd)).length ≤ l.length := List.length_filter_le _ _
 refine ⟨rfl, meta_Apply.grown_put _, ?_⟩
 have h2 := Lib.ownsRow_putRow (q := q) (k := (l.filter fun x => !(x == nd)).length) (ys := (l.filter fun x => !(x == nd)) ++ List.replicate (l.length - (l.filter fun x => !(x == nd)).length) 0) ho (by simp; omega) hlen
 rw [List.take_left] at h2
 exact Kd.R_of_own h2 hR.1
theorem meta_Apply.frz {w w1 : World} {gi g o : Nat} (hg : w.grownBy w1 (some gi)) (hne : gi ≠ g) (h : w.frozen? ⟨g, o, none⟩ = false) (hlt : g < w.heap.size) : w1.frozen? ⟨g, o, none⟩ = false := by
 rw [← h]
 simp only [World.frozen?]
 rw [hg.block g hlt (fun e => hne (by injection e with e; exact e.symm))]
theorem meta_Apply.frz2 {w w1 : World} {row : Option Nat} {g o : Nat} (hg : w.grownBy w1 row) (hne : some g ≠ row) (h : w.frozen? ⟨g, o, none⟩ = false) (hlt : g < w.heap.size) : w1.frozen? ⟨g, o, none⟩ = false := by
 rw [← h]
 simp only [World.frozen?]
 rw [hg.block g hlt hne]
theorem meta_Apply.frz3 {w w1 : World} {S : Nat → Prop} {g o : Nat} (hg : Kept w w1 S) (hne : ¬ S g) (h : w.frozen? ⟨g, o, none⟩ = false) (hlt : g < w.heap.size) : w1.frozen? ⟨g, o, none⟩ = false := by
 rw [← h]
 simp only [World.frozen?]
 rw [hg.2 g hlt hne]

set_option maxHeartbeats 40000000 in
set_option maxRecDepth 100000 in
theorem meta_Apply.yes (k : Nat) (a0_0 : Int) (A0_1 : Option Addr) (c0_1 : Nat) (l0_1 : List (S42)) (a1_0 : Int) (i : Nat) (a1_2 a1_3 : Int) (t1 : Int) (sh : List S42) (w : World) (hr : Kd.C k42 w A0_1 l0_1.length l0_1) (hc : l0_1.length ≤ c0_1) (ha : meta_Copy.f k a0_0 l0_1 = some (t1, sh)) (hf : meta_Form.f k a0_0 l0_1 = some true) (c1 : (i : Int) < (l0_1.length : Int)) (c2 : 0 ≤ a1_2) (c3 : a1_2 < a0_0) (hlt : i < sh.length) (inn : Bool) (hi : slices_Contains_int_int.f k (rd_T42 sh i).f3 a1_2 = some inn) (rb : Bool) (rl : List S42) (hg : meta_Apply.g t1 sh a1_0 i a1_2 a1_3 (rd_T42 sh i) inn = some (t1, rl, rb)) :
  Calls Try.prog 22 #[.agg #[.int .i64 a0_0, .slice A0_1 l0_1.length c0_1], .agg #[.int .u8 a1_0, .int .i64 (i : Int), .int .i64 a1_2, .int .u64 a1_3]] w fun e w' => ∃ v1_ : Value, e = .returned (.tuple #[.agg #[.int .i64 t1, v1_], .bool rb]) ∧ Kd.S k42 42 w' w.heap.size (fun _ => True) v1_ rl ∧ Below w.heap.size w w' := by
 have hu24 := Try.underlying24
 have hu39 := Try.underlying39
 have HR := Aside0.mk hr
 have HC := Aside0.mk hc
 have HA := Aside0.mk ha
 clear hr hc ha
 have HB := Aside0.mk (Below.refl w.heap.size w)
 have HF := Aside0.mk hf
 have HI := Aside0.mk hi
 have HG := Aside0.mk hg
 clear hf hi hg
 have d1 : decide ((i : Int) < 0) = false := decide_eq_false (by omega)
 have d2 : decide ((l0_1.length : Int) ≤ (i : Int)) = false := decide_eq_false (by omega)
 have d2' : decide (l0_1.length ≤ i) = false := decide_eq_false (by omega)
 have d3 : decide (a1_2 < 0) = false := decide_eq_false (by omega)
 have d4 : decide (a0_0 ≤ a1_2) = false := decide_eq_false (by omega)
 clear c1 c2 c3
 go_enter Try.func22, Try.ntmps22
 go_upto_region 2 with (first | ((with_reducible refine gate_dst (N := 2) rfl ?_); refine box_event ?hg (N := 2) ?hd (cs := #[.int .i64 a0_0, .slice A0_1 l0_1.length c0_1]) (t := 24) ?hr ?_; (case hd => rfl); (case hg => rfl); (case hr => first | (go_simp; done) | (go_simp; rfl)); intro b2 hg w2 hbox hb; have GE2 := Aside0.mk (show w.heap.size ≤ b2 by rw [hg]; exact HB.out.size); have m_ := Aside0.mk (below_step HB.out hb); clear HB; have HB := m_; clear m_; have BK2 := Aside0.mk hbox; clear hb hbox hg) | ((with_reducible refine gate_dst (N := 3) rfl ?_); refine box_event ?hg (N := 3) ?hd (cs := #[.int .u8 a1_0, .int .i64 (i : Int), .int .i64 a1_2, .int .u64 a1_3]) (t := 39) ?hr ?_; (case hd => rfl); (case hg => rfl); (case hr => first | (go_simp; done) | (go_simp; rfl)); intro b3 hg w3 hbox hb; have L2_3 := Aside0.mk (show b2 < b3 by rw [hg]; exact blk_lt BK2.out); have m_ := Aside0.mk (blk_below BK2.out hb); clear BK2; have BK2 := m_; clear m_; have GE3 := Aside0.mk (show w.heap.size ≤ b3 by rw [hg]; exact HB.out.size); have m_ := Aside0.mk (below_step HB.out hb); clear HB; have HB := m_; clear m_; have BK3 := Aside0.mk hbox; clear hb hbox hg) | ((with_reducible refine gate_dst (N := 4) rfl ?_); refine box_event ?hg (N := 4) ?hd (cs := #[.int .i64 0, .slice none 0 0]) (t := 24) ?hr ?_; (case hd => rfl); (case hg => rfl); (case hr => first | (go_simp; done) | (go_simp; rfl)); intro b4 hg w4 hbox hb; have L2_4 := Aside0.mk (show b2 < b4 by rw [hg]; exact blk_lt BK2.out); have m_ := Aside0.mk (blk_below BK2.out hb); clear BK2; have BK2 := m_; clear m_; have L3_4 := Aside0.mk (show b3 < b4 by rw [hg]; exact blk_lt BK3.out); have m_ := Aside0.mk (blk_below BK3.out hb); clear BK3; have BK3 := m_; clear m_; have GE4 := Aside0.mk (show w.heap.size ≤ b4 by rw [hg]; exact HB.out.size); have m_ := Aside0.mk (below_step HB.out hb); clear HB; have HB := m_; clear m_; have BK4 := Aside0.mk hbox; clear hb hbox hg; have hz2_0 : w4.cell? ⟨b2, 0, none⟩ = some (.int .i64 a0_0) := (blk_cell BK2.out 0).trans rfl; have hz2_1 : w4.cell? ⟨b2, 1, none⟩ = some (.slice A0_1 l0_1.length c0_1) := (blk_cell BK2.out 1).trans rfl; have hy2_0 := blk_frozen BK2.out 0; have hy2_1 := blk_frozen BK2.out 1) | ((with_reducible refine gate_callee (f := 21) rfl ?_); refine goesL_ (some 10) rfl rfl Try.func21 (by kernel_rfl) rfl #[.agg #[.int .i64 a0_0, .slice A0_1 l0_1.length c0_1]] rfl (by (try simp only [List.map_toArray, List.map_cons, List.map_nil]); first | done | rfl) ?_; (with_reducible refine (meta_Copy.calls k a0_0 _ _ l0_1 t1 sh _ ?side1 ?side2 HA.out).mono ?_); (case side1 => exact (Kd.C_below HR.out HB.out)); (case side2 => exact HC.out); rintro e w5 ⟨v1, rfl, ho0, hb⟩; refine ⟨_, rfl, ?_⟩; have HO := Aside0.mk (Kd.S_lower ho0 HB.out.size); have m_ := Aside0.mk (blk_below BK2.out hb); clear BK2; have BK2 := m_; clear m_; have m_ := Aside0.mk (blk_below BK3.out hb); clear BK3; have BK3 := m_; clear m_; have m_ := Aside0.mk (blk_below BK4.out hb); clear BK4; have BK4 := m_; clear m_; have m_ := Aside0.mk (below_step HB.out hb); clear HB; have HB := m_; clear m_; clear hb ho0) | ((with_reducible refine gate_dst (N := 6) rfl ?_); refine box_event ?hg (N := 6) ?hd (cs := #[.int .i64 0, .slice none 0 0]) (t := 24) ?hr ?_; (case hd => rfl); (case hg => rfl); (case hr => first | (go_simp; done) | (go_simp; rfl)); intro b6 hg w6 hbox hb; have L2_6 := Aside0.mk (show b2 < b6 by rw [hg]; exact blk_lt BK2.out); have m_ := Aside0.mk (blk_below BK2.out hb); clear BK2; have BK2 := m_; clear m_; have L3_6 := Aside0.mk (show b3 < b6 by rw [hg]; exact blk_lt BK3.out); have m_ := Aside0.mk (blk_below BK3.out hb); clear BK3; have BK3 := m_; clear m_; have L4_6 := Aside0.mk (show b4 < b6 by rw [hg]; exact blk_lt BK4.out); have m_ := Aside0.mk (blk_below BK4.out hb); clear BK4; have BK4 := m_; clear m_; have m_ := Aside0.mk (Kd.S_below HO.out hb); clear HO; have HO := m_; clear m_; have GE6 := Aside0.mk (show w.heap.size ≤ b6 by rw [hg]; exact HB.out.size); have m_ := Aside0.mk (below_step HB.out hb); clear HB; have HB := m_; clear m_; have BK6 := Aside0.mk hbox; clear hb hbox hg; have hz6_0 : w6.cell? ⟨b6, 0, none⟩ = some (.int .i64 0) := (blk_cell BK6.out 0).trans rfl; have hz6_1 : w6.cell? ⟨b6, 1, none⟩ = some (.slice none 0 0) := (blk_cell BK6.out 1).trans rfl; have hy6_0 := blk_frozen BK6.out 0; have hy6_1 := blk_frozen BK6.out 1; obtain ⟨ao, co, eo⟩ := Kd.S_slice HO.out; subst eo))
 have m2_ := Aside0.mk (show ((w6.setCell ⟨b6, 0, none⟩ (.int .i64 t1)).setCell ⟨b6, 1, none⟩ (.slice ao sh.length co)).heap[b2]? = some (.cells #[.int .i64 a0_0, .slice A0_1 l0_1.length c0_1] 24 (0, 0)) from blk_far (blk_far BK2.out (Nat.ne_of_lt L2_6.out) _) (Nat.ne_of_lt L2_6.out) _)
 have m3_ := Aside0.mk (show ((w6.setCell ⟨b6, 0, none⟩ (.int .i64 t1)).setCell ⟨b6, 1, none⟩ (.slice ao sh.length co)).heap[b3]? = some (.cells #[.int .u8 a1_0, .int .i64 (i : Int), .int .i64 a1_2, .int .u64 a1_3] 39 (0, 0)) from blk_far (blk_far BK3.out (Nat.ne_of_lt L3_6.out) _) (Nat.ne_of_lt L3_6.out) _)
 have m4_ := Aside0.mk (show ((w6.setCell ⟨b6, 0, none⟩ (.int .i64 t1)).setCell ⟨b6, 1, none⟩ (.slice ao sh.length co)).heap[b4]? = some (.cells #[.int .i64 0, .slice none 0 0] 24 (0, 0)) from blk_far (blk_far BK4.out (Nat.ne_of_lt L4_6.out) _) (Nat.ne_of_lt L4_6.out) _)
 have m6_ := Aside0.mk (show ((w6.setCell ⟨b6, 0, none⟩ (.int .i64 t1)).setCell ⟨b6, 1, none⟩ (.slice ao sh.length co)).heap[b6]? = some (.cells #[.int .i64 t1, .slice ao sh.length co] 24 (0, 0)) from blk_put (blk_put BK6.out 0 _ rfl) 1 _ rfl)
 have m7_ := Aside0.mk (show Kd.S k42 42 ((w6.setCell ⟨b6, 0, none⟩ (.int .i64 t1)).setCell ⟨b6, 1, none⟩ (.slice ao sh.length co)) w.heap.size (fun _ => True) (.slice ao sh.length co) sh from Kd.S_set (Kd.S_set HO.out BK6.out (by decide) 0 _) (blk_put BK6.out 0 (.int .i64 t1) rfl) (by decide) 1 _)
 have m8_ := Aside0.mk (show Below w.heap.size w ((w6.setCell ⟨b6, 0, none⟩ (.int .i64 t1)).setCell ⟨b6, 1, none⟩ (.slice ao sh.length co)) from below_set (below_set HB.out GE6.out) GE6.out)
 clear BK2 BK3 BK4 BK6 HO HB hz2_0 hz2_1 hy2_0 hy2_1 hz6_0 hz6_1 hy6_0 hy6_1
 generalize ((w6.setCell ⟨b6, 0, none⟩ (.int .i64 t1)).setCell ⟨b6, 1, none⟩ (.slice ao sh.length co)) = wa at *
 have BK2 := m2_; have BK3 := m3_; have BK4 := m4_; have BK6 := m6_; have HO := m7_; have HB := m8_; clear m2_ m3_ m4_ m6_ m7_ m8_
 have hza2_0 : wa.cell? ⟨b2, 0, none⟩ = some (.int .i64 a0_0) := (blk_cell BK2.out 0).trans rfl
 have hya2_0 : wa.frozen? ⟨b2, 0, none⟩ = false := blk_frozen BK2.out 0
 have hza2_1 : wa.cell? ⟨b2, 1, none⟩ = some (.slice A0_1 l0_1.length c0_1) := (blk_cell BK2.out 1).trans rfl
 have hya2_1 : wa.frozen? ⟨b2, 1, none⟩ = false := blk_frozen BK2.out 1
 obtain ⟨g, cap, hv, hgb, hgs, _⟩ := Kd.S_form HO.out (by omega)
 injection hv with hv1 hv2 hv3
 subst hv1
 clear hv2 hgb hgs
 subst hv3
 go_upto_region 5 with (first | ((with_reducible refine gate_callee (f := 19) rfl ?_); refine goesL_ (some 12) rfl rfl Try.func19 (by kernel_rfl) rfl #[.agg #[.int .i64 a0_0, .slice A0_1 l0_1.length c0_1]] rfl (by (try simp only [List.map_toArray, List.map_cons, List.map_nil]); first | done | rfl) ?_; (with_reducible refine (meta_Form.calls k a0_0 _ _ l0_1 _ _ ?side1 ?side2 HF.out).mono ?_); (case side1 => exact (Kd.C_below HR.out HB.out)); (case side2 => exact HC.out); rintro e w7 ⟨rfl, hb⟩; refine ⟨_, rfl, ?_⟩; have m_ := Aside0.mk (blk_below BK2.out hb); clear BK2; have BK2 := m_; clear m_; have m_ := Aside0.mk (blk_below BK3.out hb); clear BK3; have BK3 := m_; clear m_; have m_ := Aside0.mk (blk_below BK4.out hb); clear BK4; have BK4 := m_; clear m_; have m_ := Aside0.mk (blk_below BK6.out hb); clear BK6; have BK6 := m_; clear m_; have m_ := Aside0.mk (Kd.S_below HO.out hb); clear HO; have HO := m_; clear m_; have m_ := Aside0.mk (below_step HB.out hb); clear HB; have HB := m_; clear m_; clear hb; have hzf2_0 : w7.cell? ⟨b2, 0, none⟩ = some (.int .i64 a0_0) := (blk_cell BK2.out 0).trans rfl; have hyf2_0 : w7.frozen? ⟨b2, 0, none⟩ = false := blk_frozen BK2.out 0; have hzf2_1 : w7.cell? ⟨b2, 1, none⟩ = some (.slice A0_1 l0_1.length c0_1) := (blk_cell BK2.out 1).trans rfl; have hyf2_1 : w7.frozen? ⟨b2, 1, none⟩ = false := blk_frozen BK2.out 1; have hzf3_0 : w7.cell? ⟨b3, 0, none⟩ = some (.int .u8 a1_0) := (blk_cell BK3.out 0).trans rfl; have hyf3_0 : w7.frozen? ⟨b3, 0, none⟩ = false := blk_frozen BK3.out 0; have hzf3_1 : w7.cell? ⟨b3, 1, none⟩ = some (.int .i64 (i : Int)) := (blk_cell BK3.out 1).trans rfl; have hyf3_1 : w7.frozen? ⟨b3, 1, none⟩ = false := blk_frozen BK3.out 1; have hzf3_2 : w7.cell? ⟨b3, 2, none⟩ = some (.int .i64 a1_2) := (blk_cell BK3.out 2).trans rfl; have hyf3_2 : w7.frozen? ⟨b3, 2, none⟩ = false := blk_frozen BK3.out 2; have hzf3_3 : w7.cell? ⟨b3, 3, none⟩ = some (.int .u64 a1_3) := (blk_cell BK3.out 3).trans rfl; have hyf3_3 : w7.frozen? ⟨b3, 3, none⟩ = false := blk_frozen BK3.out 3; have hzf4_0 : w7.cell? ⟨b4, 0, none⟩ = some (.int .i64 0) := (blk_cell BK4.out 0).trans rfl; have hyf4_0 : w7.frozen? ⟨b4, 0, none⟩ = false := blk_frozen BK4.out 0; have hzf4_1 : w7.cell? ⟨b4, 1, none⟩ = some (.slice none 0 0) := (blk_cell BK4.out 1).trans rfl; have hyf4_1 : w7.frozen? ⟨b4, 1, none⟩ = false := blk_frozen BK4.out 1; have hzf6_0 : w7.cell? ⟨b6, 0, none⟩ = some (.int .i64 t1) := (blk_cell BK6.out 0).trans rfl; have hyf6_0 : w7.frozen? ⟨b6, 0, none⟩ = false := blk_frozen BK6.out 0; have hzf6_1 : w7.cell? ⟨b6, 1, none⟩ = some (.slice (some ⟨g, 0, none⟩) sh.length co) := (blk_cell BK6.out 1).trans rfl; have hyf6_1 : w7.frozen? ⟨b6, 1, none⟩ = false := blk_frozen BK6.out 1; have hne := Nat.ne_of_lt L4_6.out; have hne' := (Nat.ne_of_lt L4_6.out).symm))
 obtain ⟨oki, vi, hRi, hoki, hH, e0, e1, e2, e3, ef⟩ := meta_Apply.elem HO.out i hlt
 obtain ⟨ai, ci, hvi, hli, hCi⟩ := Kd.R_reads hRi
 subst hvi
 have ef0 := ef 0
 have ef1 := ef 1
 have ef2 := ef 2
 have ef3 := ef 3
 have HRi := Aside0.mk hRi
 have HOK := Aside0.mk hoki
 have HH := Aside0.mk hH
 have HCi := Aside0.mk hCi
 have HLi := Aside0.mk hli
 have hgn2 := Aside0.mk (Kd.S_ne HO.out BK2.out (by decide))
 have hgn3 := Aside0.mk (Kd.S_ne HO.out BK3.out (by decide))
 have hgn4 := Aside0.mk (Kd.S_ne HO.out BK4.out (by decide))
 have hgn6 := Aside0.mk (Kd.S_ne HO.out BK6.out (by decide))
 clear hRi hoki hH hCi hli ef
 go_quiet ((go_at_call 48; refine Calls.quiet_of ((slices_Contains_int_int.calls k _ _ _ a1_2 inn _ (Kd.C_drewN HCi.out _) HLi.out HI.out).mono fun _ _ h => ⟨h.1, h.2.out⟩)))
 generalize hs : rd_T42 sh (i : Int) = s at *
 have HS := Aside0.mk hs
 clear hs
 have m2_ := Aside0.mk (blk_drewN BK2.out nq)
 have m3_ := Aside0.mk (blk_drewN BK3.out nq)
 have m4_ := Aside0.mk (blk_drewN BK4.out nq)
 have m6_ := Aside0.mk (blk_drewN BK6.out nq)
 have m7_ := Aside0.mk (Kd.S_drewN HO.out nq)
 have m8_ := Aside0.mk (pw_below_drewN HB.out nq)
 have m9_ := Aside0.mk (Kd.H_drewN HH.out nq)
 have m10_ := Aside0.mk (Kd.R_drewN HRi.out nq)
 clear BK2 BK3 BK4 BK6 HO HB HH HRi HCi
 have f0 : (w7.drewN nq).cell? ⟨g, i * 4, none⟩ = some (.int .u64 s.f0) := by simpa using e0
 have f1 : (w7.drewN nq).cell? ⟨g, i * 4 + 1, none⟩ = some (.int .u64 s.f1) := by simpa using e1
 have f2 : (w7.drewN nq).cell? ⟨g, i * 4 + 2, none⟩ = some (.int .i64 s.f2) := by simpa using e2
 have f3 : (w7.drewN nq).cell? ⟨g, i * 4 + 3, none⟩ = some (.slice ai s.f3.length ci) := by simpa using e3
 have k0 : (w7.drewN nq).frozen? ⟨g, i * 4, none⟩ = false := by simpa using ef0
 have k1 : (w7.drewN nq).frozen? ⟨g, i * 4 + 1, none⟩ = false := by simpa using ef1
 have k2 : (w7.drewN nq).frozen? ⟨g, i * 4 + 2, none⟩ = false := by simpa using ef2
 have k3 : (w7.drewN nq).frozen? ⟨g, i * 4 + 3, none⟩ = false := by simpa using ef3
 clear e0 e1 e2 e3 ef0 ef1 ef2 ef3
 clear hzf2_0 hyf2_0 hzf2_1 hyf2_1 hzf3_0 hyf3_0 hzf3_1 hyf3_1 hzf3_2 hyf3_2 hzf3_3 hyf3_3 hzf4_0 hyf4_0 hzf4_1 hyf4_1 hzf6_0 hyf6_0 hzf6_1 hyf6_1
 generalize w7.drewN nq = w8 at *
 have BK2 := m2_
 have BK3 := m3_
 have BK4 := m4_
 have BK6 := m6_
 have HO := m7_
 have HB := m8_
 have HH := m9_
 have HRi := m10_
 clear m2_ m3_ m4_ m6_ m7_ m8_ m9_ m10_
 have hzg2_0 : w8.cell? ⟨b2, 0, none⟩ = some (.int .i64 a0_0) := (blk_cell BK2.out 0).trans rfl
 have hyg2_0 : w8.frozen? ⟨b2, 0, none⟩ = false := blk_frozen BK2.out 0
 have hzg2_1 : w8.cell? ⟨b2, 1, none⟩ = some (.slice A0_1 l0_1.length c0_1) := (blk_cell BK2.out 1).trans rfl
 have hyg2_1 : w8.frozen? ⟨b2, 1, none⟩ = false := blk_frozen BK2.out 1
 have hzg3_0 : w8.cell? ⟨b3, 0, none⟩ = some (.int .u8 a1_0) := (blk_cell BK3.out 0).trans rfl
 have hyg3_0 : w8.frozen? ⟨b3, 0, none⟩ = false := blk_frozen BK3.out 0
 have hzg3_1 : w8.cell? ⟨b3, 1, none⟩ = some (.int .i64 (i : Int)) := (blk_cell BK3.out 1).trans rfl
 have hyg3_1 : w8.frozen? ⟨b3, 1, none⟩ = false := blk_frozen BK3.out 1
 have hzg3_2 : w8.cell? ⟨b3, 2, none⟩ = some (.int .i64 a1_2) := (blk_cell BK3.out 2).trans rfl
 have hyg3_2 : w8.frozen? ⟨b3, 2, none⟩ = false := blk_frozen BK3.out 2
 have hzg3_3 : w8.cell? ⟨b3, 3, none⟩ = some (.int .u64 a1_3) := (blk_cell BK3.out 3).trans rfl
 have hyg3_3 : w8.frozen? ⟨b3, 3, none⟩ = false := blk_frozen BK3.out 3
 have hzg4_0 : w8.cell? ⟨b4, 0, none⟩ = some (.int .i64 0) := (blk_cell BK4.out 0).trans rfl
 have hyg4_0 : w8.frozen? ⟨b4, 0, none⟩ = false := blk_frozen BK4.out 0
 have hzg4_1 : w8.cell? ⟨b4, 1, none⟩ = some (.slice none 0 0) := (blk_cell BK4.out 1).trans rfl
 have hyg4_1 : w8.frozen? ⟨b4, 1, none⟩ = false := blk_frozen BK4.out 1
 have hzg6_0 : w8.cell? ⟨b6, 0, none⟩ = some (.int .i64 t1) := (blk_cell BK6.out 0).trans rfl
 have hyg6_0 : w8.frozen? ⟨b6, 0, none⟩ = false := blk_frozen BK6.out 0
 have hzg6_1 : w8.cell? ⟨b6, 1, none⟩ = some (.slice (some ⟨g, 0, none⟩) sh.length co) := (blk_cell BK6.out 1).trans rfl
 have hyg6_1 : w8.frozen? ⟨b6, 1, none⟩ = false := blk_frozen BK6.out 1
 have hn46 := Nat.ne_of_lt L4_6.out
 have hn64 := (Nat.ne_of_lt L4_6.out).symm
 have ng3 : b3 ≠ g := fun e => hgn3.out (by rw [e]; rfl)
 have ng3' : g ≠ b3 := fun e => ng3 e.symm
 have ng4 : b4 ≠ g := fun e => hgn4.out (by rw [e]; rfl)
 have ng4' : g ≠ b4 := fun e => ng4 e.symm
 have ng6 : b6 ≠ g := fun e => hgn6.out (by rw [e]; rfl)
 have ng6' : g ≠ b6 := fun e => ng6 e.symm
 have NG3 := Aside0.mk ng3
 have NG4 := Aside0.mk ng4
 have NG6 := Aside0.mk ng6
 have GG := Aside0.mk (show w.heap.size ≤ g by obtain ⟨g', cap', hv, hgb, _⟩ := Kd.S_form HO.out (by omega); injection hv with hv; injection hv with hv; injection hv with hv; rw [hv]; exact hgb)
 by_cases h1 : a1_3 = s.f0
 case neg =>
  have H1 := Aside0.mk h1
  clear h1
  have p1 : (a1_3 == s.f0) = false := beq_eq_false_iff_ne.mpr H1.out
  have p2 : (a1_3 != s.f0) = true := bne_iff_ne.mpr H1.out
  have hG := HG.out
  unfold meta_Apply.g at hG
  rw [if_pos H1.out] at hG
  simp only [Option.some.injEq, Prod.mk.injEq, true_and] at hG
  obtain ⟨rfl, rfl⟩ := hG
  go_upto_region 7 with (fail)
  go_quiet (fail)
  go_wp2
  first
   | (refine bodyPost_ret (results_ct rfl _ _ b4 24 #[.int .i64 t1, .slice (some ⟨g, 0, none⟩) sh.length co] (0, 0) _ rfl (blk_put (blk_put (blk_drewN BK4.out _) 0 _ rfl) 1 _ rfl) Try.underlying24 rfl (by kernel_rfl)) rfl ?_; exact ⟨_, rfl, Kd.S_set (Kd.S_set (Kd.S_drewN HO.out _) (blk_drewN BK4.out _) (by decide) 0 _) (blk_put (blk_drewN BK4.out _) 0 (.int .i64 t1) rfl) (by decide) 1 _, below_set (below_set (pw_below_drewN HB.out _) GE4.out) GE4.out⟩)
 have H1 := Aside0.mk h1
 clear h1
 by_cases h2 : s.f0 ≥ 1152921504606846976
 case pos =>
  have H2 := Aside0.mk h2
  clear h2
  have p1 : (a1_3 == s.f0) = true := beq_iff_eq.mpr H1.out
  have p2 : (a1_3 != s.f0) = false := bne_eq_false_iff_eq.mpr H1.out
  have p3 : decide (1152921504606846976 ≤ s.f0) = true := decide_eq_true H2.out
  have hG := HG.out
  unfold meta_Apply.g at hG
  rw [if_neg (fun h => h H1.out), if_pos H2.out] at hG
  simp only [Option.some.injEq, Prod.mk.injEq, true_and] at hG
  obtain ⟨rfl, rfl⟩ := hG
  go_upto_region 7 with (fail)
  go_quiet (fail)
  go_wp2
  first
   | (refine bodyPost_ret (results_ct rfl _ _ b4 24 #[.int .i64 t1, .slice (some ⟨g, 0, none⟩) sh.length co] (0, 0) _ rfl (blk_put (blk_put (blk_drewN BK4.out _) 0 _ rfl) 1 _ rfl) Try.underlying24 rfl (by kernel_rfl)) rfl ?_; exact ⟨_, rfl, Kd.S_set (Kd.S_set (Kd.S_drewN HO.out _) (blk_drewN BK4.out _) (by decide) 0 _) (blk_put (blk_drewN BK4.out _) 0 (.int .i64 t1) rfl) (by decide) 1 _, below_set (below_set (pw_below_drewN HB.out _) GE4.out) GE4.out⟩)
 have H2 := Aside0.mk h2
 clear h2
 by_cases h3 : s.f1 ≥ 1152921504606846976
 case pos =>
  have H3 := Aside0.mk h3
  clear h3
  have p1 : (a1_3 == s.f0) = true := beq_iff_eq.mpr H1.out
  have p2 : (a1_3 != s.f0) = false := bne_eq_false_iff_eq.mpr H1.out
  have p3 : decide (1152921504606846976 ≤ s.f0) = false := decide_eq_false H2.out
  have p4 : decide (1152921504606846976 ≤ s.f1) = true := decide_eq_true H3.out
  have hG := HG.out
  unfold meta_Apply.g at hG
  rw [if_neg (fun h => h H1.out), if_neg H2.out, if_pos H3.out] at hG
  simp only [Option.some.injEq, Prod.mk.injEq, true_and] at hG
  obtain ⟨rfl, rfl⟩ := hG
  go_upto_region 7 with (fail)
  go_quiet (fail)
  go_wp2
  first
   | (refine bodyPost_ret (results_ct rfl _ _ b4 24 #[.int .i64 t1, .slice (some ⟨g, 0, none⟩) sh.length co] (0, 0) _ rfl (blk_put (blk_put (blk_drewN BK4.out _) 0 _ rfl) 1 _ rfl) Try.underlying24 rfl (by kernel_rfl)) rfl ?_; exact ⟨_, rfl, Kd.S_set (Kd.S_set (Kd.S_drewN HO.out _) (blk_drewN BK4.out _) (by decide) 0 _) (blk_put (blk_drewN BK4.out _) 0 (.int .i64 t1) rfl) (by decide) 1 _, below_set (below_set (pw_below_drewN HB.out _) GE4.out) GE4.out⟩)
 have H3 := Aside0.mk h3
 clear h3
 by_cases h4 : a1_0 = 1
 case pos =>
  subst h4
  cases inn with
  | false =>
   have p1 : (a1_3 == s.f0) = true := beq_iff_eq.mpr H1.out
   have p2 : (a1_3 != s.f0) = false := bne_eq_false_iff_eq.mpr H1.out
   have p3 : decide (1152921504606846976 ≤ s.f0) = false := decide_eq_false H2.out
   have p4 : decide (1152921504606846976 ≤ s.f1) = false := decide_eq_false H3.out
   have hG := HG.out
   unfold meta_Apply.g at hG
   rw [if_neg (fun h => h H1.out), if_neg H2.out, if_neg H3.out, if_neg (by simp), if_neg (by simp), if_neg (by simp)] at hG
   simp only [Option.some.injEq, Prod.mk.injEq, true_and] at hG
   obtain ⟨rfl, rfl⟩ := hG
   go_upto_region 7 with (fail)
   go_quiet (fail)
   go_upto_region 15 with (fail)
   go_quiet (fail)
   go_wp2
   first
    | (refine bodyPost_ret (results_ct rfl _ _ b4 24 #[.int .i64 t1, .slice (some ⟨g, 0, none⟩) sh.length co] (0, 0) _ rfl (blk_put (blk_put (blk_drewN BK4.out _) 0 _ rfl) 1 _ rfl) Try.underlying24 rfl (by kernel_rfl)) rfl ?_; exact ⟨_, rfl, Kd.S_set (Kd.S_set (Kd.S_drewN HO.out _) (blk_drewN BK4.out _) (by decide) 0 _) (blk_put (blk_drewN BK4.out _) 0 (.int .i64 t1) rfl) (by decide) 1 _, below_set (below_set (pw_below_drewN HB.out _) GE4.out) GE4.out⟩)
    | (refine bodyPost_ret (results_ct rfl _ _ b4 24 #[.int .i64 t1, .slice (some ⟨g, 0, none⟩) sh.length co] (0, 0) _ rfl (blk_put (blk_put (blk_drewN (blk_drewN BK4.out _) _) 0 _ rfl) 1 _ rfl) Try.underlying24 rfl (by kernel_rfl)) rfl ?_; exact ⟨_, rfl, Kd.S_set (Kd.S_set (Kd.S_drewN (Kd.S_drewN HO.out _) _) (blk_drewN (blk_drewN BK4.out _) _) (by decide) 0 _) (blk_put (blk_drewN (blk_drewN BK4.out _) _) 0 (.int .i64 t1) rfl) (by decide) 1 _, below_set (below_set (pw_below_drewN (pw_below_drewN HB.out _) _) GE4.out) GE4.out⟩)
  | true =>
   have p1 : (a1_3 == s.f0) = true := beq_iff_eq.mpr H1.out
   have p2 : (a1_3 != s.f0) = false := bne_eq_false_iff_eq.mpr H1.out
   have p3 : decide (1152921504606846976 ≤ s.f0) = false := decide_eq_false H2.out
   have p4 : decide (1152921504606846976 ≤ s.f1) = false := decide_eq_false H3.out
   have hG := HG.out
   unfold meta_Apply.g at hG
   rw [if_neg (fun h => h H1.out), if_neg H2.out, if_neg H3.out, if_pos ⟨rfl, rfl⟩] at hG
   simp only [Option.some.injEq, Prod.mk.injEq, true_and] at hG
   obtain ⟨rfl, rfl⟩ := hG
   go_upto_region 7 with (fail)
   go_quiet (fail)
   go_wp2
   first
    | (refine bodyPost_ret (results_ct rfl _ _ b4 24 #[.int .i64 t1, .slice (some ⟨g, 0, none⟩) sh.length co] (0, 0) _ rfl (blk_put (blk_put (blk_far (blk_far (blk_far (blk_drewN BK4.out _) NG4.out _) NG4.out _) NG4.out _) 0 _ rfl) 1 _ rfl) Try.underlying24 rfl (by kernel_rfl)) rfl ?_; exact ⟨_, rfl, Kd.S_set (Kd.S_set (meta_Apply.back (meta_Apply.set (meta_Apply.set (meta_Apply.set (Kd.H_drewN HH.out _) hlt 1 (by omega) rfl _ rfl) hlt 2 (by omega) rfl _ rfl) hlt 0 (by omega) rfl _ rfl) (Kd.R_far (Kd.R_far (Kd.R_far (Kd.R_drewN HRi.out _) (fun k hk => (HOK.out k hk).2) _) (fun k hk => (HOK.out k hk).2) _) (fun k hk => (HOK.out k hk).2) _)) (blk_far (blk_far (blk_far (blk_drewN BK4.out _) NG4.out _) NG4.out _) NG4.out _) (by decide) 0 _) (blk_put (blk_far (blk_far (blk_far (blk_drewN BK4.out _) NG4.out _) NG4.out _) NG4.out _) 0 (.int .i64 t1) rfl) (by decide) 1 _, below_set (below_set (below_set (below_set (below_set (pw_below_drewN HB.out _) GG.out) GG.out) GG.out) GE4.out) GE4.out⟩)
 have H4 := Aside0.mk h4
 clear h4
 by_cases h5 : a1_0 = 2
 case pos =>
  subst h5
  clear H4
  cases inn with
  | true =>
   have p1 : (a1_3 == s.f0) = true := beq_iff_eq.mpr H1.out
   have p2 : (a1_3 != s.f0) = false := bne_eq_false_iff_eq.mpr H1.out
   have p3 : decide (1152921504606846976 ≤ s.f0) = false := decide_eq_false H2.out
   have p4 : decide (1152921504606846976 ≤ s.f1) = false := decide_eq_false H3.out
   have hG := HG.out
   unfold meta_Apply.g at hG
   rw [if_neg (fun h => h H1.out), if_neg H2.out, if_neg H3.out, if_neg (by simp), if_neg (by simp), if_neg (by simp)] at hG
   simp only [Option.some.injEq, Prod.mk.injEq, true_and] at hG
   obtain ⟨rfl, rfl⟩ := hG
   go_upto_region 7 with (fail)
   go_quiet (fail)
   go_upto_region 15 with (fail)
   go_quiet (fail)
   go_wp2
   first
    | (refine bodyPost_ret (results_ct rfl _ _ b4 24 #[.int .i64 t1, .slice (some ⟨g, 0, none⟩) sh.length co] (0, 0) _ rfl (blk_put (blk_put (blk_drewN BK4.out _) 0 _ rfl) 1 _ rfl) Try.underlying24 rfl (by kernel_rfl)) rfl ?_; exact ⟨_, rfl, Kd.S_set (Kd.S_set (Kd.S_drewN HO.out _) (blk_drewN BK4.out _) (by decide) 0 _) (blk_put (blk_drewN BK4.out _) 0 (.int .i64 t1) rfl) (by decide) 1 _, below_set (below_set (pw_below_drewN HB.out _) GE4.out) GE4.out⟩)
    | (refine bodyPost_ret (results_ct rfl _ _ b4 24 #[.int .i64 t1, .slice (some ⟨g, 0, none⟩) sh.length co] (0, 0) _ rfl (blk_put (blk_put (blk_drewN (blk_drewN BK4.out _) _) 0 _ rfl) 1 _ rfl) Try.underlying24 rfl (by kernel_rfl)) rfl ?_; exact ⟨_, rfl, Kd.S_set (Kd.S_set (Kd.S_drewN (Kd.S_drewN HO.out _) _) (blk_drewN (blk_drewN BK4.out _) _) (by decide) 0 _) (blk_put (blk_drewN (blk_drewN BK4.out _) _) 0 (.int .i64 t1) rfl) (by decide) 1 _, below_set (below_set (pw_below_drewN (pw_below_drewN HB.out _) _) GE4.out) GE4.out⟩)
  | false =>
   by_cases h4 : s.f3.length < 17592186044416
   case neg =>
    have hG := HG.out
    unfold meta_Apply.g at hG
    rw [if_neg (fun h => h H1.out), if_neg H2.out, if_neg H3.out, if_neg (by simp), if_pos ⟨rfl, rfl⟩, if_neg h4] at hG
    cases hG
   have H4 := Aside0.mk h4
   clear h4
   have hz := HG.out
   unfold meta_Apply.g at hz
   rw [if_neg (fun h => h H1.out), if_neg H2.out, if_neg H3.out, if_neg (by simp), if_pos ⟨rfl, rfl⟩, if_pos H4.out] at hz
   obtain ⟨z, hz, _⟩ := Option.bind_eq_some_iff.mp hz
   have H5 := Aside0.mk hz
   clear hz
   have p1 : (a1_3 == s.f0) = true := beq_iff_eq.mpr H1.out
   have p2 : (a1_3 != s.f0) = false := bne_eq_false_iff_eq.mpr H1.out
   have p3 : decide (1152921504606846976 ≤ s.f0) = false := decide_eq_false H2.out
   have p4 : decide (1152921504606846976 ≤ s.f1) = false := decide_eq_false H3.out
   have NI2 := Aside0.mk (Kd.R_ne HRi.out BK2.out (by decide))
   have NI3 := Aside0.mk (Kd.R_ne HRi.out BK3.out (by decide))
   have NI4 := Aside0.mk (Kd.R_ne HRi.out BK4.out (by decide))
   have NI6 := Aside0.mk (Kd.R_ne HRi.out BK6.out (by decide))
   have GL := Aside0.mk (show g < w8.heap.size from World.block_lt_of_cell? w8 _ f0)
   have hG := HG.out
   unfold meta_Apply.g at hG
   rw [if_neg (fun h => h H1.out), if_neg H2.out, if_neg H3.out, if_neg (by simp), if_pos ⟨rfl, rfl⟩, if_pos H4.out, H5.out, Option.bind_some] at hG
   simp only [Option.some.injEq, Prod.mk.injEq, true_and] at hG
   obtain ⟨rfl, rfl⟩ := hG
   go_upto_region 7 with (fail)
   go_quiet (fail)
   go_upto_region 13 with (fail)
   have m2_ := Aside0.mk (blk_drewN BK2.out nq)
   have m3_ := Aside0.mk (blk_drewN BK3.out nq)
   have m4_ := Aside0.mk (blk_drewN BK4.out nq)
   have m6_ := Aside0.mk (blk_drewN BK6.out nq)
   have m8_ := Aside0.mk (pw_below_drewN HB.out nq)
   have m9_ := Aside0.mk (Kd.H_drewN HH.out nq)
   have m10_ := Aside0.mk (Kd.R_drewN HRi.out nq)
   have f0' : (w8.drewN nq).cell? ⟨g, i * 4, none⟩ = some (.int .u64 s.f0) := by simpa using f0
   have f3' : (w8.drewN nq).cell? ⟨g, i * 4 + 3, none⟩ = some (.slice ai s.f3.length ci) := by simpa using f3
   have k0' : (w8.drewN nq).frozen? ⟨g, i * 4, none⟩ = false := by simpa using k0
   have k3' : (w8.drewN nq).frozen? ⟨g, i * 4 + 3, none⟩ = false := by simpa using k3
   have GL' := Aside0.mk (show g < (w8.drewN nq).heap.size from GL.out)
   clear BK2 BK3 BK4 BK6 HO HB HH HRi f0 f1 f2 f3 k0 k1 k2 k3 GL
   clear hzg2_0 hyg2_0 hzg2_1 hyg2_1 hzg3_0 hyg3_0 hzg3_1 hyg3_1 hzg3_2 hyg3_2 hzg3_3 hyg3_3 hzg4_0 hyg4_0 hzg4_1 hyg4_1 hzg6_0 hyg6_0 hzg6_1 hyg6_1
   generalize w8.drewN nq = wb at *
   have BK2 := m2_
   have BK3 := m3_
   have BK4 := m4_
   have BK6 := m6_
   have HB := m8_
   have HH := m9_
   have HRi := m10_
   have GL := GL'
   clear m2_ m3_ m4_ m6_ m8_ m9_ m10_ GL'
   have hz3 : wb.cell? ⟨b3, 2, none⟩ = some (.int .i64 a1_2) := (blk_cell BK3.out 2).trans rfl
   have HH2 := Aside0.mk (Kd.H_widen HH.out)
   have hu40 := Try.underlying40
   have f3a : (wb.alloc (.cells #[.int .i64 a1_2] 3)).cell? ⟨g, i * 4 + 3, none⟩ = some (.slice ai s.f3.length ci) := Lib.cell?_alloc_some _ f3'
   go_region_law ((refine Kd.R_append_step (w0 := w) (W := wb.drew) (Kd.int .i64) w.heap.size (by simp [Region.wanted]) (.tmp 107) (.tmp 110) 40 3 (.int .i64 0) 8 rfl Try.underlying40 (by kernel_rfl) rfl (by decide) (by decide) (.slice ai s.f3.length ci) s.f3 a1_2 [.int .i64 a1_2] (fun k => oki k ∨ True ∧ wb.heap.size ≤ k) (fun _ => False) ?a1 ?a2 ?a3 (fun _ h => h.elim) ?a5 ?a6 ?a7 ?a8 ?a9 ?_); (case a1 => simp [Act.eval, Act.put]); (case a2 => simp [Act.eval, Act.put]); (case a3 => rfl); (case a5 => intro k hk; exact .inr ⟨trivial, by simpa using hk⟩); (case a6 => exact Kd.R_mono (Kd.R_drewN HRi.out _) (fun _ h => .inl h)); (case a7 => exact pw_below_drewN HB.out _); (case a8 => exact HB.out.size); (case a9 => have := H4.out; omega); intro v1 w1 r1 hb1 hgr1 _; obtain ⟨A1, c1, e1⟩ := Kd.R_slice r1; rw [List.length_append, List.length_singleton] at e1; subst e1; have H1x := Aside0.mk (Kd.H_grown (Kd.H_drew HH2.out) hgr1 (fun k hk => .inl (HRi.out.1 k hk))); have R1x := Aside0.mk r1; have B1x := Aside0.mk hb1; have x3 : w1.cell? ⟨g, i * 4 + 3, none⟩ = some (.slice ai s.f3.length ci) := meta_Apply.cells H1x.out hlt 3 _ rfl; have x0 : w1.cell? ⟨g, i * 4, none⟩ = some (.int .u64 s.f0) := meta_Apply.cells H1x.out hlt 0 _ rfl; have y3 : w1.frozen? ⟨g, i * 4 + 3, none⟩ = false := meta_Apply.frz2 hgr1 (fun e => (HOK.out g (HRi.out.1 g e.symm)).2 rfl) (by simpa using k3') (by simpa using GL.out); have y0 : w1.frozen? ⟨g, i * 4, none⟩ = false := meta_Apply.frz2 hgr1 (fun e => (HOK.out g (HRi.out.1 g e.symm)).2 rfl) (by simpa using k0') (by simpa using GL.out); have C2 := Aside0.mk (blk_grown (blk_drew BK2.out) hgr1 NI2.out); have C3 := Aside0.mk (blk_grown (blk_drew BK3.out) hgr1 NI3.out); have C4 := Aside0.mk (blk_grown (blk_drew BK4.out) hgr1 NI4.out); have C6 := Aside0.mk (blk_grown (blk_drew BK6.out) hgr1 NI6.out); clear r1 hb1 hgr1)
   all_goals
    have OKg : ∀ k, (oki k ∨ True ∧ wb.heap.size ≤ k) → k ≠ g := fun k hk => hk.elim (fun h => (HOK.out k h).2) (fun h e => by have := GL.out; omega)
    have OKG := Aside0.mk OKg
    have NV3 := Aside0.mk (Kd.R_ne R1x.out C3.out (by decide))
    have NV4 := Aside0.mk (Kd.R_ne R1x.out C4.out (by decide))
    have NV6 := Aside0.mk (Kd.R_ne R1x.out C6.out (by decide))
    have NVg := Aside0.mk (show ¬ some g = (Value.slice A1 (s.f3.length + 1) c1).ownBlock from fun e => OKg g (R1x.out.1 g e.symm) rfl)
    have H2x := Aside0.mk (meta_Apply.set H1x.out hlt 3 (by omega) rfl (.slice A1 (s.f3.length + 1) c1) rfl)
    have R2x := Aside0.mk (Kd.R_tight rfl (Kd.R_far (p := ⟨g, i * 4 + 3, none⟩) R1x.out (fun k hk => OKg k hk) (.slice A1 (s.f3.length + 1) c1)))
    have C4x := Aside0.mk (blk_far (p := ⟨g, i * 4 + 3, none⟩) C4.out NG4.out (.slice A1 (s.f3.length + 1) c1))
    have C6x := Aside0.mk (blk_far (p := ⟨g, i * 4 + 3, none⟩) C6.out NG6.out (.slice A1 (s.f3.length + 1) c1))
    have Y0 := Aside0.mk y0
    have B2x := Aside0.mk (below_set (j := i * 4 + 3) (v := (.slice A1 (s.f3.length + 1) c1)) B1x.out GG.out)
    clear OKg
    go_wp2_with (first | (go_at_call 47; refine (slices_Sort_int_int.calls (fun k => some k = (Value.slice A1 (s.f3.length + 1) c1).ownBlock) _ _ z w _ B2x.out R2x.out H5.out).mono ?_; rintro e w9 ⟨rfl, hR9, hB9, hk9⟩; have H9 := Aside0.mk (Kd.H_step H2x.out (fun k _ hn hl => hk9.2 k hl (fun e => hn (R1x.out.1 k e.symm)))); have R9 := Aside0.mk (show (Kd.int .i64).R 3 w9 w.heap.size (fun k => oki k ∨ True ∧ wb.heap.size ≤ k) (.slice A1 (s.f3.length + 1) c1) z from Kd.R_of_own (Kd.own_of_R hR9) R1x.out.1); have D4 := Aside0.mk (blk_kept C4x.out hk9 NV4.out); have D6 := Aside0.mk (blk_kept C6x.out hk9 NV6.out); have B9 := Aside0.mk hB9; have z0 : w9.cell? ⟨g, i * 4, none⟩ = some (.int .u64 s.f0) := meta_Apply.cells H9.out hlt 0 _ rfl; have u0 : w9.frozen? ⟨g, i * 4, none⟩ = false := meta_Apply.frz3 hk9 NVg.out (by simpa using Y0.out) (by simpa using World.block_lt_of_cell? w1 _ x0); clear hR9 hB9 hk9; have hzn4_0 : w9.cell? ⟨b4, 0, none⟩ = some (.int .i64 0) := (blk_cell D4.out 0).trans rfl; have hyn4_0 : w9.frozen? ⟨b4, 0, none⟩ = false := blk_frozen D4.out 0; have hzn4_1 : w9.cell? ⟨b4, 1, none⟩ = some (.slice none 0 0) := (blk_cell D4.out 1).trans rfl; have hyn4_1 : w9.frozen? ⟨b4, 1, none⟩ = false := blk_frozen D4.out 1; have hzn6_0 : w9.cell? ⟨b6, 0, none⟩ = some (.int .i64 t1) := (blk_cell D6.out 0).trans rfl; have hyn6_0 : w9.frozen? ⟨b6, 0, none⟩ = false := blk_frozen D6.out 0; have hzn6_1 : w9.cell? ⟨b6, 1, none⟩ = some (.slice (some ⟨g, 0, none⟩) sh.length co) := (blk_cell D6.out 1).trans rfl; have hyn6_1 : w9.frozen? ⟨b6, 1, none⟩ = false := blk_frozen D6.out 1))
    refine bodyPost_ret (results_ct rfl _ _ b4 24 #[.int .i64 t1, .slice (some ⟨g, 0, none⟩) sh.length co] (0, 0) _ rfl (blk_put (blk_put (blk_far D4.out NG4.out _) 0 _ rfl) 1 _ rfl) Try.underlying24 rfl (by kernel_rfl)) rfl ?_
    exact ⟨_, rfl, Kd.S_set (Kd.S_set (meta_Apply.back (meta_Apply.set H9.out hlt 0 (by omega) rfl _ rfl) (Kd.R_far R9.out (fun k hk => OKG.out k hk) _)) (blk_far D4.out NG4.out _) (by decide) 0 _) (blk_put (blk_far D4.out NG4.out _) 0 (.int .i64 t1) rfl) (by decide) 1 _, below_set (below_set (below_set B9.out GG.out) GE4.out) GE4.out⟩
 have H5 := Aside0.mk h5
 clear h5
 by_cases h6 : a1_0 = 3
 case pos =>
  subst h6
  clear H4 H5
  cases inn with
  | false =>
   have p1 : (a1_3 == s.f0) = true := beq_iff_eq.mpr H1.out
   have p2 : (a1_3 != s.f0) = false := bne_eq_false_iff_eq.mpr H1.out
   have p3 : decide (1152921504606846976 ≤ s.f0) = false := decide_eq_false H2.out
   have p4 : decide (1152921504606846976 ≤ s.f1) = false := decide_eq_false H3.out
   have hG := HG.out
   unfold meta_Apply.g at hG
   rw [if_neg (fun h => h H1.out), if_neg H2.out, if_neg H3.out, if_neg (by simp), if_neg (by simp), if_neg (by simp)] at hG
   simp only [Option.some.injEq, Prod.mk.injEq, true_and] at hG
   obtain ⟨rfl, rfl⟩ := hG
   go_upto_region 7 with (fail)
   go_quiet (fail)
   go_upto_region 15 with (fail)
   go_quiet (fail)
   go_wp2
   first
    | (refine bodyPost_ret (results_ct rfl _ _ b4 24 #[.int .i64 t1, .slice (some ⟨g, 0, none⟩) sh.length co] (0, 0) _ rfl (blk_put (blk_put (blk_drewN BK4.out _) 0 _ rfl) 1 _ rfl) Try.underlying24 rfl (by kernel_rfl)) rfl ?_; exact ⟨_, rfl, Kd.S_set (Kd.S_set (Kd.S_drewN HO.out _) (blk_drewN BK4.out _) (by decide) 0 _) (blk_put (blk_drewN BK4.out _) 0 (.int .i64 t1) rfl) (by decide) 1 _, below_set (below_set (pw_below_drewN HB.out _) GE4.out) GE4.out⟩)
    | (refine bodyPost_ret (results_ct rfl _ _ b4 24 #[.int .i64 t1, .slice (some ⟨g, 0, none⟩) sh.length co] (0, 0) _ rfl (blk_put (blk_put (blk_drewN (blk_drewN BK4.out _) _) 0 _ rfl) 1 _ rfl) Try.underlying24 rfl (by kernel_rfl)) rfl ?_; exact ⟨_, rfl, Kd.S_set (Kd.S_set (Kd.S_drewN (Kd.S_drewN HO.out _) _) (blk_drewN (blk_drewN BK4.out _) _) (by decide) 0 _) (blk_put (blk_drewN (blk_drewN BK4.out _) _) 0 (.int .i64 t1) rfl) (by decide) 1 _, below_set (below_set (pw_below_drewN (pw_below_drewN HB.out _) _) GE4.out) GE4.out⟩)
  | true =>
   by_cases h4 : a1_2 = s.f2
   case pos =>
    have H4 := Aside0.mk h4
    clear h4
    have p1 : (a1_3 == s.f0) = true := beq_iff_eq.mpr H1.out
    have p2 : (a1_3 != s.f0) = false := bne_eq_false_iff_eq.mpr H1.out
    have p3 : decide (1152921504606846976 ≤ s.f0) = false := decide_eq_false H2.out
    have p4 : decide (1152921504606846976 ≤ s.f1) = false := decide_eq_false H3.out
    have p5 : (a1_2 == s.f2) = true := beq_iff_eq.mpr H4.out
    have p6 : (a1_2 != s.f2) = false := bne_eq_false_iff_eq.mpr H4.out
    have hG := HG.out
    unfold meta_Apply.g at hG
    rw [if_neg (fun h => h H1.out), if_neg H2.out, if_neg H3.out, if_neg (by simp), if_neg (by simp), if_neg (fun h => h.2.2 H4.out)] at hG
    simp only [Option.some.injEq, Prod.mk.injEq, true_and] at hG
    obtain ⟨rfl, rfl⟩ := hG
    go_upto_region 7 with (fail)
    go_quiet (fail)
    go_upto_region 15 with (fail)
    go_quiet (fail)
    go_wp2
    first
     | (refine bodyPost_ret (results_ct rfl _ _ b4 24 #[.int .i64 t1, .slice (some ⟨g, 0, none⟩) sh.length co] (0, 0) _ rfl (blk_put (blk_put (blk_drewN BK4.out _) 0 _ rfl) 1 _ rfl) Try.underlying24 rfl (by kernel_rfl)) rfl ?_; exact ⟨_, rfl, Kd.S_set (Kd.S_set (Kd.S_drewN HO.out _) (blk_drewN BK4.out _) (by decide) 0 _) (blk_put (blk_drewN BK4.out _) 0 (.int .i64 t1) rfl) (by decide) 1 _, below_set (below_set (pw_below_drewN HB.out _) GE4.out) GE4.out⟩)
     | (refine bodyPost_ret (results_ct rfl _ _ b4 24 #[.int .i64 t1, .slice (some ⟨g, 0, none⟩) sh.length co] (0, 0) _ rfl (blk_put (blk_put (blk_drewN (blk_drewN BK4.out _) _) 0 _ rfl) 1 _ rfl) Try.underlying24 rfl (by kernel_rfl)) rfl ?_; exact ⟨_, rfl, Kd.S_set (Kd.S_set (Kd.S_drewN (Kd.S_drewN HO.out _) _) (blk_drewN (blk_drewN BK4.out _) _) (by decide) 0 _) (blk_put (blk_drewN (blk_drewN BK4.out _) _) 0 (.int .i64 t1) rfl) (by decide) 1 _, below_set (below_set (pw_below_drewN (pw_below_drewN HB.out _) _) GE4.out) GE4.out⟩)
   by_cases h5 : s.f3 = []
   case pos =>
    have hG := HG.out
    unfold meta_Apply.g at hG
    rw [if_neg (fun h => h H1.out), if_neg H2.out, if_neg H3.out, if_neg (by simp), if_neg (by simp), if_pos ⟨rfl, rfl, h4⟩, if_pos h5] at hG
    cases hG
   have H4 := Aside0.mk h4
   have H5 := Aside0.mk h5
   clear h4 h5
   have p1 : (a1_3 == s.f0) = true := beq_iff_eq.mpr H1.out
   have p2 : (a1_3 != s.f0) = false := bne_eq_false_iff_eq.mpr H1.out
   have p3 : decide (1152921504606846976 ≤ s.f0) = false := decide_eq_false H2.out
   have p4 : decide (1152921504606846976 ≤ s.f1) = false := decide_eq_false H3.out
   have p5 : (a1_2 == s.f2) = false := beq_eq_false_iff_ne.mpr H4.out
   have p6 : (a1_2 != s.f2) = true := bne_iff_ne.mpr H4.out
   obtain ⟨gi, capi, hvi, hgib, hgis, _⟩ := Kd.R_form HRi.out (List.length_pos_iff.2 H5.out)
   injection hvi with hvi1 _ hvi3
   subst hvi1
   subst hvi3
   have NI2 := Aside0.mk (show b2 ≠ gi from fun e => Kd.R_ne HRi.out BK2.out (by decide) (by rw [e]; rfl))
   have NI3 := Aside0.mk (show b3 ≠ gi from fun e => Kd.R_ne HRi.out BK3.out (by decide) (by rw [e]; rfl))
   have NI4 := Aside0.mk (show b4 ≠ gi from fun e => Kd.R_ne HRi.out BK4.out (by decide) (by rw [e]; rfl))
   have NI6 := Aside0.mk (show b6 ≠ gi from fun e => Kd.R_ne HRi.out BK6.out (by decide) (by rw [e]; rfl))
   have OG := Aside0.mk (HRi.out.1 gi rfl)
   have NGI := Aside0.mk (HOK.out gi OG.out).2
   have GI := Aside0.mk hgib
   have GL := Aside0.mk (show g < w8.heap.size from World.block_lt_of_cell? w8 _ f0)
   clear hgib hgis
   have hG := HG.out
   unfold meta_Apply.g at hG
   rw [if_neg (fun h => h H1.out), if_neg H2.out, if_neg H3.out, if_neg (by simp), if_neg (by simp), if_pos ⟨rfl, rfl, H4.out⟩, if_neg H5.out] at hG
   simp only [Option.some.injEq, Prod.mk.injEq, true_and] at hG
   obtain ⟨rfl, rfl⟩ := hG
   go_upto_region 7 with (fail)
   go_quiet (fail)
   go_upto_region 15 with (fail)
   go_quiet (fail)
   go_wp2_with (first | (go_at_call 50; refine (meta_Apply.del s.f3 a1_2 gi ci b3 _ oki _ (Kd.R_drewN HRi.out _) NI3.out (blk_lt (blk_drewN BK3.out _)) ((blk_cell (blk_drewN BK3.out _) 2).trans rfl)).mono ?_; rintro e w9 ⟨rfl, hgr, hR9⟩; have H9 := Aside0.mk (Kd.H_grown (Kd.H_drewN HH.out _) hgr (fun k hk => by injection hk with hk; rw [← hk]; exact OG.out)); have R9 := Aside0.mk hR9; have C2 := Aside0.mk (blk_grown (blk_drewN BK2.out _) hgr (fun e => NI2.out (by injection e))); have C3 := Aside0.mk (blk_grown (blk_drewN BK3.out _) hgr (fun e => NI3.out (by injection e))); have C4 := Aside0.mk (blk_grown (blk_drewN BK4.out _) hgr (fun e => NI4.out (by injection e))); have C6 := Aside0.mk (blk_grown (blk_drewN BK6.out _) hgr (fun e => NI6.out (by injection e))); have B9 := Aside0.mk (pw_below_grown (pw_below_drewN HB.out _) _ (below_size (pw_below_drewN HB.out _)) hgr (fun k hk => by injection hk with hk; rw [← hk]; exact GI.out)); have x0 : w9.cell? ⟨g, i * 4, none⟩ = some (.int .u64 s.f0) := meta_Apply.cells H9.out hlt 0 _ rfl; have x3 : w9.cell? ⟨g, i * 4 + 3, none⟩ = some (.slice (some ⟨gi, 0, none⟩) s.f3.length ci) := meta_Apply.cells H9.out hlt 3 _ rfl; have y0 : w9.frozen? ⟨g, i * 4, none⟩ = false := meta_Apply.frz hgr NGI.out (by simpa using k0) (by simpa using GL.out); have y3 : w9.frozen? ⟨g, i * 4 + 3, none⟩ = false := meta_Apply.frz hgr NGI.out (by simpa using k3) (by simpa using GL.out); clear hR9 hgr; have hzn4_0 : w9.cell? ⟨b4, 0, none⟩ = some (.int .i64 0) := (blk_cell C4.out 0).trans rfl; have hyn4_0 : w9.frozen? ⟨b4, 0, none⟩ = false := blk_frozen C4.out 0; have hzn4_1 : w9.cell? ⟨b4, 1, none⟩ = some (.slice none 0 0) := (blk_cell C4.out 1).trans rfl; have hyn4_1 : w9.frozen? ⟨b4, 1, none⟩ = false := blk_frozen C4.out 1; have hzn6_0 : w9.cell? ⟨b6, 0, none⟩ = some (.int .i64 t1) := (blk_cell C6.out 0).trans rfl; have hyn6_0 : w9.frozen? ⟨b6, 0, none⟩ = false := blk_frozen C6.out 0; have hzn6_1 : w9.cell? ⟨b6, 1, none⟩ = some (.slice (some ⟨g, 0, none⟩) sh.length co) := (blk_cell C6.out 1).trans rfl; have hyn6_1 : w9.frozen? ⟨b6, 1, none⟩ = false := blk_frozen C6.out 1) | (go_at_call 50; refine (meta_Apply.del s.f3 a1_2 gi ci b3 _ oki _ (Kd.R_drewN (Kd.R_drewN HRi.out _) _) NI3.out (blk_lt (blk_drewN (blk_drewN BK3.out _) _)) ((blk_cell (blk_drewN (blk_drewN BK3.out _) _) 2).trans rfl)).mono ?_; rintro e w9 ⟨rfl, hgr, hR9⟩; have H9 := Aside0.mk (Kd.H_grown (Kd.H_drewN (Kd.H_drewN HH.out _) _) hgr (fun k hk => by injection hk with hk; rw [← hk]; exact OG.out)); have R9 := Aside0.mk hR9; have C2 := Aside0.mk (blk_grown (blk_drewN (blk_drewN BK2.out _) _) hgr (fun e => NI2.out (by injection e))); have C3 := Aside0.mk (blk_grown (blk_drewN (blk_drewN BK3.out _) _) hgr (fun e => NI3.out (by injection e))); have C4 := Aside0.mk (blk_grown (blk_drewN (blk_drewN BK4.out _) _) hgr (fun e => NI4.out (by injection e))); have C6 := Aside0.mk (blk_grown (blk_drewN (blk_drewN BK6.out _) _) hgr (fun e => NI6.out (by injection e))); have B9 := Aside0.mk (pw_below_grown (pw_below_drewN (pw_below_drewN HB.out _) _) _ (below_size (pw_below_drewN (pw_below_drewN HB.out _) _)) hgr (fun k hk => by injection hk with hk; rw [← hk]; exact GI.out)); have x0 : w9.cell? ⟨g, i * 4, none⟩ = some (.int .u64 s.f0) := meta_Apply.cells H9.out hlt 0 _ rfl; have x3 : w9.cell? ⟨g, i * 4 + 3, none⟩ = some (.slice (some ⟨gi, 0, none⟩) s.f3.length ci) := meta_Apply.cells H9.out hlt 3 _ rfl; have y0 : w9.frozen? ⟨g, i * 4, none⟩ = false := meta_Apply.frz hgr NGI.out (by simpa using k0) (by simpa using GL.out); have y3 : w9.frozen? ⟨g, i * 4 + 3, none⟩ = false := meta_Apply.frz hgr NGI.out (by simpa using k3) (by simpa using GL.out); clear hR9 hgr; have hzn4_0 : w9.cell? ⟨b4, 0, none⟩ = some (.int .i64 0) := (blk_cell C4.out 0).trans rfl; have hyn4_0 : w9.frozen? ⟨b4, 0, none⟩ = false := blk_frozen C4.out 0; have hzn4_1 : w9.cell? ⟨b4, 1, none⟩ = some (.slice none 0 0) := (blk_cell C4.out 1).trans rfl; have hyn4_1 : w9.frozen? ⟨b4, 1, none⟩ = false := blk_frozen C4.out 1; have hzn6_0 : w9.cell? ⟨b6, 0, none⟩ = some (.int .i64 t1) := (blk_cell C6.out 0).trans rfl; have hyn6_0 : w9.frozen? ⟨b6, 0, none⟩ = false := blk_frozen C6.out 0; have hzn6_1 : w9.cell? ⟨b6, 1, none⟩ = some (.slice (some ⟨g, 0, none⟩) sh.length co) := (blk_cell C6.out 1).trans rfl; have hyn6_1 : w9.frozen? ⟨b6, 1, none⟩ = false := blk_frozen C6.out 1))
   first
    | (refine bodyPost_ret (results_ct rfl _ _ b4 24 #[.int .i64 t1, .slice (some ⟨g, 0, none⟩) sh.length co] (0, 0) _ rfl (blk_put (blk_put (blk_far (blk_far C4.out NG4.out _) NG4.out _) 0 _ rfl) 1 _ rfl) Try.underlying24 rfl (by kernel_rfl)) rfl ?_; exact ⟨_, rfl, Kd.S_set (Kd.S_set (meta_Apply.back (meta_Apply.set (meta_Apply.set H9.out hlt 3 (by omega) rfl _ rfl) hlt 0 (by omega) rfl _ rfl) (Kd.R_far (Kd.R_far R9.out (fun k hk => (HOK.out k hk).2) _) (fun k hk => (HOK.out k hk).2) _)) (blk_far (blk_far C4.out NG4.out _) NG4.out _) (by decide) 0 _) (blk_put (blk_far (blk_far C4.out NG4.out _) NG4.out _) 0 (.int .i64 t1) rfl) (by decide) 1 _, below_set (below_set (below_set (below_set B9.out GG.out) GG.out) GE4.out) GE4.out⟩)
 have H6 := Aside0.mk h6
 clear h6
 have p1 : (a1_3 == s.f0) = true := beq_iff_eq.mpr H1.out
 have p2 : (a1_3 != s.f0) = false := bne_eq_false_iff_eq.mpr H1.out
 have p3 : decide (1152921504606846976 ≤ s.f0) = false := decide_eq_false H2.out
 have p4 : decide (1152921504606846976 ≤ s.f1) = false := decide_eq_false H3.out
 have p5 : (a1_0 == 1) = false := beq_eq_false_iff_ne.mpr H4.out
 have p6 : (a1_0 == 2) = false := beq_eq_false_iff_ne.mpr H5.out
 have p7 : (a1_0 == 3) = false := beq_eq_false_iff_ne.mpr H6.out
 have hG := HG.out
 unfold meta_Apply.g at hG
 rw [if_neg (fun h => h H1.out), if_neg H2.out, if_neg H3.out, if_neg (fun h => H4.out h.1), if_neg (fun h => H5.out h.1), if_neg (fun h => H6.out h.1)] at hG
 simp only [Option.some.injEq, Prod.mk.injEq, true_and] at hG
 obtain ⟨rfl, rfl⟩ := hG
 go_upto_region 7 with (fail)
 go_quiet (fail)
 go_upto_region 15 with (fail)
 go_quiet (fail)
 go_wp2
 first
  | (refine bodyPost_ret (results_ct rfl _ _ b4 24 #[.int .i64 t1, .slice (some ⟨g, 0, none⟩) sh.length co] (0, 0) _ rfl (blk_put (blk_put (blk_drewN BK4.out _) 0 _ rfl) 1 _ rfl) Try.underlying24 rfl (by kernel_rfl)) rfl ?_; exact ⟨_, rfl, Kd.S_set (Kd.S_set (Kd.S_drewN HO.out _) (blk_drewN BK4.out _) (by decide) 0 _) (blk_put (blk_drewN BK4.out _) 0 (.int .i64 t1) rfl) (by decide) 1 _, below_set (below_set (pw_below_drewN HB.out _) GE4.out) GE4.out⟩)
  | (refine bodyPost_ret (results_ct rfl _ _ b4 24 #[.int .i64 t1, .slice (some ⟨g, 0, none⟩) sh.length co] (0, 0) _ rfl (blk_put (blk_put (blk_drewN (blk_drewN BK4.out _) _) 0 _ rfl) 1 _ rfl) Try.underlying24 rfl (by kernel_rfl)) rfl ?_; exact ⟨_, rfl, Kd.S_set (Kd.S_set (Kd.S_drewN (Kd.S_drewN HO.out _) _) (blk_drewN (blk_drewN BK4.out _) _) (by decide) 0 _) (blk_put (blk_drewN (blk_drewN BK4.out _) _) 0 (.int .i64 t1) rfl) (by decide) 1 _, below_set (below_set (pw_below_drewN (pw_below_drewN HB.out _) _) GE4.out) GE4.out⟩)

theorem meta_Apply.g_fst {n : Int} {l : List S42} {kd sd nd rv : Int} {s : S42} {i : Bool} {r1 : Int} {r2 : List S42} {r3 : Bool} (h : meta_Apply.g n l kd sd nd rv s i = some (r1, r2, r3)) : r1 = n := by
 unfold meta_Apply.g at h
 repeat' first
  | split at h
  | (simp only [Option.some.injEq, Prod.mk.injEq] at h; exact h.1.symm)
  | (obtain ⟨z, _, h⟩ := Option.bind_eq_some_iff.mp h; simp only [Option.some.injEq, Prod.mk.injEq] at h; exact h.1.symm)
  | cases h
theorem meta_Apply.mono : ∀ a0 a1 a2 a3 a4 a5 k, LeO (meta_Apply.f k a0 a1 a2 a3 a4 a5) (meta_Apply.f (k + 1) a0 a1 a2 a3 a4 a5) := by
 intro a0 a1 a2 a3 a4 a5 k
 unfold meta_Apply.f
 refine LeO.bind (meta_Copy.mono _ _ _) (fun b => ?_)
 refine LeO.bind (meta_Form.mono _ _ _) (fun t => ?_)
 refine LeO.ite ?_ (LeO.refl _)
 refine LeO.ite ?_ (LeO.refl _)
 exact LeO.bind (slices_Contains_int_int.mono _ _ _) (fun i => LeO.refl _)
theorem meta_Apply.calls (k : Nat) (a0_0 : Int) (A0_1 : Option Addr) (c0_1 : Nat) (l0_1 : List (S42)) (a1_0 : Int) (a1_1 : Int) (a1_2 : Int) (a1_3 : Int) (r1 : Int) (r2 : List (S42)) (r3 : Bool) (w : World) (hr0_1 : Kd.C k42 w A0_1 l0_1.length l0_1) (hc0_1 : l0_1.length ≤ c0_1) (h : meta_Apply.f k a0_0 l0_1 a1_0 a1_1 a1_2 a1_3 = some (r1, r2, r3)) :
  Calls Try.prog 22 #[.agg #[.int .i64 a0_0, .slice A0_1 l0_1.length c0_1], .agg #[.int .u8 a1_0, .int .i64 a1_1, .int .i64 a1_2, .int .u64 a1_3]] w fun e w' => ∃ v1_ : Value, e = .returned (.tuple #[.agg #[.int .i64 r1, v1_], .bool r3]) ∧ Kd.S k42 42 w' w.heap.size (fun _ => True) v1_ r2 ∧ Below w.heap.size w w' := by
 unfold meta_Apply.f at h
 obtain ⟨⟨t1, sh⟩, ha, h⟩ := Option.bind_eq_some_iff.mp h
 obtain ⟨fm, hf, h⟩ := Option.bind_eq_some_iff.mp h
 by_cases hc : fm = true ∧ 0 ≤ a1_1 ∧ a1_1 < (l0_1.length : Int) ∧ 0 ≤ a1_2 ∧ a1_2 < a0_0
 ·rw [if_pos hc] at h
  obtain ⟨rfl, h1, h2, h3, h4⟩ := hc
  by_cases hs : a1_1 < (sh.length : Int)
  ·rw [if_pos hs] at h
   obtain ⟨inn, hi, h⟩ := Option.bind_eq_some_iff.mp h
   obtain rfl := meta_Apply.g_fst h
   obtain ⟨i, rfl⟩ := Int.eq_ofNat_of_zero_le h1
   exact meta_Apply.yes k a0_0 A0_1 c0_1 l0_1 a1_0 i a1_2 a1_3 _ sh w hr0_1 hc0_1 ha hf h2 h3 h4 (by omega) inn hi r3 r2 h
  ·rw [if_neg hs] at h
   cases h
 ·rw [if_neg hc] at h
  simp only [Option.some.injEq, Prod.mk.injEq] at h
  obtain ⟨rfl, rfl, rfl⟩ := h
  exact meta_Apply.no k a0_0 A0_1 c0_1 l0_1 a1_0 a1_1 a1_2 a1_3 _ sh w hr0_1 hc0_1 ha fm hf hc

end Go.Proofs.Ytkoaeiiaagipeaa.PMetaStays
