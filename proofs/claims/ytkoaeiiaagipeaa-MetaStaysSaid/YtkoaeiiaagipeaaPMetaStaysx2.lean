-- WRITTEN BY A PROGRAM OF THIS SESSION (wip/patch_print.py: the kit's printer with rules of this session's own); Lean checks it.
import Derived.Test.YtkoaeiiaagipeaaPMetaStaysx0
import Derived.Test.YtkoaeiiaagipeaaPMetaStaysx1
namespace Go.Proofs.Ytkoaeiiaagipeaa.PMetaStays
open Go.RowKit Go.Proofs.YtkoaeiiaagipeaaW.PrintWords Go.Proofs.YtkoaeiiaagipeaaW.PrintLast Go.Proofs.YtkoaeiiaagipeaaW.PrintMore
open Go.Proofs.Ytkoaeiiaagipeaa.G
attribute [local go_sem] max2_int min2_int max_two min_two max_three min_three max_four min_four   -- for this text's walks alone
set_option linter.unusedVariables false
set_option linter.unusedSimpArgs false

/-! ### meta_Form: function 19 -/
mutual
def meta_Form.j0 : Nat → Bool → Int → List (S42) → Option (Bool)
 | 0, _, _, _ => none
 | k + 1, x26, x114000, x114001 => if x26 = true then (some false) else (meta_Form.l0 k x114001 (x114001.length : Int) 0 x114000 x114001)
def meta_Form.l0 : Nat → List (S42) → Int → Int → Int → List (S42) → Option (Bool)
 | 0, _, _, _, _, _ => none
 | k + 1, x28, x29, x30, x114000, x114001 => if x30 < x29 then (if 0 ≤ x30 then (if x30 < (x28.length : Int) then (meta_Form.l1 k x28 x29 x30 ((rd_T42 x28 x30).f3) (((rd_T42 x28 x30).f3).length : Int) 0 x114000 x114001 ((rd_T42 x28 x30).f0) ((rd_T42 x28 x30).f1) ((rd_T42 x28 x30).f2) ((rd_T42 x28 x30).f3)) else (none)) else (none)) else (some true)
def meta_Form.l1 : Nat → List (S42) → Int → Int → List Int → Int → Int → Int → List (S42) → Int → Int → Int → List Int → Option (Bool)
 | 0, _, _, _, _, _, _, _, _, _, _, _, _ => none
 | k + 1, x28, x29, x30, x35, x36, x37, x114000, x114001, x116000, x116001, x116002, x116003 => if x37 < x36 then (if 0 ≤ x37 then (if x37 < (x35.length : Int) then (if (rd x35 x37) < 0 then (meta_Form.j3 k x28 x29 x30 x35 x36 x37 true x114000 x114001 x116000 x116001 x116002 x116003) else (if (rd x35 x37) ≥ x114000 then (meta_Form.j3 k x28 x29 x30 x35 x36 x37 true x114000 x114001 x116000 x116001 x116002 x116003) else (if x37 > 0 then (if 0 ≤ (wrap64 (x37 - 1)) then (if (wrap64 (x37 - 1)) < (x116003.length : Int) then (meta_Form.j3 k x28 x29 x30 x35 x36 x37 (decide ((rd x35 x37) ≤ (rd x116003 (wrap64 (x37 - 1))))) x114000 x114001 x116000 x116001 x116002 x116003) else (none)) else (none)) else (meta_Form.j3 k x28 x29 x30 x35 x36 x37 false x114000 x114001 x116000 x116001 x116002 x116003)))) else (none)) else (none)) else (if x116001 < 1 then (some false) else ((slices_Contains_int_int.f k x116003 x116002).bind fun t118 => (if t118 = true then (meta_Form.l0 k x28 x29 (wrap64 (x30 + 1)) x114000 x114001) else (some false))))
def meta_Form.j3 : Nat → List (S42) → Int → Int → List Int → Int → Int → Bool → Int → List (S42) → Int → Int → Int → List Int → Option (Bool)
 | 0, _, _, _, _, _, _, _, _, _, _, _, _, _ => none
 | k + 1, x28, x29, x30, x35, x36, x37, x63, x114000, x114001, x116000, x116001, x116002, x116003 => if x63 = true then (some false) else (meta_Form.l1 k x28 x29 x30 x35 x36 (wrap64 (x37 + 1)) x114000 x114001 x116000 x116001 x116002 x116003)
end
def meta_Form.f (k : Nat) (a0_0 : Int) (l0_1 : List (S42)) : Option (Bool) := if a0_0 < 1 then (meta_Form.j0 k true a0_0 l0_1) else (if a0_0 > 5 then (meta_Form.j0 k true a0_0 l0_1) else (if (l0_1.length : Int) < 1 then (meta_Form.j0 k true a0_0 l0_1) else (meta_Form.j0 k (decide ((l0_1.length : Int) > 8)) a0_0 l0_1)))
theorem meta_Form.mono_l : ∀ k, (∀ y0 y1 y2, LeO (meta_Form.j0 k y0 y1 y2) (meta_Form.j0 (k + 1) y0 y1 y2)) ∧ (∀ y0 y1 y2 y3 y4, LeO (meta_Form.l0 k y0 y1 y2 y3 y4) (meta_Form.l0 (k + 1) y0 y1 y2 y3 y4)) ∧ (∀ y0 y1 y2 y3 y4 y5 y6 y7 y8 y9 y10 y11, LeO (meta_Form.l1 k y0 y1 y2 y3 y4 y5 y6 y7 y8 y9 y10 y11) (meta_Form.l1 (k + 1) y0 y1 y2 y3 y4 y5 y6 y7 y8 y9 y10 y11)) ∧ (∀ y0 y1 y2 y3 y4 y5 y6 y7 y8 y9 y10 y11 y12, LeO (meta_Form.j3 k y0 y1 y2 y3 y4 y5 y6 y7 y8 y9 y10 y11 y12) (meta_Form.j3 (k + 1) y0 y1 y2 y3 y4 y5 y6 y7 y8 y9 y10 y11 y12))
 | 0 => ⟨fun _ _ _ r h => by simp [meta_Form.j0] at h, fun _ _ _ _ _ r h => by simp [meta_Form.l0] at h, fun _ _ _ _ _ _ _ _ _ _ _ _ r h => by simp [meta_Form.l1] at h, fun _ _ _ _ _ _ _ _ _ _ _ _ _ r h => by simp [meta_Form.j3] at h⟩
 | k + 1 => by
  obtain ⟨ih0, ih1, ih2, ih3⟩ := meta_Form.mono_l k
  refine ⟨?_, ?_, ?_, ?_⟩
  ·intro y0 y1 y2
   unfold meta_Form.j0
   repeat' first
   | (with_reducible exact ih0 _ _ _)
   | (with_reducible exact ih1 _ _ _ _ _)
   | (with_reducible exact ih2 _ _ _ _ _ _ _ _ _ _ _ _)
   | (with_reducible exact ih3 _ _ _ _ _ _ _ _ _ _ _ _ _)
   | (with_reducible exact slices_Contains_int_int.mono _ _ _)
   | (with_reducible exact LeO.refl _)
   | (with_reducible exact LeO.none _)
   | (with_reducible refine LeO.ite ?_ ?_)
   | (with_reducible refine LeO.bind ?_ (fun _ => ?_))
   | exact ih0 _ _ _
   | exact ih1 _ _ _ _ _
   | exact ih2 _ _ _ _ _ _ _ _ _ _ _ _
   | exact ih3 _ _ _ _ _ _ _ _ _ _ _ _ _
   | exact slices_Contains_int_int.mono _ _ _
   | exact LeO.none _
   | refine LeO.ite ?_ ?_
   | refine LeO.bind ?_ (fun _ => ?_)
  ·intro y0 y1 y2 y3 y4
   unfold meta_Form.l0
   repeat' first
   | (with_reducible exact ih0 _ _ _)
   | (with_reducible exact ih1 _ _ _ _ _)
   | (with_reducible exact ih2 _ _ _ _ _ _ _ _ _ _ _ _)
   | (with_reducible exact ih3 _ _ _ _ _ _ _ _ _ _ _ _ _)
   | (with_reducible exact slices_Contains_int_int.mono _ _ _)
   | (with_reducible exact LeO.refl _)
   | (with_reducible exact LeO.none _)
   | (with_reducible refine LeO.ite ?_ ?_)
   | (with_reducible refine LeO.bind ?_ (fun _ => ?_))
   | exact ih0 _ _ _
   | exact ih1 _ _ _ _ _
   | exact ih2 _ _ _ _ _ _ _ _ _ _ _ _
   | exact ih3 _ _ _ _ _ _ _ _ _ _ _ _ _
   | exact slices_Contains_int_int.mono _ _ _
   | exact LeO.none _
   | refine LeO.ite ?_ ?_
   | refine LeO.bind ?_ (fun _ => ?_)
  ·intro y0 y1 y2 y3 y4 y5 y6 y7 y8 y9 y10 y11
   unfold meta_Form.l1
   repeat' first
   | (with_reducible exact ih0 _ _ _)
   | (with_reducible exact ih1 _ _ _ _ _)
   | (with_reducible exact ih2 _ _ _ _ _ _ _ _ _ _ _ _)
   | (with_reducible exact ih3 _ _ _ _ _ _ _ _ _ _ _ _ _)
   | (with_reducible exact slices_Contains_int_int.mono _ _ _)
   | (with_reducible exact LeO.refl _)
   | (with_reducible exact LeO.none _)
   | (with_reducible refine LeO.ite ?_ ?_)
   | (with_reducible refine LeO.bind ?_ (fun _ => ?_))
   | exact ih0 _ _ _
   | exact ih1 _ _ _ _ _
   | exact ih2 _ _ _ _ _ _ _ _ _ _ _ _
   | exact ih3 _ _ _ _ _ _ _ _ _ _ _ _ _
   | exact slices_Contains_int_int.mono _ _ _
   | exact LeO.none _
   | refine LeO.ite ?_ ?_
   | refine LeO.bind ?_ (fun _ => ?_)
  ·intro y0 y1 y2 y3 y4 y5 y6 y7 y8 y9 y10 y11 y12
   unfold meta_Form.j3
   repeat' first
   | (with_reducible exact ih0 _ _ _)
   | (with_reducible exact ih1 _ _ _ _ _)
   | (with_reducible exact ih2 _ _ _ _ _ _ _ _ _ _ _ _)
   | (with_reducible exact ih3 _ _ _ _ _ _ _ _ _ _ _ _ _)
   | (with_reducible exact slices_Contains_int_int.mono _ _ _)
   | (with_reducible exact LeO.refl _)
   | (with_reducible exact LeO.none _)
   | (with_reducible refine LeO.ite ?_ ?_)
   | (with_reducible refine LeO.bind ?_ (fun _ => ?_))
   | exact ih0 _ _ _
   | exact ih1 _ _ _ _ _
   | exact ih2 _ _ _ _ _ _ _ _ _ _ _ _
   | exact ih3 _ _ _ _ _ _ _ _ _ _ _ _ _
   | exact slices_Contains_int_int.mono _ _ _
   | exact LeO.none _
   | refine LeO.ite ?_ ?_
   | refine LeO.bind ?_ (fun _ => ?_)
theorem meta_Form.mono : ∀ a0 a1 k, LeO (meta_Form.f k a0 a1) (meta_Form.f (k + 1) a0 a1) := by
 intro a0 a1 k
 obtain ⟨ih0, ih1, ih2, ih3⟩ := meta_Form.mono_l k
 unfold meta_Form.f
 repeat' first
   | (with_reducible exact ih0 _ _ _)
   | (with_reducible exact ih1 _ _ _ _ _)
   | (with_reducible exact ih2 _ _ _ _ _ _ _ _ _ _ _ _)
   | (with_reducible exact ih3 _ _ _ _ _ _ _ _ _ _ _ _ _)
   | (with_reducible exact slices_Contains_int_int.mono _ _ _)
   | (with_reducible exact LeO.refl _)
   | (with_reducible exact LeO.none _)
   | (with_reducible refine LeO.ite ?_ ?_)
   | (with_reducible refine LeO.bind ?_ (fun _ => ?_))
   | exact ih0 _ _ _
   | exact ih1 _ _ _ _ _
   | exact ih2 _ _ _ _ _ _ _ _ _ _ _ _
   | exact ih3 _ _ _ _ _ _ _ _ _ _ _ _ _
   | exact slices_Contains_int_int.mono _ _ _
   | exact LeO.none _
   | refine LeO.ite ?_ ?_
   | refine LeO.bind ?_ (fun _ => ?_)
set_option maxHeartbeats 8000000 in
set_option maxRecDepth 100000 in
theorem meta_Form.calls (k : Nat) (a0_0 : Int) (A0_1 : Option Addr) (c0_1 : Nat) (l0_1 : List (S42)) (r : Bool) (w : World) (hr0_1 : Kd.C k42 w A0_1 l0_1.length l0_1) (hc0_1 : l0_1.length ≤ c0_1) (h : meta_Form.f k a0_0 l0_1 = some r) :
  Calls Try.prog 19 #[.agg #[.int .i64 a0_0, .slice A0_1 l0_1.length c0_1]] w fun e w' => e = .returned (.bool r) ∧ Below w.heap.size w w' := by
 have hu24 := Try.underlying24
 have hu42 := Try.underlying42
 have HR0_1 := Aside0.mk hr0_1
 have HC0_1 := Aside0.mk hc0_1
 clear hr0_1 hc0_1
 have HB := Aside0.mk (Below.refl w.heap.size w)
 have H : (if a0_0 < 1 then (meta_Form.j0 k true a0_0 l0_1) else (if a0_0 > 5 then (meta_Form.j0 k true a0_0 l0_1) else (if (l0_1.length : Int) < 1 then (meta_Form.j0 k true a0_0 l0_1) else (meta_Form.j0 k (decide ((l0_1.length : Int) > 8)) a0_0 l0_1)))) = some r := h
 clear h
 have HC2 := Aside0.mk H
 clear H
 go_enter Try.func19, Try.ntmps19
 go_upto_region 1 with (first | ((with_reducible refine gate_dst (N := 1) rfl ?_); (try (refine gate_guard (by rfl) ?_; dsimp only)); refine box_event ?hg (N := 1) ?hd (cs := #[.int .i64 a0_0, .slice A0_1 l0_1.length c0_1]) (t := 24) ?hr ?_; (case hd => rfl); (case hg => rfl); (case hr => first | (go_simp; done) | (go_simp; rfl)); intro gb113 hg w3 hbox hb; have n0_ := Aside0.mk (below_step (by repeat (first | (with_reducible first | exact HB.out | apply below_alloc | apply pw_below_drewN | apply below_drew1) | exact HB.out)) hb); have n1_ := Aside0.mk (hbox); have n2_ := Aside0.mk ((by rw [hg]; exact (below_size (by repeat (first | (with_reducible first | exact HB.out | apply below_alloc | apply pw_below_drewN | apply below_drew1) | exact HB.out))) : w.heap.size ≤ gb113)); have n3_ := Aside0.mk ((by rw [hg]; exact (below_size (by repeat (first | (with_reducible first | exact HB.out | apply below_alloc | apply pw_below_drewN | apply below_drew1) | exact HB.out))) : w.heap.size ≤ gb113)); clear HB; have HB := n0_; have BK113 := n1_; have GW113 := n2_; have GE113 := n3_; clear n0_ n1_ n2_ n3_; clear hb hbox hg))
 (try simp only [Act.put, List.setIfInBounds_toArray, List.set_cons_zero, List.set_cons_succ])
 go_cut [26] (fun v26 wc => ∃ (kq : Nat) (x26_1 : Bool), v26 = .bool x26_1 ∧ Aside0 (meta_Form.j0 kq x26_1 a0_0 l0_1 = some r) ∧ Aside0 (kq ≤ k) ∧ Aside0 (wc.heap[gb113]? = some (.cells #[.int .i64 a0_0, (.slice A0_1 l0_1.length c0_1)] 24 (0, 0))) ∧ Aside0 (Below w.heap.size w wc))
 case first =>
  have H := HC2.out
  clear HC2
  by_cases c4 : a0_0 < 1
  ·rw [if_pos c4] at H
   have c4b0 : decide (a0_0 < 1) = true := decide_eq_true c4
   clear c4
   (first | rw [c4b0] | (simp only [i64_w, i32_w]; rw [c4b0]) | skip)
   have H' := Aside0.mk H
   clear H
   have hcz5_0 : w3.cell? ⟨gb113, 0, none⟩ = some (.int .i64 a0_0) := (blk_cell BK113.out 0).trans rfl
   have hcz5_1 : w3.cell? ⟨gb113, 1, none⟩ = some (.slice A0_1 l0_1.length c0_1) := (blk_cell BK113.out 1).trans rfl
   have hfz5_0 := blk_frozen BK113.out 0
   have hfz5_1 := blk_frozen BK113.out 1
   go_wp2
   go_meet
   case rel => exact ⟨_, (true), (by first | rfl | (simp; done) | (simp [*]; done)), H', ⟨by first | omega | exact Nat.le_refl _⟩, ⟨by (with_reducible repeat (first | refine blk_drewN ?_ _ | refine blk_drew ?_ | refine blk_alloc ?_ _)); exact BK113.out⟩, ⟨by repeat (first | (with_reducible first | exact HB.out | apply below_alloc | apply pw_below_drewN | apply below_drew1 | refine below_set ?_ GE113.out) | exact HB.out)⟩⟩
  ·rw [if_neg c4] at H
   have c4b0 : decide (a0_0 < 1) = false := decide_eq_false c4
   clear c4
   (first | rw [c4b0] | (simp only [i64_w, i32_w]; rw [c4b0]) | skip)
   by_cases c6 : a0_0 > 5
   ·rw [if_pos c6] at H
    have c6b0 : decide (5 < a0_0) = true := decide_eq_true c6
    clear c6
    have H' := Aside0.mk H
    clear H
    have hcz7_0 : w3.cell? ⟨gb113, 0, none⟩ = some (.int .i64 a0_0) := (blk_cell BK113.out 0).trans rfl
    have hcz7_1 : w3.cell? ⟨gb113, 1, none⟩ = some (.slice A0_1 l0_1.length c0_1) := (blk_cell BK113.out 1).trans rfl
    have hfz7_0 := blk_frozen BK113.out 0
    have hfz7_1 := blk_frozen BK113.out 1
    go_wp2
    go_meet
    case rel => exact ⟨_, (true), (by first | rfl | (simp; done) | (simp [*]; done)), H', ⟨by first | omega | exact Nat.le_refl _⟩, ⟨by (with_reducible repeat (first | refine blk_drewN ?_ _ | refine blk_drew ?_ | refine blk_alloc ?_ _)); exact BK113.out⟩, ⟨by repeat (first | (with_reducible first | exact HB.out | apply below_alloc | apply pw_below_drewN | apply below_drew1 | refine below_set ?_ GE113.out) | exact HB.out)⟩⟩
   ·rw [if_neg c6] at H
    have c6b0 : decide (5 < a0_0) = false := decide_eq_false c6
    clear c6
    by_cases c8 : (l0_1.length : Int) < 1
    ·rw [if_pos c8] at H
     have c8b0 : decide ((l0_1.length : Int) < 1) = true := decide_eq_true c8
     have c8b1 : decide (l0_1.length < 1) = true := decide_eq_true (by omega)
     clear c8
     have H' := Aside0.mk H
     clear H
     have hcz9_0 : w3.cell? ⟨gb113, 0, none⟩ = some (.int .i64 a0_0) := (blk_cell BK113.out 0).trans rfl
     have hcz9_1 : w3.cell? ⟨gb113, 1, none⟩ = some (.slice A0_1 l0_1.length c0_1) := (blk_cell BK113.out 1).trans rfl
     have hfz9_0 := blk_frozen BK113.out 0
     have hfz9_1 := blk_frozen BK113.out 1
     go_wp2
     go_meet
     case rel => exact ⟨_, (true), (by first | rfl | (simp; done) | (simp [*]; done)), H', ⟨by first | omega | exact Nat.le_refl _⟩, ⟨by (with_reducible repeat (first | refine blk_drewN ?_ _ | refine blk_drew ?_ | refine blk_alloc ?_ _)); exact BK113.out⟩, ⟨by repeat (first | (with_reducible first | exact HB.out | apply below_alloc | apply pw_below_drewN | apply below_drew1 | refine below_set ?_ GE113.out) | exact HB.out)⟩⟩
    ·rw [if_neg c8] at H
     have c8b0 : decide ((l0_1.length : Int) < 1) = false := decide_eq_false c8
     have c8b1 : decide (l0_1.length < 1) = false := decide_eq_false (by omega)
     clear c8
     have H' := Aside0.mk H
     clear H
     have hcz10_0 : w3.cell? ⟨gb113, 0, none⟩ = some (.int .i64 a0_0) := (blk_cell BK113.out 0).trans rfl
     have hcz10_1 : w3.cell? ⟨gb113, 1, none⟩ = some (.slice A0_1 l0_1.length c0_1) := (blk_cell BK113.out 1).trans rfl
     have hfz10_0 := blk_frozen BK113.out 0
     have hfz10_1 := blk_frozen BK113.out 1
     go_wp2
     go_meet
     case rel => exact ⟨_, (decide ((l0_1.length : Int) > 8)), (by first | rfl | (simp; done) | (simp [*]; done)), H', ⟨by first | omega | exact Nat.le_refl _⟩, ⟨by (with_reducible repeat (first | refine blk_drewN ?_ _ | refine blk_drew ?_ | refine blk_alloc ?_ _)); exact BK113.out⟩, ⟨by repeat (first | (with_reducible first | exact HB.out | apply below_alloc | apply pw_below_drewN | apply below_drew1 | refine below_set ?_ GE113.out) | exact HB.out)⟩⟩
 case rest =>
  clear HC2
  try clear c1
  try clear p2
  try clear c4
  try clear c4b0
  try clear c6
  try clear c6b0
  try clear c8
  try clear c8b0
  try clear c8b1
  try clear hcz10_0
  try clear hcz10_1
  try clear hcz5_0
  try clear hcz5_1
  try clear hcz7_0
  try clear hcz7_1
  try clear hcz9_0
  try clear hcz9_1
  try clear hfz10_0
  try clear hfz10_1
  try clear hfz5_0
  try clear hfz5_1
  try clear hfz7_0
  try clear hfz7_1
  try clear hfz9_0
  try clear hfz9_1
  obtain ⟨kq, x26_1, rfl, HA, HJ1, BK113, HB⟩ := hcut
  cases kq with
  | zero => exact absurd HA.out (by simp [meta_Form.j0])
  | succ kj1 =>
   have H := HA.out
   clear HA
   simp only [meta_Form.j0] at H
   by_cases c11 : x26_1 = true
   ·subst c11
    have H1 : (some false) = some r := by rw [if_pos rfl] at H; exact H
    clear H
    have H := H1
    clear H1
    obtain rfl := Option.some.inj H
    go_wp2
    go_ret
    exact ⟨by first | rfl | (simp [errW_none, errW_some] <;> rfl) | (simp [*, errW_none, errW_some] <;> rfl), by repeat (first | (with_reducible first | exact HB.out | apply below_alloc | apply pw_below_drewN | apply below_drew1 | refine below_set ?_ GE113.out) | exact HB.out)⟩
   ·replace c11 := Bool.eq_false_iff.mpr c11
    subst c11
    have H1 : (meta_Form.l0 kj1 l0_1 (l0_1.length : Int) 0 a0_0 l0_1) = some r := by rw [if_neg (show ¬ (false = true) by decide)] at H; exact H
    clear H
    have H := H1
    clear H1
    have H' := Aside0.mk H
    clear H
    have hcz12_0 : wc.cell? ⟨gb113, 0, none⟩ = some (.int .i64 a0_0) := (blk_cell BK113.out 0).trans rfl
    have hcz12_1 : wc.cell? ⟨gb113, 1, none⟩ = some (.slice A0_1 l0_1.length c0_1) := (blk_cell BK113.out 1).trans rfl
    have hfz12_0 := blk_frozen BK113.out 0
    have hfz12_1 := blk_frozen BK113.out 1
    go_wp2
    go_loopg [30] kj1 (fun kq v30 w' => ∃ (x30_2 : Int), v30 = .int .i64 x30_2 ∧ Aside0 (meta_Form.l0 kq l0_1 (l0_1.length : Int) x30_2 a0_0 l0_1 = some r) ∧ Aside0 (kq ≤ kj1) ∧ Aside0 (w'.heap[gb113]? = some (.cells #[.int .i64 a0_0, (.slice A0_1 l0_1.length c0_1)] 24 (0, 0))) ∧ Aside0 (Below w.heap.size w w'))
    case atStart => exact ⟨(0), (by first | rfl | (simp; done) | (simp [*]; done)), H', ⟨Nat.le_refl _⟩, ⟨by (with_reducible repeat (first | refine blk_drewN ?_ _ | refine blk_drew ?_ | refine blk_alloc ?_ _)); exact BK113.out⟩, ⟨by repeat (first | (with_reducible first | exact HB.out | apply below_alloc | apply pw_below_drewN | apply below_drew1 | refine below_set ?_ GE113.out) | exact HB.out)⟩⟩
    case round =>
     clear H'
     try clear c1
     try clear p2
     try clear c4
     try clear c4b0
     try clear c6
     try clear c6b0
     try clear c8
     try clear c8b0
     try clear c8b1
     try clear c11
     try clear hcz10_0
     try clear hcz10_1
     try clear hcz12_0
     try clear hcz12_1
     try clear hcz5_0
     try clear hcz5_1
     try clear hcz7_0
     try clear hcz7_1
     try clear hcz9_0
     try clear hcz9_1
     try clear hfz10_0
     try clear hfz10_1
     try clear hfz12_0
     try clear hfz12_1
     try clear hfz5_0
     try clear hfz5_1
     try clear hfz7_0
     try clear hfz7_1
     try clear hfz9_0
     try clear hfz9_1
     try clear p2
     obtain ⟨x30_2, rfl, HA, HK2, BK113, HB⟩ := hrel
     cases gk with
     | zero => exact absurd HA.out (by simp [meta_Form.l0])
     | succ k2 =>
      have H := HA.out
      clear HA
      simp only [meta_Form.l0] at H
      by_cases c13 : x30_2 < (l0_1.length : Int)
      ·rw [if_pos c13] at H
       have c13b0 : decide (x30_2 < (l0_1.length : Int)) = true := decide_eq_true c13
       clear c13
       by_cases c14 : 0 ≤ x30_2
       ·rw [if_pos c14] at H
        have c14b0 : decide (0 ≤ x30_2) = true := decide_eq_true c14
        clear c14
        by_cases c15 : x30_2 < (l0_1.length : Int)
        ·rw [if_pos c15] at H
         have c15b0 : decide (x30_2 < (l0_1.length : Int)) = true := decide_eq_true c15
         clear c15
         have H' := Aside0.mk H
         clear H
         have p114 : 0 ≤ (x30_2 : Int) := of_decide_eq_true (by first | (with_reducible assumption) | assumption)
         have q114 : x30_2 < (l0_1.length : Int) := of_decide_eq_true (by first | (with_reducible assumption) | assumption)
         obtain ⟨ad114, A114_3, c114_3, e114, hx114_0, hx114_1, hx114_2, hx114_3, hl114_3, hi114_3⟩ := at_T42 HR0_1.out x30_2 p114 q114
         cases e114
         replace hx114_0 := (HB.out.cell (World.block_lt_of_cell? w _ hx114_0)).trans hx114_0
         replace hx114_1 := (HB.out.cell (World.block_lt_of_cell? w _ hx114_1)).trans hx114_1
         replace hx114_2 := (HB.out.cell (World.block_lt_of_cell? w _ hx114_2)).trans hx114_2
         replace hx114_3 := (HB.out.cell (World.block_lt_of_cell? w _ hx114_3)).trans hx114_3
         have HR114_3 := Aside0.mk hi114_3
         have HC114_3 := Aside0.mk hl114_3
         clear hi114_3 hl114_3
         replace p114 := eq_true p114
         replace q114 := eq_true q114
         go_wp2_with (first | ((with_reducible refine gate_dst (N := 4) rfl ?_); (try (refine gate_guard (by rfl) ?_; dsimp only)); refine box_event ?hg (N := 4) ?hd (cs := #[.int .u64 0, .int .u64 0, .int .i64 0, .slice none 0 0]) (t := 42) ?hr ?_; (case hd => rfl); (case hg => rfl); (case hr => first | (go_simp; done) | (go_simp; rfl)); intro gb115 hg w16 hbox hb; have n0_ := Aside0.mk (blk_below (g := gb113) (o := .cells #[.int .i64 a0_0, .slice (some ad114) l0_1.length c0_1] 24 (0, 0)) (by (with_reducible repeat (first | refine blk_drewN ?_ _ | refine blk_drew ?_ | refine blk_alloc ?_ _)); exact BK113.out) hb); have n1_ := Aside0.mk (below_step (by repeat (first | (with_reducible first | exact HB.out | apply below_alloc | apply pw_below_drewN | apply below_drew1 | refine below_set ?_ GE113.out) | exact HB.out)) hb); have n2_ := Aside0.mk (hbox); have n3_ := Aside0.mk ((by rw [hg]; exact (below_size (by repeat (first | (with_reducible first | exact HB.out | apply below_alloc | apply pw_below_drewN | apply below_drew1 | refine below_set ?_ GE113.out) | exact HB.out))) : w.heap.size ≤ gb115)); have n4_ := Aside0.mk ((by rw [hg]; exact (below_size (by repeat (first | (with_reducible first | exact HB.out | apply below_alloc | apply pw_below_drewN | apply below_drew1 | refine below_set ?_ GE113.out) | exact HB.out))) : w.heap.size ≤ gb115)); have n5_ := Aside0.mk ((by rw [hg]; exact Nat.ne_of_lt (blk_lt (g := gb113) (o := .cells #[.int .i64 a0_0, .slice (some ad114) l0_1.length c0_1] 24 (0, 0)) (by (with_reducible repeat (first | refine blk_drewN ?_ _ | refine blk_drew ?_ | refine blk_alloc ?_ _)); exact BK113.out)) : gb113 ≠ gb115)); have n6_ := Aside0.mk ((by rw [hg]; exact Nat.ne_of_gt (blk_lt (g := gb113) (o := .cells #[.int .i64 a0_0, .slice (some ad114) l0_1.length c0_1] 24 (0, 0)) (by (with_reducible repeat (first | refine blk_drewN ?_ _ | refine blk_drew ?_ | refine blk_alloc ?_ _)); exact BK113.out)) : gb115 ≠ gb113)); clear BK113; clear HB; have BK113 := n0_; have HB := n1_; have BK115 := n2_; have GW115 := n3_; have GE115 := n4_; have NB113_115 := n5_; have NB115_113 := n6_; clear n0_ n1_ n2_ n3_ n4_ n5_ n6_; clear hb hbox hg; have hnb17 := NB115_113.out; have hnc17 := NB113_115.out; have hcz18_0 : w16.cell? ⟨gb115, 0, none⟩ = some (.int .u64 0) := (blk_cell BK115.out 0).trans rfl; have hcz18_1 : w16.cell? ⟨gb115, 1, none⟩ = some (.int .u64 0) := (blk_cell BK115.out 1).trans rfl; have hcz18_2 : w16.cell? ⟨gb115, 2, none⟩ = some (.int .i64 0) := (blk_cell BK115.out 2).trans rfl; have hcz18_3 : w16.cell? ⟨gb115, 3, none⟩ = some (.slice none 0 0) := (blk_cell BK115.out 3).trans rfl; have hfz18_0 := blk_frozen BK115.out 0; have hfz18_1 := blk_frozen BK115.out 1; have hfz18_2 := blk_frozen BK115.out 2; have hfz18_3 := blk_frozen BK115.out 3))
         go_loopg [37] k2 (fun kq v37 w' => ∃ (x37_3 : Int), v37 = .int .i64 x37_3 ∧ Aside0 (meta_Form.l1 kq l0_1 (l0_1.length : Int) x30_2 ((rd_T42 l0_1 x30_2).f3) (((rd_T42 l0_1 x30_2).f3).length : Int) x37_3 a0_0 l0_1 ((rd_T42 l0_1 x30_2).f0) ((rd_T42 l0_1 x30_2).f1) ((rd_T42 l0_1 x30_2).f2) ((rd_T42 l0_1 x30_2).f3) = some r) ∧ Aside0 (kq ≤ k2) ∧ Aside0 (w'.heap[gb113]? = some (.cells #[.int .i64 a0_0, (.slice (some ad114) l0_1.length c0_1)] 24 (0, 0))) ∧ Aside0 (w'.heap[gb115]? = some (.cells #[.int .u64 ((rd_T42 l0_1 x30_2).f0), .int .u64 ((rd_T42 l0_1 x30_2).f1), .int .i64 ((rd_T42 l0_1 x30_2).f2), (.slice A114_3 ((rd_T42 l0_1 x30_2).f3).length c114_3)] 42 (0, 0))) ∧ Aside0 (Below w.heap.size w w'))
         case atStart => exact ⟨(0), (by first | rfl | (simp; done) | (simp [*]; done)), H', ⟨Nat.le_refl _⟩, ⟨by (with_reducible repeat (first | refine blk_drewN ?_ _ | refine blk_drew ?_ | refine blk_alloc ?_ _)); refine blk_far ?_ NB113_115.out _; (with_reducible repeat (first | refine blk_drewN ?_ _ | refine blk_drew ?_ | refine blk_alloc ?_ _)); refine blk_far ?_ NB113_115.out _; (with_reducible repeat (first | refine blk_drewN ?_ _ | refine blk_drew ?_ | refine blk_alloc ?_ _)); refine blk_far ?_ NB113_115.out _; (with_reducible repeat (first | refine blk_drewN ?_ _ | refine blk_drew ?_ | refine blk_alloc ?_ _)); refine blk_far ?_ NB113_115.out _; (with_reducible repeat (first | refine blk_drewN ?_ _ | refine blk_drew ?_ | refine blk_alloc ?_ _)); exact BK113.out⟩, ⟨by (with_reducible repeat (first | refine blk_drewN ?_ _ | refine blk_drew ?_ | refine blk_alloc ?_ _)); refine blk_put (cs := #[.int .u64 ((rd_T42 l0_1 x30_2).f0), .int .u64 ((rd_T42 l0_1 x30_2).f1), .int .i64 ((rd_T42 l0_1 x30_2).f2), .slice none 0 0]) ?_ 3 _ rfl; (with_reducible repeat (first | refine blk_drewN ?_ _ | refine blk_drew ?_ | refine blk_alloc ?_ _)); refine blk_put (cs := #[.int .u64 ((rd_T42 l0_1 x30_2).f0), .int .u64 ((rd_T42 l0_1 x30_2).f1), .int .i64 0, .slice none 0 0]) ?_ 2 _ rfl; (with_reducible repeat (first | refine blk_drewN ?_ _ | refine blk_drew ?_ | refine blk_alloc ?_ _)); refine blk_put (cs := #[.int .u64 ((rd_T42 l0_1 x30_2).f0), .int .u64 0, .int .i64 0, .slice none 0 0]) ?_ 1 _ rfl; (with_reducible repeat (first | refine blk_drewN ?_ _ | refine blk_drew ?_ | refine blk_alloc ?_ _)); refine blk_put (cs := #[.int .u64 0, .int .u64 0, .int .i64 0, .slice none 0 0]) ?_ 0 _ rfl; (with_reducible repeat (first | refine blk_drewN ?_ _ | refine blk_drew ?_ | refine blk_alloc ?_ _)); exact BK115.out⟩, ⟨by repeat (first | (with_reducible first | exact HB.out | apply below_alloc | apply pw_below_drewN | apply below_drew1 | refine below_set ?_ GE113.out | refine below_set ?_ GE115.out) | exact HB.out)⟩⟩
         case round =>
          clear H'
          try clear c1
          try clear p1
          try clear q1
          try clear hx1
          try clear p2
          try clear c4
          try clear c4b0
          try clear c6
          try clear c6b0
          try clear c8
          try clear c8b0
          try clear c8b1
          try clear c11
          try clear p11
          try clear q11
          try clear hx11
          try clear c13
          try clear c13b0
          try clear c14
          try clear c14b0
          try clear c15
          try clear c15b0
          try clear c17
          try clear hcz10_0
          try clear hcz10_1
          try clear hcz12_0
          try clear hcz12_1
          try clear hcz18_0
          try clear hcz18_1
          try clear hcz18_2
          try clear hcz18_3
          try clear hcz5_0
          try clear hcz5_1
          try clear hcz7_0
          try clear hcz7_1
          try clear hcz9_0
          try clear hcz9_1
          try clear hfz10_0
          try clear hfz10_1
          try clear hfz12_0
          try clear hfz12_1
          try clear hfz18_0
          try clear hfz18_1
          try clear hfz18_2
          try clear hfz18_3
          try clear hfz5_0
          try clear hfz5_1
          try clear hfz7_0
          try clear hfz7_1
          try clear hfz9_0
          try clear hfz9_1
          try clear hx114_0
          try clear hx114_1
          try clear hx114_2
          try clear hx114_3
          try clear p114
          try clear p2
          try clear q114
          obtain ⟨x37_3, rfl, HA, HK3, BK113, BK115, HB⟩ := hrel
          cases gk with
          | zero => exact absurd HA.out (by simp [meta_Form.l1])
          | succ k3 =>
           have H := HA.out
           clear HA
           simp only [meta_Form.l1] at H
           by_cases c19 : x37_3 < (((rd_T42 l0_1 x30_2).f3).length : Int)
           ·rw [if_pos c19] at H
            have c19b0 : decide (x37_3 < (((rd_T42 l0_1 x30_2).f3).length : Int)) = true := decide_eq_true c19
            clear c19
            by_cases c20 : 0 ≤ x37_3
            ·rw [if_pos c20] at H
             have c20b0 : decide (0 ≤ x37_3) = true := decide_eq_true c20
             clear c20
             by_cases c21 : x37_3 < (((rd_T42 l0_1 x30_2).f3).length : Int)
             ·rw [if_pos c21] at H
              have c21b0 : decide (x37_3 < (((rd_T42 l0_1 x30_2).f3).length : Int)) = true := decide_eq_true c21
              clear c21
              have HC22 := Aside0.mk H
              clear H
              have p116 : 0 ≤ (x37_3 : Int) := of_decide_eq_true (by first | (with_reducible assumption) | assumption)
              have q116 : x37_3 < (((rd_T42 l0_1 x30_2).f3).length : Int) := of_decide_eq_true (by first | (with_reducible assumption) | assumption)
              obtain ⟨ad116, e116, hx116_0⟩ := Kd.at_int HR114_3.out x37_3 p116 q116
              cases e116
              replace hx116_0 := (HB.out.cell (World.block_lt_of_cell? w _ hx116_0)).trans hx116_0
              replace p116 := eq_true p116
              replace q116 := eq_true q116
              go_upto_region 9 with (fail)
              go_cut [63] (fun v63 wc => ∃ (kq : Nat) (x63_21 : Bool), v63 = .bool x63_21 ∧ Aside0 (meta_Form.j3 kq l0_1 (l0_1.length : Int) x30_2 ((rd_T42 l0_1 x30_2).f3) (((rd_T42 l0_1 x30_2).f3).length : Int) x37_3 x63_21 a0_0 l0_1 ((rd_T42 l0_1 x30_2).f0) ((rd_T42 l0_1 x30_2).f1) ((rd_T42 l0_1 x30_2).f2) ((rd_T42 l0_1 x30_2).f3) = some r) ∧ Aside0 (kq ≤ k3) ∧ Aside0 (wc.heap[gb113]? = some (.cells #[.int .i64 a0_0, (.slice (some ad114) l0_1.length c0_1)] 24 (0, 0))) ∧ Aside0 (wc.heap[gb115]? = some (.cells #[.int .u64 ((rd_T42 l0_1 x30_2).f0), .int .u64 ((rd_T42 l0_1 x30_2).f1), .int .i64 ((rd_T42 l0_1 x30_2).f2), (.slice (some ad116) ((rd_T42 l0_1 x30_2).f3).length c114_3)] 42 (0, 0))) ∧ Aside0 (Below w.heap.size w wc))
              case first =>
               have H := HC22.out
               clear HC22
               by_cases c23 : (rd ((rd_T42 l0_1 x30_2).f3) x37_3) < 0
               ·rw [if_pos c23] at H
                have c23b0 : decide ((rd ((rd_T42 l0_1 x30_2).f3) x37_3) < 0) = true := decide_eq_true c23
                clear c23
                (first | rw [c23b0] | (simp only [i64_w, i32_w]; rw [c23b0]) | skip)
                have H' := Aside0.mk H
                clear H
                go_wp2
                go_meet
                case rel => exact ⟨_, (true), (by first | rfl | (simp; done) | (simp [*]; done)), H', ⟨by have := HJ1.out; have := HK2.out; have := HK3.out; first | omega | exact Nat.le_refl _⟩, ⟨by (with_reducible repeat (first | refine blk_drewN ?_ _ | refine blk_drew ?_ | refine blk_alloc ?_ _)); exact BK113.out⟩, ⟨by (with_reducible repeat (first | refine blk_drewN ?_ _ | refine blk_drew ?_ | refine blk_alloc ?_ _)); exact BK115.out⟩, ⟨by repeat (first | (with_reducible first | exact HB.out | apply below_alloc | apply pw_below_drewN | apply below_drew1 | refine below_set ?_ GE113.out | refine below_set ?_ GE115.out) | exact HB.out)⟩⟩
               ·rw [if_neg c23] at H
                have c23b0 : decide ((rd ((rd_T42 l0_1 x30_2).f3) x37_3) < 0) = false := decide_eq_false c23
                clear c23
                (first | rw [c23b0] | (simp only [i64_w, i32_w]; rw [c23b0]) | skip)
                by_cases c24 : (rd ((rd_T42 l0_1 x30_2).f3) x37_3) ≥ a0_0
                ·rw [if_pos c24] at H
                 have c24b0 : decide (a0_0 ≤ (rd ((rd_T42 l0_1 x30_2).f3) x37_3)) = true := decide_eq_true c24
                 clear c24
                 have H' := Aside0.mk H
                 clear H
                 have hnb25 := NB113_115.out
                 have hnc25 := NB115_113.out
                 have hcz26_0 : wr.cell? ⟨gb113, 0, none⟩ = some (.int .i64 a0_0) := (blk_cell BK113.out 0).trans rfl
                 have hcz26_1 : wr.cell? ⟨gb113, 1, none⟩ = some (.slice (some ad114) l0_1.length c0_1) := (blk_cell BK113.out 1).trans rfl
                 have hfz26_0 := blk_frozen BK113.out 0
                 have hfz26_1 := blk_frozen BK113.out 1
                 go_wp2
                 go_meet
                 case rel => exact ⟨_, (true), (by first | rfl | (simp; done) | (simp [*]; done)), H', ⟨by have := HJ1.out; have := HK2.out; have := HK3.out; first | omega | exact Nat.le_refl _⟩, ⟨by (with_reducible repeat (first | refine blk_drewN ?_ _ | refine blk_drew ?_ | refine blk_alloc ?_ _)); exact BK113.out⟩, ⟨by (with_reducible repeat (first | refine blk_drewN ?_ _ | refine blk_drew ?_ | refine blk_alloc ?_ _)); exact BK115.out⟩, ⟨by repeat (first | (with_reducible first | exact HB.out | apply below_alloc | apply pw_below_drewN | apply below_drew1 | refine below_set ?_ GE113.out | refine below_set ?_ GE115.out) | exact HB.out)⟩⟩
                ·rw [if_neg c24] at H
                 have c24b0 : decide (a0_0 ≤ (rd ((rd_T42 l0_1 x30_2).f3) x37_3)) = false := decide_eq_false c24
                 clear c24
                 by_cases c27 : x37_3 > 0
                 ·rw [if_pos c27] at H
                  have c27b0 : decide (0 < x37_3) = true := decide_eq_true c27
                  clear c27
                  obtain ⟨ji28, hji28⟩ : ∃ j_ : Int, (wrap64 (x37_3 - 1)) = j_ := ⟨_, rfl⟩
                  replace H : (if 0 ≤ (ji28) then (if (ji28) < (((rd_T42 l0_1 x30_2).f3).length : Int) then (meta_Form.j3 k3 l0_1 (l0_1.length : Int) x30_2 ((rd_T42 l0_1 x30_2).f3) (((rd_T42 l0_1 x30_2).f3).length : Int) x37_3 (decide ((rd ((rd_T42 l0_1 x30_2).f3) x37_3) ≤ (rd ((rd_T42 l0_1 x30_2).f3) (ji28)))) a0_0 l0_1 ((rd_T42 l0_1 x30_2).f0) ((rd_T42 l0_1 x30_2).f1) ((rd_T42 l0_1 x30_2).f2) ((rd_T42 l0_1 x30_2).f3)) else (none)) else (none)) = some r := by first | (rw [hji28] at H; exact H) | (simp only [hji28] at H ⊢; exact H)
                  have hji28w : (IntKind.i64.wrap (x37_3 - 1)) = ji28 := (i64_w _).trans hji28
                  by_cases c29 : 0 ≤ (ji28)
                  ·rw [if_pos c29] at H
                   have c29b0 : decide (0 ≤ (ji28)) = true := decide_eq_true c29
                   clear c29
                   by_cases c30 : (ji28) < (((rd_T42 l0_1 x30_2).f3).length : Int)
                   ·rw [if_pos c30] at H
                    have c30b0 : decide ((ji28) < (((rd_T42 l0_1 x30_2).f3).length : Int)) = true := decide_eq_true c30
                    clear c30
                    have H' := Aside0.mk H
                    clear H
                    have hnb31 := NB113_115.out
                    have hnc31 := NB115_113.out
                    have hcz32_0 : wr.cell? ⟨gb113, 0, none⟩ = some (.int .i64 a0_0) := (blk_cell BK113.out 0).trans rfl
                    have hcz32_1 : wr.cell? ⟨gb113, 1, none⟩ = some (.slice (some ad114) l0_1.length c0_1) := (blk_cell BK113.out 1).trans rfl
                    have hfz32_0 := blk_frozen BK113.out 0
                    have hfz32_1 := blk_frozen BK113.out 1
                    have hcz33_0 : wr.cell? ⟨gb115, 0, none⟩ = some (.int .u64 ((rd_T42 l0_1 x30_2).f0)) := (blk_cell BK115.out 0).trans rfl
                    have hcz33_1 : wr.cell? ⟨gb115, 1, none⟩ = some (.int .u64 ((rd_T42 l0_1 x30_2).f1)) := (blk_cell BK115.out 1).trans rfl
                    have hcz33_2 : wr.cell? ⟨gb115, 2, none⟩ = some (.int .i64 ((rd_T42 l0_1 x30_2).f2)) := (blk_cell BK115.out 2).trans rfl
                    have hcz33_3 : wr.cell? ⟨gb115, 3, none⟩ = some (.slice (some ad116) ((rd_T42 l0_1 x30_2).f3).length c114_3) := (blk_cell BK115.out 3).trans rfl
                    have hfz33_0 := blk_frozen BK115.out 0
                    have hfz33_1 := blk_frozen BK115.out 1
                    have hfz33_2 := blk_frozen BK115.out 2
                    have hfz33_3 := blk_frozen BK115.out 3
                    have p117 : 0 ≤ ((ji28) : Int) := of_decide_eq_true (by first | (with_reducible assumption) | assumption)
                    have q117 : (ji28) < (((rd_T42 l0_1 x30_2).f3).length : Int) := of_decide_eq_true (by first | (with_reducible assumption) | assumption)
                    obtain ⟨ad117, e117, hx117_0⟩ := Kd.at_int HR114_3.out (ji28) p117 q117
                    obtain rfl : ad116 = ad117 := (by injection e117)
                    replace hx117_0 := (HB.out.cell (World.block_lt_of_cell? w _ hx117_0)).trans hx117_0
                    replace p117 := eq_true p117
                    replace q117 := eq_true q117
                    go_wp2
                    go_meet
                    case rel => exact ⟨_, (decide ((rd ((rd_T42 l0_1 x30_2).f3) x37_3) ≤ (rd ((rd_T42 l0_1 x30_2).f3) (ji28)))), (by first | rfl | (simp; done) | (simp only [← hji28] <;> (first | rfl | simp)) | (simp [*]; done)), H', ⟨by have := HJ1.out; have := HK2.out; have := HK3.out; first | omega | exact Nat.le_refl _⟩, ⟨by (with_reducible repeat (first | refine blk_drewN ?_ _ | refine blk_drew ?_ | refine blk_alloc ?_ _)); exact BK113.out⟩, ⟨by (with_reducible repeat (first | refine blk_drewN ?_ _ | refine blk_drew ?_ | refine blk_alloc ?_ _)); exact BK115.out⟩, ⟨by repeat (first | (with_reducible first | exact HB.out | apply below_alloc | apply pw_below_drewN | apply below_drew1 | refine below_set ?_ GE113.out | refine below_set ?_ GE115.out) | exact HB.out)⟩⟩
                   ·rw [if_neg c30] at H
                    exact absurd H (by simp)
                  ·rw [if_neg c29] at H
                   exact absurd H (by simp)
                 ·rw [if_neg c27] at H
                  have c27b0 : decide (0 < x37_3) = false := decide_eq_false c27
                  clear c27
                  have H' := Aside0.mk H
                  clear H
                  have hnb34 := NB113_115.out
                  have hnc34 := NB115_113.out
                  have hcz35_0 : wr.cell? ⟨gb113, 0, none⟩ = some (.int .i64 a0_0) := (blk_cell BK113.out 0).trans rfl
                  have hcz35_1 : wr.cell? ⟨gb113, 1, none⟩ = some (.slice (some ad114) l0_1.length c0_1) := (blk_cell BK113.out 1).trans rfl
                  have hfz35_0 := blk_frozen BK113.out 0
                  have hfz35_1 := blk_frozen BK113.out 1
                  go_wp2
                  go_meet
                  case rel => exact ⟨_, (false), (by first | rfl | (simp; done) | (simp [*]; done)), H', ⟨by have := HJ1.out; have := HK2.out; have := HK3.out; first | omega | exact Nat.le_refl _⟩, ⟨by (with_reducible repeat (first | refine blk_drewN ?_ _ | refine blk_drew ?_ | refine blk_alloc ?_ _)); exact BK113.out⟩, ⟨by (with_reducible repeat (first | refine blk_drewN ?_ _ | refine blk_drew ?_ | refine blk_alloc ?_ _)); exact BK115.out⟩, ⟨by repeat (first | (with_reducible first | exact HB.out | apply below_alloc | apply pw_below_drewN | apply below_drew1 | refine below_set ?_ GE113.out | refine below_set ?_ GE115.out) | exact HB.out)⟩⟩
              case rest =>
               clear HC22
               try clear c1
               try clear p1
               try clear q1
               try clear hx1
               try clear c2
               try clear p2
               try clear c3
               try clear c4
               try clear c4b0
               try clear c6
               try clear c6b0
               try clear p6
               try clear c8
               try clear c8b0
               try clear c8b1
               try clear c11
               try clear p11
               try clear q11
               try clear hx11
               try clear c13
               try clear c13b0
               try clear c14
               try clear c14b0
               try clear c15
               try clear c15b0
               try clear c17
               try clear c19
               try clear c19b0
               try clear c20
               try clear c20b0
               try clear c21
               try clear c21b0
               try clear c23
               try clear c23b0
               try clear c24
               try clear c24b0
               try clear c25
               try clear c27
               try clear c27b0
               try clear c29
               try clear c29b0
               try clear c30
               try clear c30b0
               try clear c31
               try clear c34
               try clear hcz10_0
               try clear hcz10_1
               try clear hcz12_0
               try clear hcz12_1
               try clear hcz18_0
               try clear hcz18_1
               try clear hcz18_2
               try clear hcz18_3
               try clear hcz26_0
               try clear hcz26_1
               try clear hcz32_0
               try clear hcz32_1
               try clear hcz33_0
               try clear hcz33_1
               try clear hcz33_2
               try clear hcz33_3
               try clear hcz35_0
               try clear hcz35_1
               try clear hcz5_0
               try clear hcz5_1
               try clear hcz7_0
               try clear hcz7_1
               try clear hcz9_0
               try clear hcz9_1
               try clear hfz10_0
               try clear hfz10_1
               try clear hfz12_0
               try clear hfz12_1
               try clear hfz18_0
               try clear hfz18_1
               try clear hfz18_2
               try clear hfz18_3
               try clear hfz26_0
               try clear hfz26_1
               try clear hfz32_0
               try clear hfz32_1
               try clear hfz33_0
               try clear hfz33_1
               try clear hfz33_2
               try clear hfz33_3
               try clear hfz35_0
               try clear hfz35_1
               try clear hfz5_0
               try clear hfz5_1
               try clear hfz7_0
               try clear hfz7_1
               try clear hfz9_0
               try clear hfz9_1
               try clear hx114_0
               try clear hx114_1
               try clear hx114_2
               try clear hx114_3
               try clear hx116_0
               try clear hx117_0
               try clear p1
               try clear p11
               try clear p114
               try clear p116
               try clear p117
               try clear p2
               try clear q1
               try clear q11
               try clear q114
               try clear q116
               try clear q117
               obtain ⟨kq, x63_21, rfl, HA, HJ21, BK113, BK115, HB⟩ := hcut
               cases kq with
               | zero => exact absurd HA.out (by simp [meta_Form.j3])
               | succ kj21 =>
                have H := HA.out
                clear HA
                simp only [meta_Form.j3] at H
                by_cases c36 : x63_21 = true
                ·subst c36
                 have H1 : (some false) = some r := by rw [if_pos rfl] at H; exact H
                 clear H
                 have H := H1
                 clear H1
                 obtain rfl := Option.some.inj H
                 go_wp2
                 go_ret
                 exact ⟨by first | rfl | (simp [errW_none, errW_some] <;> rfl) | (simp [*, errW_none, errW_some] <;> rfl), by repeat (first | (with_reducible first | exact HB.out | apply below_alloc | apply pw_below_drewN | apply below_drew1 | refine below_set ?_ GE113.out | refine below_set ?_ GE115.out) | exact HB.out)⟩
                ·replace c36 := Bool.eq_false_iff.mpr c36
                 subst c36
                 have H1 : (meta_Form.l1 kj21 l0_1 (l0_1.length : Int) x30_2 ((rd_T42 l0_1 x30_2).f3) (((rd_T42 l0_1 x30_2).f3).length : Int) (wrap64 (x37_3 + 1)) a0_0 l0_1 ((rd_T42 l0_1 x30_2).f0) ((rd_T42 l0_1 x30_2).f1) ((rd_T42 l0_1 x30_2).f2) ((rd_T42 l0_1 x30_2).f3)) = some r := by rw [if_neg (show ¬ (false = true) by decide)] at H; exact H
                 clear H
                 have H := H1
                 clear H1
                 have H' := Aside0.mk H
                 clear H
                 go_wp2
                 go_roundg kj21
                 case measure => have := HJ1.out; have := HK2.out; have := HK3.out; have := HJ21.out; omega
                 case rel => exact ⟨(wrap64 (x37_3 + 1)), (by first | rfl | (simp; done) | (simp [*]; done)), H', ⟨by have := HJ1.out; have := HK2.out; have := HK3.out; have := HJ21.out; omega⟩, ⟨by (with_reducible repeat (first | refine blk_drewN ?_ _ | refine blk_drew ?_ | refine blk_alloc ?_ _)); exact BK113.out⟩, ⟨by (with_reducible repeat (first | refine blk_drewN ?_ _ | refine blk_drew ?_ | refine blk_alloc ?_ _)); exact BK115.out⟩, ⟨by repeat (first | (with_reducible first | exact HB.out | apply below_alloc | apply pw_below_drewN | apply below_drew1 | refine below_set ?_ GE113.out | refine below_set ?_ GE115.out) | exact HB.out)⟩⟩
             ·rw [if_neg c21] at H
              exact absurd H (by simp)
            ·rw [if_neg c20] at H
             exact absurd H (by simp)
           ·rw [if_neg c19] at H
            have c19b0 : decide (x37_3 < (((rd_T42 l0_1 x30_2).f3).length : Int)) = false := decide_eq_false c19
            clear c19
            by_cases c37 : ((rd_T42 l0_1 x30_2).f1) < 1
            ·rw [if_pos c37] at H
             have c37b0 : decide (((rd_T42 l0_1 x30_2).f1) < 1) = true := decide_eq_true c37
             clear c37
             obtain rfl := Option.some.inj H
             have hnb38 := NB115_113.out
             have hnc38 := NB113_115.out
             have hcz39_0 : wr.cell? ⟨gb115, 0, none⟩ = some (.int .u64 ((rd_T42 l0_1 x30_2).f0)) := (blk_cell BK115.out 0).trans rfl
             have hcz39_1 : wr.cell? ⟨gb115, 1, none⟩ = some (.int .u64 ((rd_T42 l0_1 x30_2).f1)) := (blk_cell BK115.out 1).trans rfl
             have hcz39_2 : wr.cell? ⟨gb115, 2, none⟩ = some (.int .i64 ((rd_T42 l0_1 x30_2).f2)) := (blk_cell BK115.out 2).trans rfl
             have hcz39_3 : wr.cell? ⟨gb115, 3, none⟩ = some (.slice A114_3 ((rd_T42 l0_1 x30_2).f3).length c114_3) := (blk_cell BK115.out 3).trans rfl
             have hfz39_0 := blk_frozen BK115.out 0
             have hfz39_1 := blk_frozen BK115.out 1
             have hfz39_2 := blk_frozen BK115.out 2
             have hfz39_3 := blk_frozen BK115.out 3
             go_wp2
             go_ret
             exact ⟨by first | rfl | (simp [errW_none, errW_some] <;> rfl) | (simp [*, errW_none, errW_some] <;> rfl), by repeat (first | (with_reducible first | exact HB.out | apply below_alloc | apply pw_below_drewN | apply below_drew1 | refine below_set ?_ GE113.out | refine below_set ?_ GE115.out) | exact HB.out)⟩
            ·rw [if_neg c37] at H
             have c37b0 : decide (((rd_T42 l0_1 x30_2).f1) < 1) = false := decide_eq_false c37
             clear c37
             replace H := Option.bind_eq_some_iff.mp H
             obtain ⟨t118, A400, H⟩ := H
             replace H : (if t118 = true then (meta_Form.l0 k3 l0_1 (l0_1.length : Int) (wrap64 (x30_2 + 1)) a0_0 l0_1) else (some false)) = some r := H
             have A40 := Aside0.mk A400
             clear A400
             by_cases c41 : t118 = true
             ·subst c41
              have H1 : (meta_Form.l0 k3 l0_1 (l0_1.length : Int) (wrap64 (x30_2 + 1)) a0_0 l0_1) = some r := by rw [if_pos rfl] at H; exact H
              clear H
              have H := H1
              clear H1
              have H' := Aside0.mk H
              clear H
              have hnb42 := NB115_113.out
              have hnc42 := NB113_115.out
              have hcz43_0 : wr.cell? ⟨gb115, 0, none⟩ = some (.int .u64 ((rd_T42 l0_1 x30_2).f0)) := (blk_cell BK115.out 0).trans rfl
              have hcz43_1 : wr.cell? ⟨gb115, 1, none⟩ = some (.int .u64 ((rd_T42 l0_1 x30_2).f1)) := (blk_cell BK115.out 1).trans rfl
              have hcz43_2 : wr.cell? ⟨gb115, 2, none⟩ = some (.int .i64 ((rd_T42 l0_1 x30_2).f2)) := (blk_cell BK115.out 2).trans rfl
              have hcz43_3 : wr.cell? ⟨gb115, 3, none⟩ = some (.slice A114_3 ((rd_T42 l0_1 x30_2).f3).length c114_3) := (blk_cell BK115.out 3).trans rfl
              have hfz43_0 := blk_frozen BK115.out 0
              have hfz43_1 := blk_frozen BK115.out 1
              have hfz43_2 := blk_frozen BK115.out 2
              have hfz43_3 := blk_frozen BK115.out 3
              go_wp2_with (first | (go_at_call 48; (with_reducible refine (slices_Contains_int_int.calls k3 _ _ ((rd_T42 l0_1 x30_2).f3) ((rd_T42 l0_1 x30_2).f2) true _ ?side1 ?side2 A40.out).mono ?_); (case side1 => repeat (first | exact (Kd.C_below HR114_3.out HB.out) | (with_reducible refine Kd.C_alloc ?_ _) | (with_reducible refine Kd.C_drewN ?_ _) | (with_reducible refine Kd.C_drew ?_))); (case side2 => exact HC114_3.out); rintro e w' ⟨rfl, ⟨nd, rfl⟩⟩))
              go_roundg k3
              case measure => have := HJ1.out; have := HK2.out; have := HK3.out; omega
              case rel => exact ⟨(wrap64 (x30_2 + 1)), (by first | rfl | (simp; done) | (simp [*]; done)), H', ⟨by have := HJ1.out; have := HK2.out; have := HK3.out; omega⟩, ⟨by (with_reducible repeat (first | refine blk_drewN ?_ _ | refine blk_drew ?_ | refine blk_alloc ?_ _)); exact BK113.out⟩, ⟨by repeat (first | (with_reducible first | exact HB.out | apply below_alloc | apply pw_below_drewN | apply below_drew1 | refine below_set ?_ GE113.out | refine below_set ?_ GE115.out) | exact HB.out)⟩⟩
             ·replace c41 := Bool.eq_false_iff.mpr c41
              subst c41
              have H1 : (some false) = some r := by rw [if_neg (show ¬ (false = true) by decide)] at H; exact H
              clear H
              have H := H1
              clear H1
              obtain rfl := Option.some.inj H
              have hnb44 := NB115_113.out
              have hnc44 := NB113_115.out
              have hcz45_0 : wr.cell? ⟨gb115, 0, none⟩ = some (.int .u64 ((rd_T42 l0_1 x30_2).f0)) := (blk_cell BK115.out 0).trans rfl
              have hcz45_1 : wr.cell? ⟨gb115, 1, none⟩ = some (.int .u64 ((rd_T42 l0_1 x30_2).f1)) := (blk_cell BK115.out 1).trans rfl
              have hcz45_2 : wr.cell? ⟨gb115, 2, none⟩ = some (.int .i64 ((rd_T42 l0_1 x30_2).f2)) := (blk_cell BK115.out 2).trans rfl
              have hcz45_3 : wr.cell? ⟨gb115, 3, none⟩ = some (.slice A114_3 ((rd_T42 l0_1 x30_2).f3).length c114_3) := (blk_cell BK115.out 3).trans rfl
              have hfz45_0 := blk_frozen BK115.out 0
              have hfz45_1 := blk_frozen BK115.out 1
              have hfz45_2 := blk_frozen BK115.out 2
              have hfz45_3 := blk_frozen BK115.out 3
              go_wp2_with (first | (go_at_call 48; (with_reducible refine (slices_Contains_int_int.calls k3 _ _ ((rd_T42 l0_1 x30_2).f3) ((rd_T42 l0_1 x30_2).f2) false _ ?side1 ?side2 A40.out).mono ?_); (case side1 => repeat (first | exact (Kd.C_below HR114_3.out HB.out) | (with_reducible refine Kd.C_alloc ?_ _) | (with_reducible refine Kd.C_drewN ?_ _) | (with_reducible refine Kd.C_drew ?_))); (case side2 => exact HC114_3.out); rintro e w' ⟨rfl, ⟨nd, rfl⟩⟩))
              go_ret
              exact ⟨by first | rfl | (simp [errW_none, errW_some] <;> rfl) | (simp [*, errW_none, errW_some] <;> rfl), by repeat (first | (with_reducible first | exact HB.out | apply below_alloc | apply pw_below_drewN | apply below_drew1 | refine below_set ?_ GE113.out | refine below_set ?_ GE115.out) | exact HB.out)⟩
        ·rw [if_neg c15] at H
         exact absurd H (by simp)
       ·rw [if_neg c14] at H
        exact absurd H (by simp)
      ·rw [if_neg c13] at H
       have c13b0 : decide (x30_2 < (l0_1.length : Int)) = false := decide_eq_false c13
       clear c13
       obtain rfl := Option.some.inj H
       go_wp2
       go_ret
       exact ⟨by first | rfl | (simp [errW_none, errW_some] <;> rfl) | (simp [*, errW_none, errW_some] <;> rfl), by repeat (first | (with_reducible first | exact HB.out | apply below_alloc | apply pw_below_drewN | apply below_drew1 | refine below_set ?_ GE113.out) | exact HB.out)⟩

end Go.Proofs.Ytkoaeiiaagipeaa.PMetaStays
