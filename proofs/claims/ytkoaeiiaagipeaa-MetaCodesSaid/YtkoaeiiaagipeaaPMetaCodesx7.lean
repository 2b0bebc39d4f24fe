-- WRITTEN BY A PROGRAM OF THIS SESSION (wip/patch_print.py: the kit's printer with rules of this session's own); Lean checks it.
import Derived.Test.YtkoaeiiaagipeaaPMetaCodesx0
import Derived.Test.YtkoaeiiaagipeaaPMetaCodesx1
import Derived.Test.YtkoaeiiaagipeaaPMetaCodesx4
import Derived.Test.YtkoaeiiaagipeaaPMetaCodesx5
import Derived.Test.YtkoaeiiaagipeaaPMetaCodesx6
namespace Go.Proofs.Ytkoaeiiaagipeaa.PMetaCodes
open Go.RowKit Go.Proofs.YtkoaeiiaagipeaaW.PrintWords Go.Proofs.YtkoaeiiaagipeaaW.PrintLast Go.Proofs.YtkoaeiiaagipeaaW.PrintMore
open Go.Proofs.Ytkoaeiiaagipeaa.G
attribute [local go_sem] max2_int min2_int max_two min_two max_three min_three max_four min_four   -- for this text's walks alone
set_option linter.unusedVariables false
set_option linter.unusedSimpArgs false

attribute [local go_sem high] eqA39
theorem bne_val {a d v : Bool} (h : (a != d) = false) (ha : a = v) : d = v := by cases a <;> cases d <;> cases v <;> simp_all
theorem bne_eqB {a b v : Bool} (h : (a != b) = v) : (a == b) = !v := by cases a <;> cases b <;> cases v <;> simp_all
theorem bne_dec {a b v : Bool} (h : (a != b) = v) : decide (a = b) = !v := by cases a <;> cases b <;> cases v <;> simp_all
/-! ### fascinelaw14_MetaCodes: function 14 -/
mutual
def fascinelaw14_MetaCodes.j0 : Nat → List Int → List Int → Int → Bool → Int → Int → Int → Int → Option (Bool)
  | 0, _, _, _, _, _, _, _, _ => none
  | k + 1, x1, x5, x6, x41, x191000, x191001, x191002, x191003 => if x41 = true then (some false) else (if x6 = 0 then ((meta_Decode.f k x5).bind fun bt199 => (if bt199.2.2.2.2 = 0 then (if (!(bt199.1 == x191000) || (!(bt199.2.1 == x191001) || (!(bt199.2.2.1 == x191002) || (!(bt199.2.2.2.1 == x191003))))) = true then (some false) else (fascinelaw14_MetaCodes.j1 k x1)) else (some false))) else (fascinelaw14_MetaCodes.j1 k x1))
def fascinelaw14_MetaCodes.j1 : Nat → List Int → Option (Bool)
  | 0, _ => none
  | k + 1, x1 => (meta_Decode.f k x1).bind fun bt205 => (if bt205.2.2.2.2 = 0 then ((fascineref14_Encode.f k bt205.1 bt205.2.1 bt205.2.2.1 bt205.2.2.2.1).bind fun t211 => (some ((strOfNums t211).toList == (strOfNums x1).toList))) else (if bt205.2.2.2.2 = 3 then (some (bt205.1 == 0 && (bt205.2.1 == 0 && (bt205.2.2.1 == 0 && (bt205.2.2.2.1 == 0))))) else (some false)))
end
def fascinelaw14_MetaCodes.f (k : Nat) (a0_0 : Int) (a0_1 : Int) (a0_2 : Int) (a0_3 : Int) (l1 : List Int) : Option (Bool) := (fascinelaw14_awake.f k).bind fun t191 => (if t191 = true then ((meta_Encode.f k a0_0 a0_1 a0_2 a0_3).bind fun bt192 => ((fascineref14_Encode.f k a0_0 a0_1 a0_2 a0_3).bind fun t196 => (if (strOfNums bt192.1).toList = (strOfNums t196).toList then (if ((bt192.2 == 0) != (decide ((t196.length : Int) > 0))) = true then (fascinelaw14_MetaCodes.j0 k l1 bt192.1 bt192.2 true a0_0 a0_1 a0_2 a0_3) else (if bt192.2 = 0 then (fascinelaw14_MetaCodes.j0 k l1 bt192.1 bt192.2 false a0_0 a0_1 a0_2 a0_3) else (fascinelaw14_MetaCodes.j0 k l1 bt192.1 bt192.2 (bt192.2 != 3) a0_0 a0_1 a0_2 a0_3))) else (fascinelaw14_MetaCodes.j0 k l1 bt192.1 bt192.2 true a0_0 a0_1 a0_2 a0_3)))) else (some false))
theorem fascinelaw14_MetaCodes.mono_l : ∀ k, (∀ y0 y1 y2 y3 y4 y5 y6 y7, LeO (fascinelaw14_MetaCodes.j0 k y0 y1 y2 y3 y4 y5 y6 y7) (fascinelaw14_MetaCodes.j0 (k + 1) y0 y1 y2 y3 y4 y5 y6 y7)) ∧ (∀ y0, LeO (fascinelaw14_MetaCodes.j1 k y0) (fascinelaw14_MetaCodes.j1 (k + 1) y0))
  | 0 => ⟨fun _ _ _ _ _ _ _ _ r h => by simp [fascinelaw14_MetaCodes.j0] at h, fun _ r h => by simp [fascinelaw14_MetaCodes.j1] at h⟩
  | k + 1 => by
    obtain ⟨ih0, ih1⟩ := fascinelaw14_MetaCodes.mono_l k
    refine ⟨?_, ?_⟩
    · intro y0 y1 y2 y3 y4 y5 y6 y7
      unfold fascinelaw14_MetaCodes.j0
      repeat' first
      | (with_reducible exact ih0 _ _ _ _ _ _ _ _)
      | (with_reducible exact ih1 _)
      | (with_reducible exact fascinelaw14_awake.mono _)
      | (with_reducible exact fascineref14_Encode.mono _ _ _ _ _)
      | (with_reducible exact meta_Decode.mono _ _)
      | (with_reducible exact meta_Encode.mono _ _ _ _ _)
      | (with_reducible exact LeO.refl _)
      | (with_reducible exact LeO.none _)
      | (with_reducible refine LeO.ite ?_ ?_)
      | (with_reducible refine LeO.bind ?_ (fun _ => ?_))
      | exact ih0 _ _ _ _ _ _ _ _
      | exact ih1 _
      | exact fascinelaw14_awake.mono _
      | exact fascineref14_Encode.mono _ _ _ _ _
      | exact meta_Decode.mono _ _
      | exact meta_Encode.mono _ _ _ _ _
      | exact LeO.none _
      | refine LeO.ite ?_ ?_
      | refine LeO.bind ?_ (fun _ => ?_)
    · intro y0
      unfold fascinelaw14_MetaCodes.j1
      repeat' first
      | (with_reducible exact ih0 _ _ _ _ _ _ _ _)
      | (with_reducible exact ih1 _)
      | (with_reducible exact fascinelaw14_awake.mono _)
      | (with_reducible exact fascineref14_Encode.mono _ _ _ _ _)
      | (with_reducible exact meta_Decode.mono _ _)
      | (with_reducible exact meta_Encode.mono _ _ _ _ _)
      | (with_reducible exact LeO.refl _)
      | (with_reducible exact LeO.none _)
      | (with_reducible refine LeO.ite ?_ ?_)
      | (with_reducible refine LeO.bind ?_ (fun _ => ?_))
      | exact ih0 _ _ _ _ _ _ _ _
      | exact ih1 _
      | exact fascinelaw14_awake.mono _
      | exact fascineref14_Encode.mono _ _ _ _ _
      | exact meta_Decode.mono _ _
      | exact meta_Encode.mono _ _ _ _ _
      | exact LeO.none _
      | refine LeO.ite ?_ ?_
      | refine LeO.bind ?_ (fun _ => ?_)
theorem fascinelaw14_MetaCodes.mono : ∀ a0 a1 a2 a3 a4 k, LeO (fascinelaw14_MetaCodes.f k a0 a1 a2 a3 a4) (fascinelaw14_MetaCodes.f (k + 1) a0 a1 a2 a3 a4) := by
  intro a0 a1 a2 a3 a4 k
  obtain ⟨ih0, ih1⟩ := fascinelaw14_MetaCodes.mono_l k
  unfold fascinelaw14_MetaCodes.f
  repeat' first
      | (with_reducible exact ih0 _ _ _ _ _ _ _ _)
      | (with_reducible exact ih1 _)
      | (with_reducible exact fascinelaw14_awake.mono _)
      | (with_reducible exact fascineref14_Encode.mono _ _ _ _ _)
      | (with_reducible exact meta_Decode.mono _ _)
      | (with_reducible exact meta_Encode.mono _ _ _ _ _)
      | (with_reducible exact LeO.refl _)
      | (with_reducible exact LeO.none _)
      | (with_reducible refine LeO.ite ?_ ?_)
      | (with_reducible refine LeO.bind ?_ (fun _ => ?_))
      | exact ih0 _ _ _ _ _ _ _ _
      | exact ih1 _
      | exact fascinelaw14_awake.mono _
      | exact fascineref14_Encode.mono _ _ _ _ _
      | exact meta_Decode.mono _ _
      | exact meta_Encode.mono _ _ _ _ _
      | exact LeO.none _
      | refine LeO.ite ?_ ?_
      | refine LeO.bind ?_ (fun _ => ?_)
set_option maxHeartbeats 8000000 in
set_option maxRecDepth 100000 in
theorem fascinelaw14_MetaCodes.calls (k : Nat) (a0_0 : Int) (a0_1 : Int) (a0_2 : Int) (a0_3 : Int) (A1 : Option Addr) (c1 : Nat) (l1 : List Int) (r : Bool) (w : World) (hr1 : Kd.C (Kd.int .u8) w A1 l1.length l1) (hc1 : l1.length ≤ c1) (h : fascinelaw14_MetaCodes.f k a0_0 a0_1 a0_2 a0_3 l1 = some r) (hr_ : r = true) :
    Calls Try.prog 14 #[.agg #[.int .u8 a0_0, .int .i64 a0_1, .int .i64 a0_2, .int .u64 a0_3], .slice A1 l1.length c1] w fun e w' => e = .returned (.bool r) ∧ Below w.heap.size w w' := by
  have HR_ := Aside0.mk hr_
  clear hr_
  have hu39 := Try.underlying39
  have HR1 := Aside0.mk hr1
  have HC1 := Aside0.mk hc1
  clear hr1 hc1
  have HB := Aside0.mk (Below.refl w.heap.size w)
  have H : ((fascinelaw14_awake.f k).bind fun t191 => (if t191 = true then ((meta_Encode.f k a0_0 a0_1 a0_2 a0_3).bind fun bt192 => ((fascineref14_Encode.f k a0_0 a0_1 a0_2 a0_3).bind fun t196 => (if (strOfNums bt192.1).toList = (strOfNums t196).toList then (if ((bt192.2 == 0) != (decide ((t196.length : Int) > 0))) = true then (fascinelaw14_MetaCodes.j0 k l1 bt192.1 bt192.2 true a0_0 a0_1 a0_2 a0_3) else (if bt192.2 = 0 then (fascinelaw14_MetaCodes.j0 k l1 bt192.1 bt192.2 false a0_0 a0_1 a0_2 a0_3) else (fascinelaw14_MetaCodes.j0 k l1 bt192.1 bt192.2 (bt192.2 != 3) a0_0 a0_1 a0_2 a0_3))) else (fascinelaw14_MetaCodes.j0 k l1 bt192.1 bt192.2 true a0_0 a0_1 a0_2 a0_3)))) else (some false))) = some r := h
  clear h
  replace H := Option.bind_eq_some_iff.mp H
  obtain ⟨t191, A30, H⟩ := H
  replace H : (if t191 = true then ((meta_Encode.f k a0_0 a0_1 a0_2 a0_3).bind fun bt192 => ((fascineref14_Encode.f k a0_0 a0_1 a0_2 a0_3).bind fun t196 => (if (strOfNums bt192.1).toList = (strOfNums t196).toList then (if ((bt192.2 == 0) != (decide ((t196.length : Int) > 0))) = true then (fascinelaw14_MetaCodes.j0 k l1 bt192.1 bt192.2 true a0_0 a0_1 a0_2 a0_3) else (if bt192.2 = 0 then (fascinelaw14_MetaCodes.j0 k l1 bt192.1 bt192.2 false a0_0 a0_1 a0_2 a0_3) else (fascinelaw14_MetaCodes.j0 k l1 bt192.1 bt192.2 (bt192.2 != 3) a0_0 a0_1 a0_2 a0_3))) else (fascinelaw14_MetaCodes.j0 k l1 bt192.1 bt192.2 true a0_0 a0_1 a0_2 a0_3)))) else (some false)) = some r := H
  have A3 := Aside0.mk A30
  clear A30
  by_cases c4 : t191 = true
  · subst c4
    have H1 : ((meta_Encode.f k a0_0 a0_1 a0_2 a0_3).bind fun bt192 => ((fascineref14_Encode.f k a0_0 a0_1 a0_2 a0_3).bind fun t196 => (if (strOfNums bt192.1).toList = (strOfNums t196).toList then (if ((bt192.2 == 0) != (decide ((t196.length : Int) > 0))) = true then (fascinelaw14_MetaCodes.j0 k l1 bt192.1 bt192.2 true a0_0 a0_1 a0_2 a0_3) else (if bt192.2 = 0 then (fascinelaw14_MetaCodes.j0 k l1 bt192.1 bt192.2 false a0_0 a0_1 a0_2 a0_3) else (fascinelaw14_MetaCodes.j0 k l1 bt192.1 bt192.2 (bt192.2 != 3) a0_0 a0_1 a0_2 a0_3))) else (fascinelaw14_MetaCodes.j0 k l1 bt192.1 bt192.2 true a0_0 a0_1 a0_2 a0_3)))) = some r := by rw [if_pos rfl] at H; exact H
    clear H
    have H := H1
    clear H1
    replace H := Option.bind_eq_some_iff.mp H
    obtain ⟨⟨t192, t195⟩, A50, H⟩ := H
    replace H : ((fascineref14_Encode.f k a0_0 a0_1 a0_2 a0_3).bind fun t196 => (if (strOfNums t192).toList = (strOfNums t196).toList then (if ((t195 == 0) != (decide ((t196.length : Int) > 0))) = true then (fascinelaw14_MetaCodes.j0 k l1 t192 t195 true a0_0 a0_1 a0_2 a0_3) else (if t195 = 0 then (fascinelaw14_MetaCodes.j0 k l1 t192 t195 false a0_0 a0_1 a0_2 a0_3) else (fascinelaw14_MetaCodes.j0 k l1 t192 t195 (t195 != 3) a0_0 a0_1 a0_2 a0_3))) else (fascinelaw14_MetaCodes.j0 k l1 t192 t195 true a0_0 a0_1 a0_2 a0_3))) = some r := H
    have A5 := Aside0.mk A50
    clear A50
    replace H := Option.bind_eq_some_iff.mp H
    obtain ⟨t196, A60, H⟩ := H
    replace H : (if (strOfNums t192).toList = (strOfNums t196).toList then (if ((t195 == 0) != (decide ((t196.length : Int) > 0))) = true then (fascinelaw14_MetaCodes.j0 k l1 t192 t195 true a0_0 a0_1 a0_2 a0_3) else (if t195 = 0 then (fascinelaw14_MetaCodes.j0 k l1 t192 t195 false a0_0 a0_1 a0_2 a0_3) else (fascinelaw14_MetaCodes.j0 k l1 t192 t195 (t195 != 3) a0_0 a0_1 a0_2 a0_3))) else (fascinelaw14_MetaCodes.j0 k l1 t192 t195 true a0_0 a0_1 a0_2 a0_3)) = some r := H
    have A6 := Aside0.mk A60
    clear A60
    have HC7 := Aside0.mk H
    clear H
    go_enter Try.func14, Try.ntmps14
    go_upto_region 5 with (first | ((with_reducible refine gate_dst (N := 2) rfl ?_); (try (refine gate_guard (by rfl) ?_; dsimp only)); refine box_event ?hg (N := 2) ?hd (cs := #[.int .u8 a0_0, .int .i64 a0_1, .int .i64 a0_2, .int .u64 a0_3]) (t := 39) ?hr ?_; (case hd => rfl); (case hg => rfl); (case hr => first | (go_simp; done) | (go_simp; rfl)); intro gb190 hg w8 hbox hb; have n0_ := Aside0.mk (below_step (by repeat (first | (with_reducible first | exact HB.out | apply below_alloc | apply pw_below_drewN | apply below_drew1) | exact HB.out)) hb); have n1_ := Aside0.mk (hbox); have n2_ := Aside0.mk ((by rw [hg]; exact (below_size (by repeat (first | (with_reducible first | exact HB.out | apply below_alloc | apply pw_below_drewN | apply below_drew1) | exact HB.out))) : w.heap.size ≤ gb190)); have n3_ := Aside0.mk ((by rw [hg]; exact (below_size (by repeat (first | (with_reducible first | exact HB.out | apply below_alloc | apply pw_below_drewN | apply below_drew1) | exact HB.out))) : w.heap.size ≤ gb190)); clear HB; have HB := n0_; have BK190 := n1_; have GW190 := n2_; have GE190 := n3_; clear n0_ n1_ n2_ n3_; clear hb hbox hg) | ((with_reducible refine gate_callee (f := 15) rfl ?_); refine goesL_ (some 12) rfl rfl Try.func15 (by kernel_rfl) rfl #[] rfl (by (try simp only [List.map_toArray, List.map_cons, List.map_nil]); first | done | rfl | (simp only [List.length_drop, List.length_take]; rfl)) ?_; (with_reducible refine (fascinelaw14_awake.calls k  true _ A3.out).mono ?_); rintro e w9 ⟨rfl, hb⟩; refine ⟨_, rfl, ?_⟩; have n0_ := Aside0.mk (blk_below (g := gb190) (o := .cells #[.int .u8 a0_0, .int .i64 a0_1, .int .i64 a0_2, .int .u64 a0_3] 39 (0, 0)) (by (with_reducible repeat (first | refine blk_drewN ?_ _ | refine blk_drew ?_ | refine blk_alloc ?_ _)); exact BK190.out) hb); have n1_ := Aside0.mk (below_step (by repeat (first | (with_reducible first | exact HB.out | apply below_alloc | apply pw_below_drewN | apply below_drew1 | refine below_set ?_ GE190.out) | exact HB.out)) hb); clear BK190; clear HB; have BK190 := n0_; have HB := n1_; clear n0_ n1_; (try clear hb); (try clear hb2); (try clear hk); (try clear hi); have hcz10_0 : w9.cell? ⟨gb190, 0, none⟩ = some (.int .u8 a0_0) := (blk_cell BK190.out 0).trans rfl; have hcz10_1 : w9.cell? ⟨gb190, 1, none⟩ = some (.int .i64 a0_1) := (blk_cell BK190.out 1).trans rfl; have hcz10_2 : w9.cell? ⟨gb190, 2, none⟩ = some (.int .i64 a0_2) := (blk_cell BK190.out 2).trans rfl; have hcz10_3 : w9.cell? ⟨gb190, 3, none⟩ = some (.int .u64 a0_3) := (blk_cell BK190.out 3).trans rfl; have hfz10_0 := blk_frozen BK190.out 0; have hfz10_1 := blk_frozen BK190.out 1; have hfz10_2 := blk_frozen BK190.out 2; have hfz10_3 := blk_frozen BK190.out 3) | ((with_reducible refine gate_callee (f := 44) rfl ?_); refine goesL_ (some 16) rfl rfl Try.func44 (by kernel_rfl) rfl #[.agg #[.int .u8 a0_0, .int .i64 a0_1, .int .i64 a0_2, .int .u64 a0_3]] rfl (by (try simp only [List.map_toArray, List.map_cons, List.map_nil]); first | done | rfl | (simp only [List.length_drop, List.length_take]; rfl)) ?_; (with_reducible refine (meta_Encode.calls k a0_0 a0_1 a0_2 a0_3 t192 t195 _ A5.out).mono ?_); rintro e w11 ⟨v193, rfl, ho0, hb⟩; refine ⟨_, rfl, ?_⟩; have n0_ := Aside0.mk (Kd.R_lower ho0 (below_size (by repeat (first | (with_reducible first | exact HB.out | apply below_alloc | apply pw_below_drewN | apply below_drew1 | refine below_set ?_ GE190.out) | exact HB.out)))); have n1_ := Aside0.mk (blk_below (g := gb190) (o := .cells #[.int .u8 a0_0, .int .i64 a0_1, .int .i64 a0_2, .int .u64 a0_3] 39 (0, 0)) (by (with_reducible repeat (first | refine blk_drewN ?_ _ | refine blk_drew ?_ | refine blk_alloc ?_ _)); exact BK190.out) hb); have n2_ := Aside0.mk (below_step (by repeat (first | (with_reducible first | exact HB.out | apply below_alloc | apply pw_below_drewN | apply below_drew1 | refine below_set ?_ GE190.out) | exact HB.out)) hb); clear BK190; clear HB; have HO194 := n0_; have BK190 := n1_; have HB := n2_; clear n0_ n1_ n2_; (try clear hb); (try clear hb2); (try clear hk); (try clear hi); (try clear ho0); have hcz12_0 : w11.cell? ⟨gb190, 0, none⟩ = some (.int .u8 a0_0) := (blk_cell BK190.out 0).trans rfl; have hcz12_1 : w11.cell? ⟨gb190, 1, none⟩ = some (.int .i64 a0_1) := (blk_cell BK190.out 1).trans rfl; have hcz12_2 : w11.cell? ⟨gb190, 2, none⟩ = some (.int .i64 a0_2) := (blk_cell BK190.out 2).trans rfl; have hcz12_3 : w11.cell? ⟨gb190, 3, none⟩ = some (.int .u64 a0_3) := (blk_cell BK190.out 3).trans rfl; have hfz12_0 := blk_frozen BK190.out 0; have hfz12_1 := blk_frozen BK190.out 1; have hfz12_2 := blk_frozen BK190.out 2; have hfz12_3 := blk_frozen BK190.out 3) | ((with_reducible refine gate_callee (f := 45) rfl ?_); refine goesL_ (some 20) rfl rfl Try.func45 (by kernel_rfl) rfl #[.agg #[.int .u8 a0_0, .int .i64 a0_1, .int .i64 a0_2, .int .u64 a0_3]] rfl (by (try simp only [List.map_toArray, List.map_cons, List.map_nil]); first | done | rfl | (simp only [List.length_drop, List.length_take]; rfl)) ?_; (with_reducible refine (fascineref14_Encode.calls k a0_0 a0_1 a0_2 a0_3 t196 _ A6.out).mono ?_); rintro e w13 ⟨v197, rfl, ho0, hb⟩; refine ⟨_, rfl, ?_⟩; have n0_ := Aside0.mk (Kd.R_elder' (by (with_reducible repeat (first | apply Kd.R_alloc | apply Kd.R_drewN | apply Kd.R_drew)); exact HO194.out) (Kd.R_base ho0) hb); have n1_ := Aside0.mk (Kd.R_lower (Kd.R_new' ho0 (Kd.R_lt (by (with_reducible repeat (first | apply Kd.R_alloc | apply Kd.R_drewN | apply Kd.R_drew)); exact HO194.out))) (below_size (by repeat (first | (with_reducible first | exact HB.out | apply below_alloc | apply pw_below_drewN | apply below_drew1 | refine below_set ?_ GE190.out) | exact HB.out)))); have n2_ := Aside0.mk (blk_below (g := gb190) (o := .cells #[.int .u8 a0_0, .int .i64 a0_1, .int .i64 a0_2, .int .u64 a0_3] 39 (0, 0)) (by (with_reducible repeat (first | refine blk_drewN ?_ _ | refine blk_drew ?_ | refine blk_alloc ?_ _)); exact BK190.out) hb); have n3_ := Aside0.mk (below_step (by repeat (first | (with_reducible first | exact HB.out | apply below_alloc | apply pw_below_drewN | apply below_drew1 | refine below_set ?_ GE190.out) | exact HB.out)) hb); clear HO194; clear BK190; clear HB; have HO194 := n0_; have HO198 := n1_; have BK190 := n2_; have HB := n3_; clear n0_ n1_ n2_ n3_; (try clear hb); (try clear hb2); (try clear hk); (try clear hi); (try clear ho0)))
    (try simp only [Act.put, List.setIfInBounds_toArray, List.set_cons_zero, List.set_cons_succ])
    go_cut [41] (fun v41 wc => ∃ (kq : Nat) (x41_6 : Bool), v41 = .bool x41_6 ∧ Aside0 (fascinelaw14_MetaCodes.j0 kq l1 t192 t195 x41_6 a0_0 a0_1 a0_2 a0_3 = some r) ∧ Aside0 (kq ≤ k) ∧ Aside0 (Kd.R (Kd.int .u8) 5 wc w.heap.size (fun _ => True) v193 t192) ∧ Aside0 (wc.heap[gb190]? = some (.cells #[.int .u8 a0_0, .int .i64 a0_1, .int .i64 a0_2, .int .u64 a0_3] 39 (0, 0))) ∧ Aside0 (Below w.heap.size w wc))
    case first =>
      have H := HC7.out
      clear HC7
      by_cases c14 : (strOfNums t192).toList = (strOfNums t196).toList
      · rw [if_pos c14] at H
        have c14b0 : ((strOfNums t192).toList == (strOfNums t196).toList) = true := beq_iff_eq.mpr c14
        have c14b1 : ((strOfNums t192).toList != (strOfNums t196).toList) = false := bne_eq_false_iff_eq.mpr c14
        clear c14
        (first | rw [c14b0] | (simp only [i64_w, i32_w]; rw [c14b0]) | skip)
        by_cases c15 : ((t195 == 0) != (decide ((t196.length : Int) > 0))) = true
        · rw [if_pos c15] at H
          have c15b0 : ((t195 == 0) != (decide ((t196.length : Int) > 0))) = true := c15
          have c15n0 : ((t195 == 0) != (decide (0 < t196.length))) = true := by have z_ : ((t195 == 0) != (decide ((t196.length : Int) > 0))) = true := c15; rwa [show (decide ((t196.length : Int) > 0)) = decide (0 < t196.length) from decide_eq_decide.mpr (by omega)] at z_
          (try (have c15n1 : ((t195 == 0) == (decide (0 < t196.length))) = false := bne_eqB c15n0))
          (try (have c15n2 : decide ((t195 == 0) = (decide (0 < t196.length))) = false := bne_dec c15n0))
          (try (have c15b3 : ¬ ((t195 == 0) = (decide ((t196.length : Int) > 0))) := by simpa using c15))
          (try (have c15b1 : decide ((t195 == 0) = (decide ((t196.length : Int) > 0))) = false := by simpa using c15))
          (try (have c15b2 : ((t195 == 0) == (decide ((t196.length : Int) > 0))) = false := by simpa using c15))
          clear c15
          have H' := Aside0.mk H
          clear H
          have hcv16 := own_string (P := Try.prog) Try.underlying46 Try.underlying5 Try.underlying9 (Kd.own_of_R HO194.out)
          have hcq17 := fun (nq_ : Nat) => own_string (P := Try.prog) Try.underlying46 Try.underlying5 Try.underlying9 (Kd.own_of_R (Kd.R_drewN HO194.out nq_))
          have hcv18 := own_string (P := Try.prog) Try.underlying46 Try.underlying5 Try.underlying9 (Kd.own_of_R HO198.out)
          have hcq19 := fun (nq_ : Nat) => own_string (P := Try.prog) Try.underlying46 Try.underlying5 Try.underlying9 (Kd.own_of_R (Kd.R_drewN HO198.out nq_))
          obtain ⟨Ao20, co20, eo20⟩ := Kd.R_slice HO198.out
          subst eo20
          go_wp2
          go_meet
          case rel => exact ⟨_, (true), (by first | rfl | (simp; done) | (simp [*]; done)), H', ⟨by first | omega | exact Nat.le_refl _⟩, ⟨by (with_reducible repeat (first | apply Kd.R_alloc | apply Kd.R_drewN | apply Kd.R_drew)); exact Kd.R_mono HO194.out (fun _ hk => trivial)⟩, ⟨by (with_reducible repeat (first | refine blk_drewN ?_ _ | refine blk_drew ?_ | refine blk_alloc ?_ _)); exact BK190.out⟩, ⟨by repeat (first | (with_reducible first | exact HB.out | apply below_alloc | apply pw_below_drewN | apply below_drew1 | refine below_set ?_ GE190.out) | exact HB.out)⟩⟩
        · rw [if_neg c15] at H
          have c15b0 : ((t195 == 0) != (decide ((t196.length : Int) > 0))) = false := (by first | exact Bool.eq_false_iff.mpr c15 | simpa using c15)
          have c15n0 : ((t195 == 0) != (decide (0 < t196.length))) = false := by have z_ : ((t195 == 0) != (decide ((t196.length : Int) > 0))) = false := (by first | exact Bool.eq_false_iff.mpr c15 | simpa using c15); rwa [show (decide ((t196.length : Int) > 0)) = decide (0 < t196.length) from decide_eq_decide.mpr (by omega)] at z_
          (try (have c15n1 : ((t195 == 0) == (decide (0 < t196.length))) = true := bne_eqB c15n0))
          (try (have c15n2 : decide ((t195 == 0) = (decide (0 < t196.length))) = true := bne_dec c15n0))
          (try (have c15b1 : decide ((t195 == 0) = (decide ((t196.length : Int) > 0))) = true := by simpa using c15))
          (try (have c15b2 : ((t195 == 0) == (decide ((t196.length : Int) > 0))) = true := by simpa using c15))
          clear c15
          by_cases c21 : t195 = 0
          · rw [if_pos c21] at H
            have c21b0 : (t195 == 0) = true := beq_iff_eq.mpr c21
            (try (have c21z : decide (0 < t196.length) = true := bne_val c15n0 c21b0))
            (try (have c21y : decide ((t196.length : Int) > 0) = true := by rw [show (decide ((t196.length : Int) > 0)) = decide (0 < t196.length) from decide_eq_decide.mpr (by omega)]; exact c21z))
            have c21b1 : (t195 != 0) = false := bne_eq_false_iff_eq.mpr c21
            clear c21
            have H' := Aside0.mk H
            clear H
            have hcv22 := own_string (P := Try.prog) Try.underlying46 Try.underlying5 Try.underlying9 (Kd.own_of_R HO194.out)
            have hcq23 := fun (nq_ : Nat) => own_string (P := Try.prog) Try.underlying46 Try.underlying5 Try.underlying9 (Kd.own_of_R (Kd.R_drewN HO194.out nq_))
            have hcv24 := own_string (P := Try.prog) Try.underlying46 Try.underlying5 Try.underlying9 (Kd.own_of_R HO198.out)
            have hcq25 := fun (nq_ : Nat) => own_string (P := Try.prog) Try.underlying46 Try.underlying5 Try.underlying9 (Kd.own_of_R (Kd.R_drewN HO198.out nq_))
            obtain ⟨Ao26, co26, eo26⟩ := Kd.R_slice HO198.out
            subst eo26
            go_wp2
            go_meet
            case rel => exact ⟨_, (false), (by first | rfl | (simp; done) | (simp [*]; done)), H', ⟨by first | omega | exact Nat.le_refl _⟩, ⟨by (with_reducible repeat (first | apply Kd.R_alloc | apply Kd.R_drewN | apply Kd.R_drew)); exact Kd.R_mono HO194.out (fun _ hk => trivial)⟩, ⟨by (with_reducible repeat (first | refine blk_drewN ?_ _ | refine blk_drew ?_ | refine blk_alloc ?_ _)); exact BK190.out⟩, ⟨by repeat (first | (with_reducible first | exact HB.out | apply below_alloc | apply pw_below_drewN | apply below_drew1 | refine below_set ?_ GE190.out) | exact HB.out)⟩⟩
          · rw [if_neg c21] at H
            have c21b0 : (t195 == 0) = false := beq_eq_false_iff_ne.mpr c21
            (try (have c21z : decide (0 < t196.length) = false := bne_val c15n0 c21b0))
            (try (have c21y : decide ((t196.length : Int) > 0) = false := by rw [show (decide ((t196.length : Int) > 0)) = decide (0 < t196.length) from decide_eq_decide.mpr (by omega)]; exact c21z))
            have c21b1 : (t195 != 0) = true := bne_iff_ne.mpr c21
            have H' := Aside0.mk H
            clear H
            have hcv27 := own_string (P := Try.prog) Try.underlying46 Try.underlying5 Try.underlying9 (Kd.own_of_R HO194.out)
            have hcq28 := fun (nq_ : Nat) => own_string (P := Try.prog) Try.underlying46 Try.underlying5 Try.underlying9 (Kd.own_of_R (Kd.R_drewN HO194.out nq_))
            have hcv29 := own_string (P := Try.prog) Try.underlying46 Try.underlying5 Try.underlying9 (Kd.own_of_R HO198.out)
            have hcq30 := fun (nq_ : Nat) => own_string (P := Try.prog) Try.underlying46 Try.underlying5 Try.underlying9 (Kd.own_of_R (Kd.R_drewN HO198.out nq_))
            obtain ⟨Ao31, co31, eo31⟩ := Kd.R_slice HO198.out
            subst eo31
            go_wp2
            go_meet
            case rel => exact ⟨_, ((t195 != 3)), (by first | rfl | (simp; done) | (simp [*]; done)), H', ⟨by first | omega | exact Nat.le_refl _⟩, ⟨by (with_reducible repeat (first | apply Kd.R_alloc | apply Kd.R_drewN | apply Kd.R_drew)); exact Kd.R_mono HO194.out (fun _ hk => trivial)⟩, ⟨by (with_reducible repeat (first | refine blk_drewN ?_ _ | refine blk_drew ?_ | refine blk_alloc ?_ _)); exact BK190.out⟩, ⟨by repeat (first | (with_reducible first | exact HB.out | apply below_alloc | apply pw_below_drewN | apply below_drew1 | refine below_set ?_ GE190.out) | exact HB.out)⟩⟩
      · rw [if_neg c14] at H
        have c14b0 : ((strOfNums t192).toList == (strOfNums t196).toList) = false := beq_eq_false_iff_ne.mpr c14
        have c14b1 : ((strOfNums t192).toList != (strOfNums t196).toList) = true := bne_iff_ne.mpr c14
        (first | rw [c14b0] | (simp only [i64_w, i32_w]; rw [c14b0]) | skip)
        have H' := Aside0.mk H
        clear H
        have hcv32 := own_string (P := Try.prog) Try.underlying46 Try.underlying5 Try.underlying9 (Kd.own_of_R HO194.out)
        have hcq33 := fun (nq_ : Nat) => own_string (P := Try.prog) Try.underlying46 Try.underlying5 Try.underlying9 (Kd.own_of_R (Kd.R_drewN HO194.out nq_))
        have hcv34 := own_string (P := Try.prog) Try.underlying46 Try.underlying5 Try.underlying9 (Kd.own_of_R HO198.out)
        have hcq35 := fun (nq_ : Nat) => own_string (P := Try.prog) Try.underlying46 Try.underlying5 Try.underlying9 (Kd.own_of_R (Kd.R_drewN HO198.out nq_))
        go_wp2
        go_meet
        case rel => exact ⟨_, (true), (by first | rfl | (simp; done) | (simp [*]; done)), H', ⟨by first | omega | exact Nat.le_refl _⟩, ⟨by (with_reducible repeat (first | apply Kd.R_alloc | apply Kd.R_drewN | apply Kd.R_drew)); exact Kd.R_mono HO194.out (fun _ hk => trivial)⟩, ⟨by (with_reducible repeat (first | refine blk_drewN ?_ _ | refine blk_drew ?_ | refine blk_alloc ?_ _)); exact BK190.out⟩, ⟨by repeat (first | (with_reducible first | exact HB.out | apply below_alloc | apply pw_below_drewN | apply below_drew1 | refine below_set ?_ GE190.out) | exact HB.out)⟩⟩
    case rest =>
      clear HC7
      try clear c1
      try clear q1
      try clear hcv1
      try clear c2
      try clear p2
      try clear q2
      try clear hcv2
      try clear q3
      try clear hcv3
      try clear c4
      try clear c14
      try clear c14b0
      try clear c14b1
      try clear c15
      try clear c15b0
      try clear c15b1
      try clear c15b2
      try clear hcv16
      try clear q17
      try clear hcv18
      try clear q19
      try clear c21
      try clear c21b0
      try clear c21b1
      try clear hcv22
      try clear q23
      try clear hcv24
      try clear q25
      try clear hcv27
      try clear q28
      try clear hcv29
      try clear q30
      try clear hcv32
      try clear q33
      try clear hcv34
      try clear q35
      try clear hcz10_0
      try clear hcz10_1
      try clear hcz10_2
      try clear hcz10_3
      try clear hcz12_0
      try clear hcz12_1
      try clear hcz12_2
      try clear hcz12_3
      try clear hfz10_0
      try clear hfz10_1
      try clear hfz10_2
      try clear hfz10_3
      try clear hfz12_0
      try clear hfz12_1
      try clear hfz12_2
      try clear hfz12_3
      obtain ⟨kq, x41_6, rfl, HA, HJ6, HO_5, BK190, HB⟩ := hcut
      cases kq with
      | zero => exact absurd HA.out (by simp [fascinelaw14_MetaCodes.j0])
      | succ kj6 =>
        have H := HA.out
        clear HA
        simp only [fascinelaw14_MetaCodes.j0] at H
        by_cases c36 : x41_6 = true
        · subst c36
          have H1 : (some false) = some r := by rw [if_pos rfl] at H; exact H
          clear H
          have H := H1
          clear H1
          exact absurd (HR_.out.symm.trans (Option.some.inj H).symm) (by decide)
        · replace c36 := Bool.eq_false_iff.mpr c36
          subst c36
          have H1 : (if t195 = 0 then ((meta_Decode.f kj6 t192).bind fun bt199 => (if bt199.2.2.2.2 = 0 then (if (!(bt199.1 == a0_0) || (!(bt199.2.1 == a0_1) || (!(bt199.2.2.1 == a0_2) || (!(bt199.2.2.2.1 == a0_3))))) = true then (some false) else (fascinelaw14_MetaCodes.j1 kj6 l1)) else (some false))) else (fascinelaw14_MetaCodes.j1 kj6 l1)) = some r := by rw [if_neg (show ¬ (false = true) by decide)] at H; exact H
          clear H
          have H := H1
          clear H1
          have HC37 := Aside0.mk H
          clear H
          go_upto_if 43 with (fail)
          go_cut [] (fun wc => ∃ (kq : Nat), Aside0 (fascinelaw14_MetaCodes.j1 kq l1 = some r) ∧ Aside0 (kq ≤ kj6) ∧ Aside0 (wc.heap[gb190]? = some (.cells #[.int .u8 a0_0, .int .i64 a0_1, .int .i64 a0_2, .int .u64 a0_3] 39 (0, 0))) ∧ Aside0 (Below w.heap.size w wc))
          case first =>
            have H := HC37.out
            clear HC37
            by_cases c38 : t195 = 0
            · rw [if_pos c38] at H
              have c38b0 : (t195 == 0) = true := beq_iff_eq.mpr c38
              (try (have c38z : decide (0 < t196.length) = true := bne_val c15n0 c38b0))
              (try (have c38y : decide ((t196.length : Int) > 0) = true := by rw [show (decide ((t196.length : Int) > 0)) = decide (0 < t196.length) from decide_eq_decide.mpr (by omega)]; exact c38z))
              have c38b1 : (t195 != 0) = false := bne_eq_false_iff_eq.mpr c38
              clear c38
              (first | rw [c38b0] | (simp only [i64_w, i32_w]; rw [c38b0]) | skip)
              replace H := Option.bind_eq_some_iff.mp H
              obtain ⟨⟨t199, t200, t201, t202, t203⟩, A390, H⟩ := H
              replace H : (if t203 = 0 then (if (!(t199 == a0_0) || (!(t200 == a0_1) || (!(t201 == a0_2) || (!(t202 == a0_3))))) = true then (some false) else (fascinelaw14_MetaCodes.j1 kj6 l1)) else (some false)) = some r := H
              have A39 := Aside0.mk A390
              clear A390
              by_cases c40 : t203 = 0
              · rw [if_pos c40] at H
                have c40b0 : (t203 == 0) = true := beq_iff_eq.mpr c40
                have c40b1 : (t203 != 0) = false := bne_eq_false_iff_eq.mpr c40
                clear c40
                by_cases c41 : (!(t199 == a0_0) || (!(t200 == a0_1) || (!(t201 == a0_2) || (!(t202 == a0_3))))) = true
                · rw [if_pos c41] at H
                  have c41b0 : (!(t199 == a0_0) || (!(t200 == a0_1) || (!(t201 == a0_2) || (!(t202 == a0_3))))) = true := c41
                  clear c41
                  exact absurd (HR_.out.symm.trans (Option.some.inj H).symm) (by decide)
                · rw [if_neg c41] at H
                  have c41b0 : (!(t199 == a0_0) || (!(t200 == a0_1) || (!(t201 == a0_2) || (!(t202 == a0_3))))) = false := (by first | exact Bool.eq_false_iff.mpr c41 | simpa using c41)
                  clear c41
                  have H' := Aside0.mk H
                  clear H
                  obtain ⟨Ao42, co42, eo42⟩ := Kd.R_slice HO_5.out
                  subst eo42
                  go_wp2_with (first | ((with_reducible refine gate_callee (f := 46) rfl ?_); refine goesL_ (some 46) rfl rfl Try.func46 (by kernel_rfl) rfl #[.slice Ao42 t192.length co42] rfl (by (try simp only [List.map_toArray, List.map_cons, List.map_nil]); first | done | rfl | (simp only [List.length_drop, List.length_take]; rfl)) ?_; (with_reducible refine (meta_Decode.calls kj6 _ _ t192 t199 t200 t201 t202 t203 _ ?side1 ?side2 A39.out).mono ?_); (case side1 => repeat (first | exact (Kd.R_reads' HO_5.out).2.2 | (with_reducible refine Kd.C_alloc ?_ _) | (with_reducible refine Kd.C_drewN ?_ _) | (with_reducible refine Kd.C_drew ?_))); (case side2 => exact (Kd.R_reads' HO_5.out).2.1); rintro e w43 ⟨rfl, hb⟩; refine ⟨_, rfl, ?_⟩; have n0_ := Aside0.mk (Kd.R_below (by (with_reducible repeat (first | apply Kd.R_alloc | apply Kd.R_drewN | apply Kd.R_drew)); exact HO_5.out) hb); have n1_ := Aside0.mk (blk_below (g := gb190) (o := .cells #[.int .u8 a0_0, .int .i64 a0_1, .int .i64 a0_2, .int .u64 a0_3] 39 (0, 0)) (by (with_reducible repeat (first | refine blk_drewN ?_ _ | refine blk_drew ?_ | refine blk_alloc ?_ _)); exact BK190.out) hb); have n2_ := Aside0.mk (below_step (by repeat (first | (with_reducible first | exact HB.out | apply below_alloc | apply pw_below_drewN | apply below_drew1 | refine below_set ?_ GE190.out) | exact HB.out)) hb); clear HO_5; clear BK190; clear HB; have HO_5 := n0_; have BK190 := n1_; have HB := n2_; clear n0_ n1_ n2_; (try clear hb); (try clear hb2); (try clear hk); (try clear hi)) | ((with_reducible refine gate_dst (N := 8) rfl ?_); (try (refine gate_guard (by rfl) ?_; dsimp only)); refine box_event ?hg (N := 8) ?hd (cs := #[.int .u8 0, .int .i64 0, .int .i64 0, .int .u64 0]) (t := 39) ?hr ?_; (case hd => rfl); (case hg => rfl); (case hr => first | (go_simp; done) | (go_simp; rfl)); intro gb204 hg w44 hbox hb; have n0_ := Aside0.mk (Kd.R_below (by (with_reducible repeat (first | apply Kd.R_alloc | apply Kd.R_drewN | apply Kd.R_drew)); exact HO_5.out) hb); have n1_ := Aside0.mk (blk_below (g := gb190) (o := .cells #[.int .u8 a0_0, .int .i64 a0_1, .int .i64 a0_2, .int .u64 a0_3] 39 (0, 0)) (by (with_reducible repeat (first | refine blk_drewN ?_ _ | refine blk_drew ?_ | refine blk_alloc ?_ _)); exact BK190.out) hb); have n2_ := Aside0.mk (below_step (by repeat (first | (with_reducible first | exact HB.out | apply below_alloc | apply pw_below_drewN | apply below_drew1 | refine below_set ?_ GE190.out) | exact HB.out)) hb); have n3_ := Aside0.mk (hbox); have n4_ := Aside0.mk ((by rw [hg]; exact (below_size (by repeat (first | (with_reducible first | exact HB.out | apply below_alloc | apply pw_below_drewN | apply below_drew1 | refine below_set ?_ GE190.out) | exact HB.out))) : w.heap.size ≤ gb204)); have n5_ := Aside0.mk ((by rw [hg]; exact (below_size (by repeat (first | (with_reducible first | exact HB.out | apply below_alloc | apply pw_below_drewN | apply below_drew1 | refine below_set ?_ GE190.out) | exact HB.out))) : w.heap.size ≤ gb204)); have n6_ := Aside0.mk ((by rw [hg]; exact Nat.ne_of_lt (blk_lt (g := gb190) (o := .cells #[.int .u8 a0_0, .int .i64 a0_1, .int .i64 a0_2, .int .u64 a0_3] 39 (0, 0)) (by (with_reducible repeat (first | refine blk_drewN ?_ _ | refine blk_drew ?_ | refine blk_alloc ?_ _)); exact BK190.out)) : gb190 ≠ gb204)); have n7_ := Aside0.mk ((by rw [hg]; exact Nat.ne_of_gt (blk_lt (g := gb190) (o := .cells #[.int .u8 a0_0, .int .i64 a0_1, .int .i64 a0_2, .int .u64 a0_3] 39 (0, 0)) (by (with_reducible repeat (first | refine blk_drewN ?_ _ | refine blk_drew ?_ | refine blk_alloc ?_ _)); exact BK190.out)) : gb204 ≠ gb190)); clear HO_5; clear BK190; clear HB; have HO_5 := n0_; have BK190 := n1_; have HB := n2_; have BK204 := n3_; have GW204 := n4_; have GE204 := n5_; have NB190_204 := n6_; have NB204_190 := n7_; clear n0_ n1_ n2_ n3_ n4_ n5_ n6_ n7_; clear hb hbox hg; have hnb45 := NB204_190.out; have hnc45 := NB190_204.out; have hcz46_0 : w44.cell? ⟨gb204, 0, none⟩ = some (.int .u8 0) := (blk_cell BK204.out 0).trans rfl; have hcz46_1 : w44.cell? ⟨gb204, 1, none⟩ = some (.int .i64 0) := (blk_cell BK204.out 1).trans rfl; have hcz46_2 : w44.cell? ⟨gb204, 2, none⟩ = some (.int .i64 0) := (blk_cell BK204.out 2).trans rfl; have hcz46_3 : w44.cell? ⟨gb204, 3, none⟩ = some (.int .u64 0) := (blk_cell BK204.out 3).trans rfl; have hfz46_0 := blk_frozen BK204.out 0; have hfz46_1 := blk_frozen BK204.out 1; have hfz46_2 := blk_frozen BK204.out 2; have hfz46_3 := blk_frozen BK204.out 3; have hcz47_0 : w44.cell? ⟨gb190, 0, none⟩ = some (.int .u8 a0_0) := (blk_cell BK190.out 0).trans rfl; have hcz47_1 : w44.cell? ⟨gb190, 1, none⟩ = some (.int .i64 a0_1) := (blk_cell BK190.out 1).trans rfl; have hcz47_2 : w44.cell? ⟨gb190, 2, none⟩ = some (.int .i64 a0_2) := (blk_cell BK190.out 2).trans rfl; have hcz47_3 : w44.cell? ⟨gb190, 3, none⟩ = some (.int .u64 a0_3) := (blk_cell BK190.out 3).trans rfl; have hfz47_0 := blk_frozen BK190.out 0; have hfz47_1 := blk_frozen BK190.out 1; have hfz47_2 := blk_frozen BK190.out 2; have hfz47_3 := blk_frozen BK190.out 3))
                  go_meet
                  case rel => exact ⟨_, H', ⟨by have := HJ6.out; first | omega | exact Nat.le_refl _⟩, ⟨by (with_reducible repeat (first | refine blk_drewN ?_ _ | refine blk_drew ?_ | refine blk_alloc ?_ _)); refine blk_far ?_ NB190_204.out _; (with_reducible repeat (first | refine blk_drewN ?_ _ | refine blk_drew ?_ | refine blk_alloc ?_ _)); refine blk_far ?_ NB190_204.out _; (with_reducible repeat (first | refine blk_drewN ?_ _ | refine blk_drew ?_ | refine blk_alloc ?_ _)); refine blk_far ?_ NB190_204.out _; (with_reducible repeat (first | refine blk_drewN ?_ _ | refine blk_drew ?_ | refine blk_alloc ?_ _)); refine blk_far ?_ NB190_204.out _; (with_reducible repeat (first | refine blk_drewN ?_ _ | refine blk_drew ?_ | refine blk_alloc ?_ _)); exact BK190.out⟩, ⟨by repeat (first | (with_reducible first | exact HB.out | apply below_alloc | apply pw_below_drewN | apply below_drew1 | refine below_set ?_ GE190.out | refine below_set ?_ GE204.out) | exact HB.out)⟩⟩
              · rw [if_neg c40] at H
                have c40b0 : (t203 == 0) = false := beq_eq_false_iff_ne.mpr c40
                have c40b1 : (t203 != 0) = true := bne_iff_ne.mpr c40
                exact absurd (HR_.out.symm.trans (Option.some.inj H).symm) (by decide)
            · rw [if_neg c38] at H
              have c38b0 : (t195 == 0) = false := beq_eq_false_iff_ne.mpr c38
              (try (have c38z : decide (0 < t196.length) = false := bne_val c15n0 c38b0))
              (try (have c38y : decide ((t196.length : Int) > 0) = false := by rw [show (decide ((t196.length : Int) > 0)) = decide (0 < t196.length) from decide_eq_decide.mpr (by omega)]; exact c38z))
              have c38b1 : (t195 != 0) = true := bne_iff_ne.mpr c38
              (first | rw [c38b0] | (simp only [i64_w, i32_w]; rw [c38b0]) | skip)
              have H' := Aside0.mk H
              clear H
              go_wp2
              go_meet
              case rel => exact ⟨_, H', ⟨by have := HJ6.out; first | omega | exact Nat.le_refl _⟩, ⟨by (with_reducible repeat (first | refine blk_drewN ?_ _ | refine blk_drew ?_ | refine blk_alloc ?_ _)); exact BK190.out⟩, ⟨by repeat (first | (with_reducible first | exact HB.out | apply below_alloc | apply pw_below_drewN | apply below_drew1 | refine below_set ?_ GE190.out) | exact HB.out)⟩⟩
          case rest =>
            clear HC37
            try clear c1
            try clear q1
            try clear hcv1
            try clear c2
            try clear p2
            try clear q2
            try clear hcv2
            try clear c3
            try clear q3
            try clear hcv3
            try clear c4
            try clear c14
            try clear c14b0
            try clear c14b1
            try clear c15
            try clear c15b0
            try clear c15b1
            try clear c15b2
            try clear hcv16
            try clear q17
            try clear hcv18
            try clear q19
            try clear c21
            try clear c21b0
            try clear c21b1
            try clear hcv22
            try clear q23
            try clear hcv24
            try clear q25
            try clear hcv27
            try clear q28
            try clear hcv29
            try clear q30
            try clear hcv32
            try clear q33
            try clear hcv34
            try clear q35
            try clear c36
            try clear c38
            try clear c38b0
            try clear c38b1
            try clear c40
            try clear c40b0
            try clear c40b1
            try clear c41
            try clear c41b0
            try clear c44
            try clear c45
            try clear c46
            try clear hcz10_0
            try clear hcz10_1
            try clear hcz10_2
            try clear hcz10_3
            try clear hcz12_0
            try clear hcz12_1
            try clear hcz12_2
            try clear hcz12_3
            try clear hcz46_0
            try clear hcz46_1
            try clear hcz46_2
            try clear hcz46_3
            try clear hcz47_0
            try clear hcz47_1
            try clear hcz47_2
            try clear hcz47_3
            try clear hfz10_0
            try clear hfz10_1
            try clear hfz10_2
            try clear hfz10_3
            try clear hfz12_0
            try clear hfz12_1
            try clear hfz12_2
            try clear hfz12_3
            try clear hfz46_0
            try clear hfz46_1
            try clear hfz46_2
            try clear hfz46_3
            try clear hfz47_0
            try clear hfz47_1
            try clear hfz47_2
            try clear hfz47_3
            try clear p2
            try clear q1
            try clear q17
            try clear q19
            try clear q2
            try clear q23
            try clear q25
            try clear q28
            try clear q3
            try clear q30
            try clear q33
            try clear q35
            obtain ⟨kq, HA, HJ36, BK190, HB⟩ := hcut
            cases kq with
            | zero => exact absurd HA.out (by simp [fascinelaw14_MetaCodes.j1])
            | succ kj36 =>
              have H := HA.out
              clear HA
              simp only [fascinelaw14_MetaCodes.j1] at H
              replace H := Option.bind_eq_some_iff.mp H
              obtain ⟨⟨t205, t206, t207, t208, t209⟩, A480, H⟩ := H
              replace H : (if t209 = 0 then ((fascineref14_Encode.f kj36 t205 t206 t207 t208).bind fun t211 => (some ((strOfNums t211).toList == (strOfNums l1).toList))) else (if t209 = 3 then (some (t205 == 0 && (t206 == 0 && (t207 == 0 && (t208 == 0))))) else (some false))) = some r := H
              have A48 := Aside0.mk A480
              clear A480
              by_cases c49 : t209 = 0
              · rw [if_pos c49] at H
                have c49b0 : (t209 == 0) = true := beq_iff_eq.mpr c49
                have c49b1 : (t209 != 0) = false := bne_eq_false_iff_eq.mpr c49
                clear c49
                replace H := Option.bind_eq_some_iff.mp H
                obtain ⟨t211, A500, H⟩ := H
                replace H : (some ((strOfNums t211).toList == (strOfNums l1).toList)) = some r := H
                have A50 := Aside0.mk A500
                clear A500
                obtain rfl := Option.some.inj H
                try go_wp2_with (first | ((with_reducible refine gate_callee (f := 46) rfl ?_); refine goesL_ (some 58) rfl rfl Try.func46 (by kernel_rfl) rfl #[.slice A1 l1.length c1] rfl (by (try simp only [List.map_toArray, List.map_cons, List.map_nil]); first | done | rfl | (simp only [List.length_drop, List.length_take]; rfl)) ?_; (with_reducible refine (meta_Decode.calls kj36 _ _ l1 t205 t206 t207 t208 t209 _ ?side1 ?side2 A48.out).mono ?_); (case side1 => repeat (first | exact (Kd.C_below HR1.out HB.out) | (with_reducible refine Kd.C_alloc ?_ _) | (with_reducible refine Kd.C_drewN ?_ _) | (with_reducible refine Kd.C_drew ?_))); (case side2 => exact HC1.out); rintro e w51 ⟨rfl, hb⟩; refine ⟨_, rfl, ?_⟩; have n0_ := Aside0.mk (blk_below (g := gb190) (o := .cells #[.int .u8 a0_0, .int .i64 a0_1, .int .i64 a0_2, .int .u64 a0_3] 39 (0, 0)) (by (with_reducible repeat (first | refine blk_drewN ?_ _ | refine blk_drew ?_ | refine blk_alloc ?_ _)); exact BK190.out) hb); have n1_ := Aside0.mk (below_step (by repeat (first | (with_reducible first | exact HB.out | apply below_alloc | apply pw_below_drewN | apply below_drew1 | refine below_set ?_ GE190.out) | exact HB.out)) hb); clear BK190; clear HB; have BK190 := n0_; have HB := n1_; clear n0_ n1_; (try clear hb); (try clear hb2); (try clear hk); (try clear hi)) | ((with_reducible refine gate_dst (N := 10) rfl ?_); (try (refine gate_guard (by rfl) ?_; dsimp only)); refine box_event ?hg (N := 10) ?hd (cs := #[.int .u8 0, .int .i64 0, .int .i64 0, .int .u64 0]) (t := 39) ?hr ?_; (case hd => rfl); (case hg => rfl); (case hr => first | (go_simp; done) | (go_simp; rfl)); intro gb210 hg w52 hbox hb; have n0_ := Aside0.mk (blk_below (g := gb190) (o := .cells #[.int .u8 a0_0, .int .i64 a0_1, .int .i64 a0_2, .int .u64 a0_3] 39 (0, 0)) (by (with_reducible repeat (first | refine blk_drewN ?_ _ | refine blk_drew ?_ | refine blk_alloc ?_ _)); exact BK190.out) hb); have n1_ := Aside0.mk (below_step (by repeat (first | (with_reducible first | exact HB.out | apply below_alloc | apply pw_below_drewN | apply below_drew1 | refine below_set ?_ GE190.out) | exact HB.out)) hb); have n2_ := Aside0.mk (hbox); have n3_ := Aside0.mk ((by rw [hg]; exact (below_size (by repeat (first | (with_reducible first | exact HB.out | apply below_alloc | apply pw_below_drewN | apply below_drew1 | refine below_set ?_ GE190.out) | exact HB.out))) : w.heap.size ≤ gb210)); have n4_ := Aside0.mk ((by rw [hg]; exact (below_size (by repeat (first | (with_reducible first | exact HB.out | apply below_alloc | apply pw_below_drewN | apply below_drew1 | refine below_set ?_ GE190.out) | exact HB.out))) : w.heap.size ≤ gb210)); have n5_ := Aside0.mk ((by rw [hg]; exact Nat.ne_of_lt (blk_lt (g := gb190) (o := .cells #[.int .u8 a0_0, .int .i64 a0_1, .int .i64 a0_2, .int .u64 a0_3] 39 (0, 0)) (by (with_reducible repeat (first | refine blk_drewN ?_ _ | refine blk_drew ?_ | refine blk_alloc ?_ _)); exact BK190.out)) : gb190 ≠ gb210)); have n6_ := Aside0.mk ((by rw [hg]; exact Nat.ne_of_gt (blk_lt (g := gb190) (o := .cells #[.int .u8 a0_0, .int .i64 a0_1, .int .i64 a0_2, .int .u64 a0_3] 39 (0, 0)) (by (with_reducible repeat (first | refine blk_drewN ?_ _ | refine blk_drew ?_ | refine blk_alloc ?_ _)); exact BK190.out)) : gb210 ≠ gb190)); clear BK190; clear HB; have BK190 := n0_; have HB := n1_; have BK210 := n2_; have GW210 := n3_; have GE210 := n4_; have NB190_210 := n5_; have NB210_190 := n6_; clear n0_ n1_ n2_ n3_ n4_ n5_ n6_; clear hb hbox hg; have hnb53 := NB210_190.out; have hnc53 := NB190_210.out; have hcz54_0 : w52.cell? ⟨gb210, 0, none⟩ = some (.int .u8 0) := (blk_cell BK210.out 0).trans rfl; have hcz54_1 : w52.cell? ⟨gb210, 1, none⟩ = some (.int .i64 0) := (blk_cell BK210.out 1).trans rfl; have hcz54_2 : w52.cell? ⟨gb210, 2, none⟩ = some (.int .i64 0) := (blk_cell BK210.out 2).trans rfl; have hcz54_3 : w52.cell? ⟨gb210, 3, none⟩ = some (.int .u64 0) := (blk_cell BK210.out 3).trans rfl; have hfz54_0 := blk_frozen BK210.out 0; have hfz54_1 := blk_frozen BK210.out 1; have hfz54_2 := blk_frozen BK210.out 2; have hfz54_3 := blk_frozen BK210.out 3))
                have n0_ : Aside0 (((((w52.setCell ⟨gb210, 0, none⟩ (.int .u8 t205)).setCell ⟨gb210, 1, none⟩ (.int .i64 t206)).setCell ⟨gb210, 2, none⟩ (.int .i64 t207)).setCell ⟨gb210, 3, none⟩ (.int .u64 t208)).heap[gb190]? = some (.cells #[.int .u8 a0_0, .int .i64 a0_1, .int .i64 a0_2, .int .u64 a0_3] 39 (0, 0))) := ⟨by (with_reducible repeat (first | refine blk_drewN ?_ _ | refine blk_drew ?_ | refine blk_alloc ?_ _)); refine blk_far ?_ NB190_210.out _; (with_reducible repeat (first | refine blk_drewN ?_ _ | refine blk_drew ?_ | refine blk_alloc ?_ _)); refine blk_far ?_ NB190_210.out _; (with_reducible repeat (first | refine blk_drewN ?_ _ | refine blk_drew ?_ | refine blk_alloc ?_ _)); refine blk_far ?_ NB190_210.out _; (with_reducible repeat (first | refine blk_drewN ?_ _ | refine blk_drew ?_ | refine blk_alloc ?_ _)); refine blk_far ?_ NB190_210.out _; (with_reducible repeat (first | refine blk_drewN ?_ _ | refine blk_drew ?_ | refine blk_alloc ?_ _)); exact BK190.out⟩
                have n1_ : Aside0 (((((w52.setCell ⟨gb210, 0, none⟩ (.int .u8 t205)).setCell ⟨gb210, 1, none⟩ (.int .i64 t206)).setCell ⟨gb210, 2, none⟩ (.int .i64 t207)).setCell ⟨gb210, 3, none⟩ (.int .u64 t208)).heap[gb210]? = some (.cells #[.int .u8 t205, .int .i64 t206, .int .i64 t207, .int .u64 t208] 39 (0, 0))) := ⟨by (with_reducible repeat (first | refine blk_drewN ?_ _ | refine blk_drew ?_ | refine blk_alloc ?_ _)); refine blk_put (cs := #[.int .u8 t205, .int .i64 t206, .int .i64 t207, .int .u64 0]) ?_ 3 _ rfl; (with_reducible repeat (first | refine blk_drewN ?_ _ | refine blk_drew ?_ | refine blk_alloc ?_ _)); refine blk_put (cs := #[.int .u8 t205, .int .i64 t206, .int .i64 0, .int .u64 0]) ?_ 2 _ rfl; (with_reducible repeat (first | refine blk_drewN ?_ _ | refine blk_drew ?_ | refine blk_alloc ?_ _)); refine blk_put (cs := #[.int .u8 t205, .int .i64 0, .int .i64 0, .int .u64 0]) ?_ 1 _ rfl; (with_reducible repeat (first | refine blk_drewN ?_ _ | refine blk_drew ?_ | refine blk_alloc ?_ _)); refine blk_put (cs := #[.int .u8 0, .int .i64 0, .int .i64 0, .int .u64 0]) ?_ 0 _ rfl; (with_reducible repeat (first | refine blk_drewN ?_ _ | refine blk_drew ?_ | refine blk_alloc ?_ _)); exact BK210.out⟩
                have n2_ : Aside0 (Below w.heap.size w ((((w52.setCell ⟨gb210, 0, none⟩ (.int .u8 t205)).setCell ⟨gb210, 1, none⟩ (.int .i64 t206)).setCell ⟨gb210, 2, none⟩ (.int .i64 t207)).setCell ⟨gb210, 3, none⟩ (.int .u64 t208))) := ⟨by repeat (first | (with_reducible first | exact HB.out | apply below_alloc | apply pw_below_drewN | apply below_drew1 | refine below_set ?_ GE190.out | refine below_set ?_ GE210.out) | exact HB.out)⟩
                (try clear BK190)
                (try clear BK210)
                (try clear HB)
                generalize ((((w52.setCell ⟨gb210, 0, none⟩ (.int .u8 t205)).setCell ⟨gb210, 1, none⟩ (.int .i64 t206)).setCell ⟨gb210, 2, none⟩ (.int .i64 t207)).setCell ⟨gb210, 3, none⟩ (.int .u64 t208)) = w55 at n0_ n1_ n2_ ⊢
                have BK190 := n0_
                have BK210 := n1_
                have HB := n2_
                clear n0_ n1_ n2_
                (try (rw [drewN_self w55]; generalize hq_ : World.drewN w55 _ = w55; have n0_ : Aside0 (w55.heap[gb190]? = some (.cells #[.int .u8 a0_0, .int .i64 a0_1, .int .i64 a0_2, .int .u64 a0_3] 39 (0, 0))) := ⟨by rw [← hq_]; exact (by (with_reducible repeat (first | refine blk_drewN ?_ _ | refine blk_drew ?_ | refine blk_alloc ?_ _)); exact BK190.out)⟩; have n1_ : Aside0 (w55.heap[gb210]? = some (.cells #[.int .u8 t205, .int .i64 t206, .int .i64 t207, .int .u64 t208] 39 (0, 0))) := ⟨by rw [← hq_]; exact (by (with_reducible repeat (first | refine blk_drewN ?_ _ | refine blk_drew ?_ | refine blk_alloc ?_ _)); exact BK210.out)⟩; have n2_ : Aside0 (Below w.heap.size w w55) := ⟨by rw [← hq_]; exact (by repeat (first | (with_reducible first | exact HB.out | apply below_alloc | apply pw_below_drewN | apply below_drew1 | refine below_set ?_ GE190.out | refine below_set ?_ GE210.out) | exact HB.out))⟩; clear BK190 BK210 HB hq_; have BK190 := n0_; have BK210 := n1_; have HB := n2_; clear n0_ n1_ n2_))
                have n0_ := Aside0.mk (blk_drew BK190.out)
                have n1_ := Aside0.mk (blk_drew BK210.out)
                have n2_ := Aside0.mk (below_drew1 HB.out)
                clear BK190
                clear BK210
                clear HB
                have BK190 := n0_
                have BK210 := n1_
                have HB := n2_
                clear n0_ n1_ n2_
                refine start_ (n := 7) (S := fun w' => w'.cell? ⟨gb210, 0, none⟩ = some (.int .u8 t205) ∧ w'.cell? ⟨gb210, 1, none⟩ = some (.int .i64 t206) ∧ w'.cell? ⟨gb210, 2, none⟩ = some (.int .i64 t207) ∧ w'.cell? ⟨gb210, 3, none⟩ = some (.int .u64 t208)) (ds := []) #[false, false, false, false, false, false, false] (by kernel_rfl) rfl rfl ⟨(blk_cell BK210.out 0).trans rfl, (blk_cell BK210.out 1).trans rfl, (blk_cell BK210.out 2).trans rfl, (blk_cell BK210.out 3).trans rfl⟩ (fun hHeld => ?_)
                generalize w55.drew = w56 at BK190 BK210 HB hHeld ⊢
                refine pure_ (i := 3) (N := some 73) (v := ?_) (a' := ?_) #[false, false, false, true, false, false, false] rfl rfl (by kernel_rfl) (fun _ _ _ h => h) (Or.inl ⟨by rfl, ?_⟩) ?_ ?_
                rotate_left
                · intro w'
                  go_simp
                  with_reducible rfl
                rotate_left
                · simp only [Act.put, List.setIfInBounds_toArray, List.set_cons_zero, List.set_cons_succ, i64_w, i32_w]
                  rfl
                refine take_ (i := 0) (N := some 70) (v := ?_) (a' := ?_) #[true, false, false, true, false, false, false] rfl rfl (by kernel_rfl) (fun _ _ _ h => h) (Or.inl ⟨by rfl, ?_⟩) hHeld ?_ ?_
                rotate_left
                · rintro w' ⟨s0, s1, s2, s3⟩
                  go_simp
                  with_reducible rfl
                rotate_left
                · simp only [Act.put, List.setIfInBounds_toArray, List.set_cons_zero, List.set_cons_succ, i64_w, i32_w]
                  rfl
                refine join_ (σ := Value) 2 #[true, true, true, true, true, false, false] (fun s_ => [(71, s_), (72, .string (strOfNums t211)), (74, .string (strOfNums l1))]) (fun s_ w' => (w'.cell? ⟨gb210, 0, none⟩ = some (.int .u8 t205) ∧ w'.cell? ⟨gb210, 1, none⟩ = some (.int .i64 t206) ∧ w'.cell? ⟨gb210, 2, none⟩ = some (.int .i64 t207) ∧ w'.cell? ⟨gb210, 3, none⟩ = some (.int .u64 t208)) ∧ (Kd.R (Kd.int .u8) 5 w' w.heap.size (fun _ => True) s_ t211) ∧ (w'.heap[gb190]? = some (.cells #[.int .u8 a0_0, .int .i64 a0_1, .int .i64 a0_2, .int .u64 a0_3] 39 (0, 0))) ∧ (w'.heap[gb210]? = some (.cells #[.int .u8 t205, .int .i64 t206, .int .i64 t207, .int .u64 t208] 39 (0, 0))) ∧ (Below w.heap.size w w')) ?_ ?_
                rotate_left
                · intro hCont
                  refine two_ (i := 1) (j := 4) (Ni := some 71) (Nj := some 74) #[true, true, false, true, false, false, false] #[true, false, false, true, true, false, false] rfl rfl rfl rfl (by kernel_rfl) (by decide) (by decide) (fun K hK => ?_) (fun K hK => ?_)
                  · skip
                    refine goes_ Try.func45 (by kernel_rfl) rfl #[.agg #[.int .u8 t205, .int .i64 t206, .int .i64 t207, .int .u64 t208]] (by rfl) rfl rfl (by (try simp only [List.map_toArray, List.map_cons, List.map_nil]); first | done | rfl | (simp only [List.length_drop, List.length_take]; rfl)) ?_
                    with_reducible refine (fascineref14_Encode.calls kj36 t205 t206 t207 t208 t211 _ A50.out).mono ?_
                    rintro e w57 ⟨v212, rfl, ho0, hb⟩
                    refine ⟨_, rfl, ?_⟩
                    have n0_ := Aside0.mk (Kd.R_lower ho0 (below_size (by repeat (first | (with_reducible first | exact HB.out | apply below_alloc | apply pw_below_drewN | apply below_drew1 | refine below_set ?_ GE190.out | refine below_set ?_ GE210.out) | exact HB.out))))
                    have n1_ := Aside0.mk (blk_below (g := gb190) (o := .cells #[.int .u8 a0_0, .int .i64 a0_1, .int .i64 a0_2, .int .u64 a0_3] 39 (0, 0)) (by (with_reducible repeat (first | refine blk_drewN ?_ _ | refine blk_drew ?_ | refine blk_alloc ?_ _)); exact BK190.out) hb)
                    have n2_ := Aside0.mk (blk_below (g := gb210) (o := .cells #[.int .u8 t205, .int .i64 t206, .int .i64 t207, .int .u64 t208] 39 (0, 0)) (by (with_reducible repeat (first | refine blk_drewN ?_ _ | refine blk_drew ?_ | refine blk_alloc ?_ _)); exact BK210.out) hb)
                    have n3_ := Aside0.mk (below_step (by repeat (first | (with_reducible first | exact HB.out | apply below_alloc | apply pw_below_drewN | apply below_drew1 | refine below_set ?_ GE190.out | refine below_set ?_ GE210.out) | exact HB.out)) hb)
                    clear BK190
                    clear BK210
                    clear HB
                    have HO213 := n0_
                    have BK190 := n1_
                    have BK210 := n2_
                    have HB := n3_
                    clear n0_ n1_ n2_ n3_
                    (try clear hb)
                    (try clear hb2)
                    (try clear hk)
                    (try clear hi)
                    (try clear ho0)
                    refine hK.out _ _ ⟨(blk_cell BK210.out 0).trans rfl, (blk_cell BK210.out 1).trans rfl, (blk_cell BK210.out 2).trans rfl, (blk_cell BK210.out 3).trans rfl⟩ (fun hHeld => ?_)
                    clear hK K
                    refine norm_ (a' := ?_) ?_ ?_
                    rotate_left
                    · show Act.put _ (some 71) _ = _
                      simp only [Act.put, List.setIfInBounds_toArray, List.set_cons_zero, List.set_cons_succ, i64_w, i32_w]
                      rfl
                    refine two_ (i := 2) (j := 4) (Ni := some 72) (Nj := some 74) #[true, true, true, true, false, false, false] #[true, true, false, true, true, false, false] rfl rfl rfl rfl (by kernel_rfl) (by decide) (by decide) (fun K hK => ?_) (fun K hK => ?_)
                    · skip
                      have hcv58 := own_string (P := Try.prog) Try.underlying46 Try.underlying5 Try.underlying9 (Kd.own_of_R HO213.out); have hcv58q := fun (nq_ : Nat) => own_string (P := Try.prog) Try.underlying46 Try.underlying5 Try.underlying9 (Kd.own_of_R (Kd.R_drewN HO213.out nq_))
                      refine value_ (w1 := ?_) (v := ?_) (by rfl) rfl ?_ ?_
                      rotate_left 2
                      · go_simp
                        constructor
                        · rfl
                        · rfl
                      clear hcv58 hcv58q
                      refine hK.out _ _ ⟨(blk_cell BK210.out 0).trans rfl, (blk_cell BK210.out 1).trans rfl, (blk_cell BK210.out 2).trans rfl, (blk_cell BK210.out 3).trans rfl⟩ (fun hHeld => ?_)
                      clear hK K
                      refine norm_ (a' := ?_) ?_ ?_
                      rotate_left
                      · show Act.put _ (some 72) _ = _
                        simp only [Act.put, List.setIfInBounds_toArray, List.set_cons_zero, List.set_cons_succ, i64_w, i32_w]
                        rfl
                      refine one_ (i := 4) (N := some 74) #[true, true, true, true, true, false, false] rfl rfl (by kernel_rfl) (by decide) (fun K hK => ?_)
                      have hcv59 := Kd.C_string (P := Try.prog) (A := A1) (c := c1) Try.underlying46 Try.underlying5 Try.underlying9 (Kd.C_below HR1.out HB.out); have hcv59q := fun (nq_ : Nat) => Kd.C_string (P := Try.prog) (A := A1) (c := c1) Try.underlying46 Try.underlying5 Try.underlying9 (Kd.C_drewN (Kd.C_below HR1.out HB.out) nq_)
                      refine value_ (w1 := ?_) (v := ?_) (by rfl) rfl ?_ ?_
                      rotate_left 2
                      · go_simp
                        constructor
                        · rfl
                        · rfl
                      clear hcv59 hcv59q
                      refine hK.out _ _ ⟨(blk_cell BK210.out 0).trans rfl, (blk_cell BK210.out 1).trans rfl, (blk_cell BK210.out 2).trans rfl, (blk_cell BK210.out 3).trans rfl⟩ (fun hHeld => ?_)
                      clear hK K
                      refine norm_ (a' := ?_) ?_ ?_
                      rotate_left
                      · show Act.put _ (some 74) _ = _
                        simp only [Act.put, List.setIfInBounds_toArray, List.set_cons_zero, List.set_cons_succ, i64_w, i32_w]
                        rfl
                      exact norm_ (by simp only [putAll, Act.put, List.setIfInBounds_toArray, List.set_cons_zero, List.set_cons_succ]) (hCont (v212) _ ⟨hHeld, (by (with_reducible repeat (first | apply Kd.R_alloc | apply Kd.R_drewN | apply Kd.R_drew)); exact HO213.out), (by (with_reducible repeat (first | refine blk_drewN ?_ _ | refine blk_drew ?_ | refine blk_alloc ?_ _)); exact BK190.out), (by (with_reducible repeat (first | refine blk_drewN ?_ _ | refine blk_drew ?_ | refine blk_alloc ?_ _)); exact BK210.out), (by repeat (first | (with_reducible first | exact HB.out | apply below_alloc | apply pw_below_drewN | apply below_drew1 | refine below_set ?_ GE190.out | refine below_set ?_ GE210.out) | exact HB.out))⟩)
                    · skip
                      have hcv58 := Kd.C_string (P := Try.prog) (A := A1) (c := c1) Try.underlying46 Try.underlying5 Try.underlying9 (Kd.C_below HR1.out HB.out); have hcv58q := fun (nq_ : Nat) => Kd.C_string (P := Try.prog) (A := A1) (c := c1) Try.underlying46 Try.underlying5 Try.underlying9 (Kd.C_drewN (Kd.C_below HR1.out HB.out) nq_)
                      refine value_ (w1 := ?_) (v := ?_) (by rfl) rfl ?_ ?_
                      rotate_left 2
                      · go_simp
                        constructor
                        · rfl
                        · rfl
                      clear hcv58 hcv58q
                      refine hK.out _ _ ⟨(blk_cell BK210.out 0).trans rfl, (blk_cell BK210.out 1).trans rfl, (blk_cell BK210.out 2).trans rfl, (blk_cell BK210.out 3).trans rfl⟩ (fun hHeld => ?_)
                      clear hK K
                      refine norm_ (a' := ?_) ?_ ?_
                      rotate_left
                      · show Act.put _ (some 74) _ = _
                        simp only [Act.put, List.setIfInBounds_toArray, List.set_cons_zero, List.set_cons_succ, i64_w, i32_w]
                        rfl
                      refine one_ (i := 2) (N := some 72) #[true, true, true, true, true, false, false] rfl rfl (by kernel_rfl) (by decide) (fun K hK => ?_)
                      have hcv59 := own_string (P := Try.prog) Try.underlying46 Try.underlying5 Try.underlying9 (Kd.own_of_R HO213.out); have hcv59q := fun (nq_ : Nat) => own_string (P := Try.prog) Try.underlying46 Try.underlying5 Try.underlying9 (Kd.own_of_R (Kd.R_drewN HO213.out nq_))
                      refine value_ (w1 := ?_) (v := ?_) (by rfl) rfl ?_ ?_
                      rotate_left 2
                      · go_simp
                        constructor
                        · rfl
                        · rfl
                      clear hcv59 hcv59q
                      refine hK.out _ _ ⟨(blk_cell BK210.out 0).trans rfl, (blk_cell BK210.out 1).trans rfl, (blk_cell BK210.out 2).trans rfl, (blk_cell BK210.out 3).trans rfl⟩ (fun hHeld => ?_)
                      clear hK K
                      refine norm_ (a' := ?_) ?_ ?_
                      rotate_left
                      · show Act.put _ (some 72) _ = _
                        simp only [Act.put, List.setIfInBounds_toArray, List.set_cons_zero, List.set_cons_succ, i64_w, i32_w]
                        rfl
                      exact norm_ (by simp only [putAll, Act.put, List.setIfInBounds_toArray, List.set_cons_zero, List.set_cons_succ]) (hCont (v212) _ ⟨hHeld, (by (with_reducible repeat (first | apply Kd.R_alloc | apply Kd.R_drewN | apply Kd.R_drew)); exact HO213.out), (by (with_reducible repeat (first | refine blk_drewN ?_ _ | refine blk_drew ?_ | refine blk_alloc ?_ _)); exact BK190.out), (by (with_reducible repeat (first | refine blk_drewN ?_ _ | refine blk_drew ?_ | refine blk_alloc ?_ _)); exact BK210.out), (by repeat (first | (with_reducible first | exact HB.out | apply below_alloc | apply pw_below_drewN | apply below_drew1 | refine below_set ?_ GE190.out | refine below_set ?_ GE210.out) | exact HB.out))⟩)
                  · skip
                    have hcv57 := Kd.C_string (P := Try.prog) (A := A1) (c := c1) Try.underlying46 Try.underlying5 Try.underlying9 (Kd.C_below HR1.out HB.out); have hcv57q := fun (nq_ : Nat) => Kd.C_string (P := Try.prog) (A := A1) (c := c1) Try.underlying46 Try.underlying5 Try.underlying9 (Kd.C_drewN (Kd.C_below HR1.out HB.out) nq_)
                    refine value_ (w1 := ?_) (v := ?_) (by rfl) rfl ?_ ?_
                    rotate_left 2
                    · go_simp
                      constructor
                      · rfl
                      · rfl
                    clear hcv57 hcv57q
                    refine hK.out _ _ ⟨(blk_cell BK210.out 0).trans rfl, (blk_cell BK210.out 1).trans rfl, (blk_cell BK210.out 2).trans rfl, (blk_cell BK210.out 3).trans rfl⟩ (fun hHeld => ?_)
                    clear hK K
                    refine norm_ (a' := ?_) ?_ ?_
                    rotate_left
                    · show Act.put _ (some 74) _ = _
                      simp only [Act.put, List.setIfInBounds_toArray, List.set_cons_zero, List.set_cons_succ, i64_w, i32_w]
                      rfl
                    refine one_ (i := 1) (N := some 71) #[true, true, false, true, true, false, false] rfl rfl (by kernel_rfl) (by decide) (fun K hK => ?_)
                    refine goes_ Try.func45 (by kernel_rfl) rfl #[.agg #[.int .u8 t205, .int .i64 t206, .int .i64 t207, .int .u64 t208]] (by rfl) rfl rfl (by (try simp only [List.map_toArray, List.map_cons, List.map_nil]); first | done | rfl | (simp only [List.length_drop, List.length_take]; rfl)) ?_
                    with_reducible refine (fascineref14_Encode.calls kj36 t205 t206 t207 t208 t211 _ A50.out).mono ?_
                    rintro e w58 ⟨v212, rfl, ho0, hb⟩
                    refine ⟨_, rfl, ?_⟩
                    have n0_ := Aside0.mk (Kd.R_lower ho0 (below_size (by repeat (first | (with_reducible first | exact HB.out | apply below_alloc | apply pw_below_drewN | apply below_drew1 | refine below_set ?_ GE190.out | refine below_set ?_ GE210.out) | exact HB.out))))
                    have n1_ := Aside0.mk (blk_below (g := gb190) (o := .cells #[.int .u8 a0_0, .int .i64 a0_1, .int .i64 a0_2, .int .u64 a0_3] 39 (0, 0)) (by (with_reducible repeat (first | refine blk_drewN ?_ _ | refine blk_drew ?_ | refine blk_alloc ?_ _)); exact BK190.out) hb)
                    have n2_ := Aside0.mk (blk_below (g := gb210) (o := .cells #[.int .u8 t205, .int .i64 t206, .int .i64 t207, .int .u64 t208] 39 (0, 0)) (by (with_reducible repeat (first | refine blk_drewN ?_ _ | refine blk_drew ?_ | refine blk_alloc ?_ _)); exact BK210.out) hb)
                    have n3_ := Aside0.mk (below_step (by repeat (first | (with_reducible first | exact HB.out | apply below_alloc | apply pw_below_drewN | apply below_drew1 | refine below_set ?_ GE190.out | refine below_set ?_ GE210.out) | exact HB.out)) hb)
                    clear BK190
                    clear BK210
                    clear HB
                    have HO213 := n0_
                    have BK190 := n1_
                    have BK210 := n2_
                    have HB := n3_
                    clear n0_ n1_ n2_ n3_
                    (try clear hb)
                    (try clear hb2)
                    (try clear hk)
                    (try clear hi)
                    (try clear ho0)
                    refine hK.out _ _ ⟨(blk_cell BK210.out 0).trans rfl, (blk_cell BK210.out 1).trans rfl, (blk_cell BK210.out 2).trans rfl, (blk_cell BK210.out 3).trans rfl⟩ (fun hHeld => ?_)
                    clear hK K
                    refine norm_ (a' := ?_) ?_ ?_
                    rotate_left
                    · show Act.put _ (some 71) _ = _
                      simp only [Act.put, List.setIfInBounds_toArray, List.set_cons_zero, List.set_cons_succ, i64_w, i32_w]
                      rfl
                    refine one_ (i := 2) (N := some 72) #[true, true, true, true, true, false, false] rfl rfl (by kernel_rfl) (by decide) (fun K hK => ?_)
                    have hcv59 := own_string (P := Try.prog) Try.underlying46 Try.underlying5 Try.underlying9 (Kd.own_of_R HO213.out); have hcv59q := fun (nq_ : Nat) => own_string (P := Try.prog) Try.underlying46 Try.underlying5 Try.underlying9 (Kd.own_of_R (Kd.R_drewN HO213.out nq_))
                    refine value_ (w1 := ?_) (v := ?_) (by rfl) rfl ?_ ?_
                    rotate_left 2
                    · go_simp
                      constructor
                      · rfl
                      · rfl
                    clear hcv59 hcv59q
                    refine hK.out _ _ ⟨(blk_cell BK210.out 0).trans rfl, (blk_cell BK210.out 1).trans rfl, (blk_cell BK210.out 2).trans rfl, (blk_cell BK210.out 3).trans rfl⟩ (fun hHeld => ?_)
                    clear hK K
                    refine norm_ (a' := ?_) ?_ ?_
                    rotate_left
                    · show Act.put _ (some 72) _ = _
                      simp only [Act.put, List.setIfInBounds_toArray, List.set_cons_zero, List.set_cons_succ, i64_w, i32_w]
                      rfl
                    exact norm_ (by simp only [putAll, Act.put, List.setIfInBounds_toArray, List.set_cons_zero, List.set_cons_succ]) (hCont (v212) _ ⟨hHeld, (by (with_reducible repeat (first | apply Kd.R_alloc | apply Kd.R_drewN | apply Kd.R_drew)); exact HO213.out), (by (with_reducible repeat (first | refine blk_drewN ?_ _ | refine blk_drew ?_ | refine blk_alloc ?_ _)); exact BK190.out), (by (with_reducible repeat (first | refine blk_drewN ?_ _ | refine blk_drew ?_ | refine blk_alloc ?_ _)); exact BK210.out), (by repeat (first | (with_reducible first | exact HB.out | apply below_alloc | apply pw_below_drewN | apply below_drew1 | refine below_set ?_ GE190.out | refine below_set ?_ GE210.out) | exact HB.out))⟩)
                rintro v212 w60 ⟨hS_, h0_, h1_, h2_, h3_⟩
                have n0_ : Aside0 (Kd.R (Kd.int .u8) 5 w60 w.heap.size (fun _ => True) v212 t211) := ⟨h0_⟩
                have n1_ : Aside0 (w60.heap[gb190]? = some (.cells #[.int .u8 a0_0, .int .i64 a0_1, .int .i64 a0_2, .int .u64 a0_3] 39 (0, 0))) := ⟨h1_⟩
                have n2_ : Aside0 (w60.heap[gb210]? = some (.cells #[.int .u8 t205, .int .i64 t206, .int .i64 t207, .int .u64 t208] 39 (0, 0))) := ⟨h2_⟩
                have n3_ : Aside0 (Below w.heap.size w w60) := ⟨h3_⟩
                clear BK190
                clear BK210
                clear HB
                clear h0_ h1_ h2_ h3_
                have HO213 := n0_
                have BK190 := n1_
                have BK210 := n2_
                have HB := n3_
                clear n0_ n1_ n2_ n3_
                have hHeld : w60.cell? ⟨gb210, 0, none⟩ = some (.int .u8 t205) ∧ w60.cell? ⟨gb210, 1, none⟩ = some (.int .i64 t206) ∧ w60.cell? ⟨gb210, 2, none⟩ = some (.int .i64 t207) ∧ w60.cell? ⟨gb210, 3, none⟩ = some (.int .u64 t208) := hS_
                refine norm_ (a' := ?_) ?_ ?_
                rotate_left
                · simp only [putAll, Act.put, List.setIfInBounds_toArray, List.set_cons_zero, List.set_cons_succ]
                  rfl
                refine pure_ (i := 5) (N := some 75) (v := ?_) (a' := ?_) #[true, true, true, true, true, true, false] rfl rfl (by kernel_rfl) (fun _ _ _ h => h) (Or.inl ⟨by rfl, ?_⟩) ?_ ?_
                rotate_left
                · intro w'
                  go_simp
                  with_reducible rfl
                rotate_left
                · simp only [Act.put, List.setIfInBounds_toArray, List.set_cons_zero, List.set_cons_succ, i64_w, i32_w]
                  rfl
                refine pure_ (i := 6) (N := some 4) (v := ?_) (a' := ?_) #[true, true, true, true, true, true, true] rfl rfl (by kernel_rfl) (fun _ _ _ h => h) (Or.inl ⟨by rfl, ?_⟩) ?_ ?_
                rotate_left
                · intro w'
                  go_simp
                  with_reducible rfl
                rotate_left
                · simp only [Act.put, List.setIfInBounds_toArray, List.set_cons_zero, List.set_cons_succ, i64_w, i32_w]
                  rfl
                refine done_ (by kernel_rfl) ?_
                try go_wp2
                go_ret
                exact ⟨by first | rfl | (simp [errW_none, errW_some] <;> rfl) | (simp [*, errW_none, errW_some] <;> rfl), by repeat (first | (with_reducible first | exact HB.out | apply below_alloc | apply pw_below_drewN | apply below_drew1 | refine below_set ?_ GE190.out | refine below_set ?_ GE210.out) | exact HB.out)⟩
              · rw [if_neg c49] at H
                have c49b0 : (t209 == 0) = false := beq_eq_false_iff_ne.mpr c49
                have c49b1 : (t209 != 0) = true := bne_iff_ne.mpr c49
                by_cases c61 : t209 = 3
                · rw [if_pos c61] at H
                  have c61b0 : (t209 == 3) = true := beq_iff_eq.mpr c61
                  have c61b1 : (t209 != 3) = false := bne_eq_false_iff_eq.mpr c61
                  clear c61
                  obtain rfl := Option.some.inj H
                  go_wp2_with (first | ((with_reducible refine gate_callee (f := 46) rfl ?_); refine goesL_ (some 58) rfl rfl Try.func46 (by kernel_rfl) rfl #[.slice A1 l1.length c1] rfl (by (try simp only [List.map_toArray, List.map_cons, List.map_nil]); first | done | rfl | (simp only [List.length_drop, List.length_take]; rfl)) ?_; (with_reducible refine (meta_Decode.calls kj36 _ _ l1 t205 t206 t207 t208 t209 _ ?side1 ?side2 A48.out).mono ?_); (case side1 => repeat (first | exact (Kd.C_below HR1.out HB.out) | (with_reducible refine Kd.C_alloc ?_ _) | (with_reducible refine Kd.C_drewN ?_ _) | (with_reducible refine Kd.C_drew ?_))); (case side2 => exact HC1.out); rintro e w62 ⟨rfl, hb⟩; refine ⟨_, rfl, ?_⟩; have n0_ := Aside0.mk (blk_below (g := gb190) (o := .cells #[.int .u8 a0_0, .int .i64 a0_1, .int .i64 a0_2, .int .u64 a0_3] 39 (0, 0)) (by (with_reducible repeat (first | refine blk_drewN ?_ _ | refine blk_drew ?_ | refine blk_alloc ?_ _)); exact BK190.out) hb); have n1_ := Aside0.mk (below_step (by repeat (first | (with_reducible first | exact HB.out | apply below_alloc | apply pw_below_drewN | apply below_drew1 | refine below_set ?_ GE190.out) | exact HB.out)) hb); clear BK190; clear HB; have BK190 := n0_; have HB := n1_; clear n0_ n1_; (try clear hb); (try clear hb2); (try clear hk); (try clear hi)) | ((with_reducible refine gate_dst (N := 10) rfl ?_); (try (refine gate_guard (by rfl) ?_; dsimp only)); refine box_event ?hg (N := 10) ?hd (cs := #[.int .u8 0, .int .i64 0, .int .i64 0, .int .u64 0]) (t := 39) ?hr ?_; (case hd => rfl); (case hg => rfl); (case hr => first | (go_simp; done) | (go_simp; rfl)); intro gb210 hg w63 hbox hb; have n0_ := Aside0.mk (blk_below (g := gb190) (o := .cells #[.int .u8 a0_0, .int .i64 a0_1, .int .i64 a0_2, .int .u64 a0_3] 39 (0, 0)) (by (with_reducible repeat (first | refine blk_drewN ?_ _ | refine blk_drew ?_ | refine blk_alloc ?_ _)); exact BK190.out) hb); have n1_ := Aside0.mk (below_step (by repeat (first | (with_reducible first | exact HB.out | apply below_alloc | apply pw_below_drewN | apply below_drew1 | refine below_set ?_ GE190.out) | exact HB.out)) hb); have n2_ := Aside0.mk (hbox); have n3_ := Aside0.mk ((by rw [hg]; exact (below_size (by repeat (first | (with_reducible first | exact HB.out | apply below_alloc | apply pw_below_drewN | apply below_drew1 | refine below_set ?_ GE190.out) | exact HB.out))) : w.heap.size ≤ gb210)); have n4_ := Aside0.mk ((by rw [hg]; exact (below_size (by repeat (first | (with_reducible first | exact HB.out | apply below_alloc | apply pw_below_drewN | apply below_drew1 | refine below_set ?_ GE190.out) | exact HB.out))) : w.heap.size ≤ gb210)); have n5_ := Aside0.mk ((by rw [hg]; exact Nat.ne_of_lt (blk_lt (g := gb190) (o := .cells #[.int .u8 a0_0, .int .i64 a0_1, .int .i64 a0_2, .int .u64 a0_3] 39 (0, 0)) (by (with_reducible repeat (first | refine blk_drewN ?_ _ | refine blk_drew ?_ | refine blk_alloc ?_ _)); exact BK190.out)) : gb190 ≠ gb210)); have n6_ := Aside0.mk ((by rw [hg]; exact Nat.ne_of_gt (blk_lt (g := gb190) (o := .cells #[.int .u8 a0_0, .int .i64 a0_1, .int .i64 a0_2, .int .u64 a0_3] 39 (0, 0)) (by (with_reducible repeat (first | refine blk_drewN ?_ _ | refine blk_drew ?_ | refine blk_alloc ?_ _)); exact BK190.out)) : gb210 ≠ gb190)); clear BK190; clear HB; have BK190 := n0_; have HB := n1_; have BK210 := n2_; have GW210 := n3_; have GE210 := n4_; have NB190_210 := n5_; have NB210_190 := n6_; clear n0_ n1_ n2_ n3_ n4_ n5_ n6_; clear hb hbox hg; have hnb64 := NB210_190.out; have hnc64 := NB190_210.out; have hcz65_0 : w63.cell? ⟨gb210, 0, none⟩ = some (.int .u8 0) := (blk_cell BK210.out 0).trans rfl; have hcz65_1 : w63.cell? ⟨gb210, 1, none⟩ = some (.int .i64 0) := (blk_cell BK210.out 1).trans rfl; have hcz65_2 : w63.cell? ⟨gb210, 2, none⟩ = some (.int .i64 0) := (blk_cell BK210.out 2).trans rfl; have hcz65_3 : w63.cell? ⟨gb210, 3, none⟩ = some (.int .u64 0) := (blk_cell BK210.out 3).trans rfl; have hfz65_0 := blk_frozen BK210.out 0; have hfz65_1 := blk_frozen BK210.out 1; have hfz65_2 := blk_frozen BK210.out 2; have hfz65_3 := blk_frozen BK210.out 3))
                  go_ret
                  exact ⟨by first | rfl | (simp [errW_none, errW_some] <;> rfl) | (simp [*, errW_none, errW_some] <;> rfl), by repeat (first | (with_reducible first | exact HB.out | apply below_alloc | apply pw_below_drewN | apply below_drew1 | refine below_set ?_ GE190.out | refine below_set ?_ GE210.out) | exact HB.out)⟩
                · rw [if_neg c61] at H
                  have c61b0 : (t209 == 3) = false := beq_eq_false_iff_ne.mpr c61
                  have c61b1 : (t209 != 3) = true := bne_iff_ne.mpr c61
                  exact absurd (HR_.out.symm.trans (Option.some.inj H).symm) (by decide)
  · replace c4 := Bool.eq_false_iff.mpr c4
    subst c4
    have H1 : (some false) = some r := by rw [if_neg (show ¬ (false = true) by decide)] at H; exact H
    clear H
    have H := H1
    clear H1
    exact absurd (HR_.out.symm.trans (Option.some.inj H).symm) (by decide)

end Go.Proofs.Ytkoaeiiaagipeaa.PMetaCodes
