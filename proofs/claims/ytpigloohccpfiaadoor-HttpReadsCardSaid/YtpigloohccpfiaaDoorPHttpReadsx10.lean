-- WRITTEN BY A PROGRAM OF THIS SESSION (wip/patch_print.py: the kit's printer with rules of this session's own); Lean checks it.
import Derived.Test.YtpigloohccpfiaaDoorPHttpReadsx0
import Derived.Test.YtpigloohccpfiaaDoorPHttpReadsx1
import Derived.Test.YtpigloohccpfiaaDoorPHttpReadsx5
import Derived.Test.YtpigloohccpfiaaDoorPHttpReadsx9
namespace Go.Proofs.YtpigloohccpfiaaDoor.PHttpReads
open Go.RowKit Go.Proofs.YtpigloohccpfiaaDoorW.PrintWords Go.Proofs.YtpigloohccpfiaaDoorW.PrintLast Go.Proofs.YtpigloohccpfiaaDoorW.PrintMore
open Go.Proofs.YtpigloohccpfiaaDoor.G
attribute [local go_sem] max2_int min2_int max_two min_two max_three min_three max_four min_four   -- for this text's walks alone
set_option linter.unusedVariables false
set_option linter.unusedSimpArgs false

attribute [local go_sem high] eqA24
/-! ### fascinelaw12_HttpReads: function 3 -/
def fascinelaw12_HttpReads.f (k : Nat) (a0 : ByteArray) : Option (Bool) := (fascinelaw12_awake.f k).bind fun t194 => (if t194 = true then ((http_Read.f k a0).bind fun bt195 => ((fascineref12_Read.f k a0).bind fun bt202 => (if (bt195.1.toList == bt202.1.toList && (bt195.2.1.toList == bt202.2.1.toList && (bt195.2.2.1.toList == bt202.2.2.1.toList && (bt195.2.2.2.1 == bt202.2.2.2.1)))) = true then (if bt195.2.2.2.2.1 = bt202.2.2.2.2.1 then (some (bt195.2.2.2.2.2 == bt202.2.2.2.2.2)) else (some false)) else (some false)))) else (some false))
theorem fascinelaw12_HttpReads.mono : ∀ a0 k, LeO (fascinelaw12_HttpReads.f k a0) (fascinelaw12_HttpReads.f (k + 1) a0) := by
  intro a0 k
  unfold fascinelaw12_HttpReads.f
  repeat' first
      | (with_reducible exact fascinelaw12_awake.mono _)
      | (with_reducible exact fascineref12_Read.mono _ _)
      | (with_reducible exact http_Read.mono _ _)
      | (with_reducible exact LeO.refl _)
      | (with_reducible exact LeO.none _)
      | (with_reducible refine LeO.ite ?_ ?_)
      | (with_reducible refine LeO.bind ?_ (fun _ => ?_))
      | exact fascinelaw12_awake.mono _
      | exact fascineref12_Read.mono _ _
      | exact http_Read.mono _ _
      | exact LeO.none _
      | refine LeO.ite ?_ ?_
      | refine LeO.bind ?_ (fun _ => ?_)
set_option maxHeartbeats 8000000 in
set_option maxRecDepth 100000 in
theorem fascinelaw12_HttpReads.calls (k : Nat) (a0 : ByteArray) (r : Bool) (w : World) (hT : tabs w) (h : fascinelaw12_HttpReads.f k a0 = some r) (hr_ : r = true) :
    Calls Tryd.prog 3 #[.string a0] w fun e w' => e = .returned (.bool r) ∧ Below w.heap.size w w' := by
  have HR_ := Aside0.mk hr_
  clear hr_
  have hu24 := Tryd.underlying24
  have HT := Aside0.mk hT
  clear hT
  have HB := Aside0.mk (Below.refl w.heap.size w)
  have H : ((fascinelaw12_awake.f k).bind fun t194 => (if t194 = true then ((http_Read.f k a0).bind fun bt195 => ((fascineref12_Read.f k a0).bind fun bt202 => (if (bt195.1.toList == bt202.1.toList && (bt195.2.1.toList == bt202.2.1.toList && (bt195.2.2.1.toList == bt202.2.2.1.toList && (bt195.2.2.2.1 == bt202.2.2.2.1)))) = true then (if bt195.2.2.2.2.1 = bt202.2.2.2.2.1 then (some (bt195.2.2.2.2.2 == bt202.2.2.2.2.2)) else (some false)) else (some false)))) else (some false))) = some r := h
  clear h
  replace H := Option.bind_eq_some_iff.mp H
  obtain ⟨t194, A20, H⟩ := H
  replace H : (if t194 = true then ((http_Read.f k a0).bind fun bt195 => ((fascineref12_Read.f k a0).bind fun bt202 => (if (bt195.1.toList == bt202.1.toList && (bt195.2.1.toList == bt202.2.1.toList && (bt195.2.2.1.toList == bt202.2.2.1.toList && (bt195.2.2.2.1 == bt202.2.2.2.1)))) = true then (if bt195.2.2.2.2.1 = bt202.2.2.2.2.1 then (some (bt195.2.2.2.2.2 == bt202.2.2.2.2.2)) else (some false)) else (some false)))) else (some false)) = some r := H
  have A2 := Aside0.mk A20
  clear A20
  by_cases c3 : t194 = true
  · subst c3
    have H1 : ((http_Read.f k a0).bind fun bt195 => ((fascineref12_Read.f k a0).bind fun bt202 => (if (bt195.1.toList == bt202.1.toList && (bt195.2.1.toList == bt202.2.1.toList && (bt195.2.2.1.toList == bt202.2.2.1.toList && (bt195.2.2.2.1 == bt202.2.2.2.1)))) = true then (if bt195.2.2.2.2.1 = bt202.2.2.2.2.1 then (some (bt195.2.2.2.2.2 == bt202.2.2.2.2.2)) else (some false)) else (some false)))) = some r := by rw [if_pos rfl] at H; exact H
    clear H
    have H := H1
    clear H1
    replace H := Option.bind_eq_some_iff.mp H
    obtain ⟨⟨t195, t196, t197, t198, t199, t200⟩, A40, H⟩ := H
    replace H : ((fascineref12_Read.f k a0).bind fun bt202 => (if (t195.toList == bt202.1.toList && (t196.toList == bt202.2.1.toList && (t197.toList == bt202.2.2.1.toList && (t198 == bt202.2.2.2.1)))) = true then (if t199 = bt202.2.2.2.2.1 then (some (t200 == bt202.2.2.2.2.2)) else (some false)) else (some false))) = some r := H
    have A4 := Aside0.mk A40
    clear A40
    replace H := Option.bind_eq_some_iff.mp H
    obtain ⟨⟨t202, t203, t204, t205, t206, t207⟩, A50, H⟩ := H
    replace H : (if (t195.toList == t202.toList && (t196.toList == t203.toList && (t197.toList == t204.toList && (t198 == t205)))) = true then (if t199 = t206 then (some (t200 == t207)) else (some false)) else (some false)) = some r := H
    have A5 := Aside0.mk A50
    clear A50
    by_cases c6 : (t195.toList == t202.toList && (t196.toList == t203.toList && (t197.toList == t204.toList && (t198 == t205)))) = true
    · rw [if_pos c6] at H
      have c6b0 : (t195.toList == t202.toList && (t196.toList == t203.toList && (t197.toList == t204.toList && (t198 == t205)))) = true := c6
      (try (have c6b1 : decide (t195.toList = t202.toList && (t196.toList == t203.toList && (t197.toList == t204.toList && (t198 == t205)))) = true := by simpa using c6))
      (try (have c6b2 : (t195.toList == t202.toList && (t196.toList == t203.toList && (t197.toList == t204.toList && (t198 == t205)))) = true := by simpa using c6))
      clear c6
      by_cases c7 : t199 = t206
      · rw [if_pos c7] at H
        have c7b0 : (t199 == t206) = true := beq_iff_eq.mpr c7
        have c7b1 : (t199 != t206) = false := bne_eq_false_iff_eq.mpr c7
        clear c7
        obtain rfl := Option.some.inj H
        go_enter Tryd.func3, Tryd.ntmps3
        go_wp2_with (first | ((with_reducible refine gate_callee (f := 9) rfl ?_); refine goesL_ (some 9) rfl rfl Tryd.func9 (by kernel_rfl) rfl #[] rfl (by (try simp only [List.map_toArray, List.map_cons, List.map_nil]); first | done | rfl | (simp only [List.length_drop, List.length_take]; rfl)) ?_; (with_reducible refine (fascinelaw12_awake.calls k  true _ ?side1 A2.out).mono ?_); (case side1 => first | exact HT.out | exact tabs_below HT.out (by repeat (first | (with_reducible first | exact HB.out | apply below_alloc | apply pw_below_drewN | apply below_drew1) | exact HB.out))); rintro e w8 ⟨rfl, hb⟩; refine ⟨_, rfl, ?_⟩; have n0_ := Aside0.mk (below_step (by repeat (first | (with_reducible first | exact HB.out | apply below_alloc | apply pw_below_drewN | apply below_drew1) | exact HB.out)) hb); clear HB; have HB := n0_; clear n0_; (try clear hb); (try clear hb2); (try clear hk); (try clear hi)) | ((with_reducible refine gate_callee (f := 10) rfl ?_); refine goesL_ (some 19) rfl rfl Tryd.func10 (by kernel_rfl) rfl #[.string a0] rfl (by (try simp only [List.map_toArray, List.map_cons, List.map_nil]); first | done | rfl | (simp only [List.length_drop, List.length_take]; rfl)) ?_; (with_reducible refine (http_Read.calls k a0 t195 t196 t197 t198 t199 t200 _ ?side1 A4.out).mono ?_); (case side1 => first | exact HT.out | exact tabs_below HT.out (by repeat (first | (with_reducible first | exact HB.out | apply below_alloc | apply pw_below_drewN | apply below_drew1) | exact HB.out))); rintro e w9 ⟨rfl, hb⟩; refine ⟨_, rfl, ?_⟩; have n0_ := Aside0.mk (below_step (by repeat (first | (with_reducible first | exact HB.out | apply below_alloc | apply pw_below_drewN | apply below_drew1) | exact HB.out)) hb); clear HB; have HB := n0_; clear n0_; (try clear hb); (try clear hb2); (try clear hk); (try clear hi)) | ((with_reducible refine gate_dst (N := 3) rfl ?_); refine box_event ?hg (N := 3) ?hd (cs := #[.string (⟨#[]⟩ : ByteArray), .string (⟨#[]⟩ : ByteArray), .string (⟨#[]⟩ : ByteArray), .bool false]) (t := 24) ?hr ?_; (case hd => rfl); (case hg => rfl); (case hr => first | (go_simp; done) | (go_simp; rfl)); intro gb201 hg w10 hbox hb; have n0_ := Aside0.mk (below_step (by repeat (first | (with_reducible first | exact HB.out | apply below_alloc | apply pw_below_drewN | apply below_drew1) | exact HB.out)) hb); have n1_ := Aside0.mk (hbox); have n2_ := Aside0.mk ((by rw [hg]; exact (below_size (by repeat (first | (with_reducible first | exact HB.out | apply below_alloc | apply pw_below_drewN | apply below_drew1) | exact HB.out))) : w.heap.size ≤ gb201)); have n3_ := Aside0.mk ((by rw [hg]; exact (below_size (by repeat (first | (with_reducible first | exact HB.out | apply below_alloc | apply pw_below_drewN | apply below_drew1) | exact HB.out))) : w.heap.size ≤ gb201)); clear HB; have HB := n0_; have BK201 := n1_; have GW201 := n2_; have GE201 := n3_; clear n0_ n1_ n2_ n3_; clear hb hbox hg; have hcz11_0 : w10.cell? ⟨gb201, 0, none⟩ = some (.string (⟨#[]⟩ : ByteArray)) := (blk_cell BK201.out 0).trans rfl; have hcz11_1 : w10.cell? ⟨gb201, 1, none⟩ = some (.string (⟨#[]⟩ : ByteArray)) := (blk_cell BK201.out 1).trans rfl; have hcz11_2 : w10.cell? ⟨gb201, 2, none⟩ = some (.string (⟨#[]⟩ : ByteArray)) := (blk_cell BK201.out 2).trans rfl; have hcz11_3 : w10.cell? ⟨gb201, 3, none⟩ = some (.bool false) := (blk_cell BK201.out 3).trans rfl; have hfz11_0 := blk_frozen BK201.out 0; have hfz11_1 := blk_frozen BK201.out 1; have hfz11_2 := blk_frozen BK201.out 2; have hfz11_3 := blk_frozen BK201.out 3) | ((with_reducible refine gate_callee (f := 11) rfl ?_); refine goesL_ (some 25) rfl rfl Tryd.func11 (by kernel_rfl) rfl #[.string a0] rfl (by (try simp only [List.map_toArray, List.map_cons, List.map_nil]); first | done | rfl | (simp only [List.length_drop, List.length_take]; rfl)) ?_; (with_reducible refine (fascineref12_Read.calls k a0 t202 t203 t204 t205 t206 t207 _ A5.out).mono ?_); rintro e w12 ⟨rfl, hb⟩; refine ⟨_, rfl, ?_⟩; have n0_ := Aside0.mk (blk_below (g := gb201) (o := .cells #[.string t195, .string t196, .string t197, .bool t198] 24 (0, 0)) (by (with_reducible repeat (first | refine blk_drewN ?_ _ | refine blk_drew ?_ | refine blk_alloc ?_ _)); refine blk_put (cs := #[.string t195, .string t196, .string t197, .bool false]) ?_ 3 _ rfl; (with_reducible repeat (first | refine blk_drewN ?_ _ | refine blk_drew ?_ | refine blk_alloc ?_ _)); refine blk_put (cs := #[.string t195, .string t196, .string (⟨#[]⟩ : ByteArray), .bool false]) ?_ 2 _ rfl; (with_reducible repeat (first | refine blk_drewN ?_ _ | refine blk_drew ?_ | refine blk_alloc ?_ _)); refine blk_put (cs := #[.string t195, .string (⟨#[]⟩ : ByteArray), .string (⟨#[]⟩ : ByteArray), .bool false]) ?_ 1 _ rfl; (with_reducible repeat (first | refine blk_drewN ?_ _ | refine blk_drew ?_ | refine blk_alloc ?_ _)); refine blk_put (cs := #[.string (⟨#[]⟩ : ByteArray), .string (⟨#[]⟩ : ByteArray), .string (⟨#[]⟩ : ByteArray), .bool false]) ?_ 0 _ rfl; (with_reducible repeat (first | refine blk_drewN ?_ _ | refine blk_drew ?_ | refine blk_alloc ?_ _)); exact BK201.out) hb); have n1_ := Aside0.mk (below_step (by repeat (first | (with_reducible first | exact HB.out | apply below_alloc | apply pw_below_drewN | apply below_drew1 | refine below_set ?_ GE201.out) | exact HB.out)) hb); clear BK201; clear HB; have BK201 := n0_; have HB := n1_; clear n0_ n1_; (try clear hb); (try clear hb2); (try clear hk); (try clear hi)) | ((with_reducible refine gate_dst (N := 6) rfl ?_); refine box_event ?hg (N := 6) ?hd (cs := #[.string (⟨#[]⟩ : ByteArray), .string (⟨#[]⟩ : ByteArray), .string (⟨#[]⟩ : ByteArray), .bool false]) (t := 24) ?hr ?_; (case hd => rfl); (case hg => rfl); (case hr => first | (go_simp; done) | (go_simp; rfl)); intro gb208 hg w13 hbox hb; have n0_ := Aside0.mk (blk_below (g := gb201) (o := .cells #[.string t195, .string t196, .string t197, .bool t198] 24 (0, 0)) (by (with_reducible repeat (first | refine blk_drewN ?_ _ | refine blk_drew ?_ | refine blk_alloc ?_ _)); exact BK201.out) hb); have n1_ := Aside0.mk (below_step (by repeat (first | (with_reducible first | exact HB.out | apply below_alloc | apply pw_below_drewN | apply below_drew1 | refine below_set ?_ GE201.out) | exact HB.out)) hb); have n2_ := Aside0.mk (hbox); have n3_ := Aside0.mk ((by rw [hg]; exact (below_size (by repeat (first | (with_reducible first | exact HB.out | apply below_alloc | apply pw_below_drewN | apply below_drew1 | refine below_set ?_ GE201.out) | exact HB.out))) : w.heap.size ≤ gb208)); have n4_ := Aside0.mk ((by rw [hg]; exact (below_size (by repeat (first | (with_reducible first | exact HB.out | apply below_alloc | apply pw_below_drewN | apply below_drew1 | refine below_set ?_ GE201.out) | exact HB.out))) : w.heap.size ≤ gb208)); have n5_ := Aside0.mk ((by rw [hg]; exact Nat.ne_of_lt (blk_lt (g := gb201) (o := .cells #[.string t195, .string t196, .string t197, .bool t198] 24 (0, 0)) (by (with_reducible repeat (first | refine blk_drewN ?_ _ | refine blk_drew ?_ | refine blk_alloc ?_ _)); exact BK201.out)) : gb201 ≠ gb208)); have n6_ := Aside0.mk ((by rw [hg]; exact Nat.ne_of_gt (blk_lt (g := gb201) (o := .cells #[.string t195, .string t196, .string t197, .bool t198] 24 (0, 0)) (by (with_reducible repeat (first | refine blk_drewN ?_ _ | refine blk_drew ?_ | refine blk_alloc ?_ _)); exact BK201.out)) : gb208 ≠ gb201)); clear BK201; clear HB; have BK201 := n0_; have HB := n1_; have BK208 := n2_; have GW208 := n3_; have GE208 := n4_; have NB201_208 := n5_; have NB208_201 := n6_; clear n0_ n1_ n2_ n3_ n4_ n5_ n6_; clear hb hbox hg; have hnb14 := NB208_201.out; have hnc14 := NB201_208.out; have hcz15_0 : w13.cell? ⟨gb208, 0, none⟩ = some (.string (⟨#[]⟩ : ByteArray)) := (blk_cell BK208.out 0).trans rfl; have hcz15_1 : w13.cell? ⟨gb208, 1, none⟩ = some (.string (⟨#[]⟩ : ByteArray)) := (blk_cell BK208.out 1).trans rfl; have hcz15_2 : w13.cell? ⟨gb208, 2, none⟩ = some (.string (⟨#[]⟩ : ByteArray)) := (blk_cell BK208.out 2).trans rfl; have hcz15_3 : w13.cell? ⟨gb208, 3, none⟩ = some (.bool false) := (blk_cell BK208.out 3).trans rfl; have hfz15_0 := blk_frozen BK208.out 0; have hfz15_1 := blk_frozen BK208.out 1; have hfz15_2 := blk_frozen BK208.out 2; have hfz15_3 := blk_frozen BK208.out 3; have hcz16_0 : w13.cell? ⟨gb201, 0, none⟩ = some (.string t195) := (blk_cell BK201.out 0).trans rfl; have hcz16_1 : w13.cell? ⟨gb201, 1, none⟩ = some (.string t196) := (blk_cell BK201.out 1).trans rfl; have hcz16_2 : w13.cell? ⟨gb201, 2, none⟩ = some (.string t197) := (blk_cell BK201.out 2).trans rfl; have hcz16_3 : w13.cell? ⟨gb201, 3, none⟩ = some (.bool t198) := (blk_cell BK201.out 3).trans rfl; have hfz16_0 := blk_frozen BK201.out 0; have hfz16_1 := blk_frozen BK201.out 1; have hfz16_2 := blk_frozen BK201.out 2; have hfz16_3 := blk_frozen BK201.out 3))
        go_ret
        exact ⟨by first | rfl | (simp [errW_none, errW_some] <;> rfl) | (simp [*, errW_none, errW_some] <;> rfl), by repeat (first | (with_reducible first | exact HB.out | apply below_alloc | apply pw_below_drewN | apply below_drew1 | refine below_set ?_ GE201.out | refine below_set ?_ GE208.out) | exact HB.out)⟩
      · rw [if_neg c7] at H
        have c7b0 : (t199 == t206) = false := beq_eq_false_iff_ne.mpr c7
        have c7b1 : (t199 != t206) = true := bne_iff_ne.mpr c7
        exact absurd (HR_.out.symm.trans (Option.some.inj H).symm) (by decide)
    · rw [if_neg c6] at H
      have c6b0 : (t195.toList == t202.toList && (t196.toList == t203.toList && (t197.toList == t204.toList && (t198 == t205)))) = false := (by first | exact Bool.eq_false_iff.mpr c6 | simpa using c6)
      (try (have c6b1 : decide (t195.toList = t202.toList && (t196.toList == t203.toList && (t197.toList == t204.toList && (t198 == t205)))) = false := by simpa using c6))
      (try (have c6b2 : (t195.toList == t202.toList && (t196.toList == t203.toList && (t197.toList == t204.toList && (t198 == t205)))) = false := by simpa using c6))
      (try (have c6b3 : ¬ (t195.toList = t202.toList && (t196.toList == t203.toList && (t197.toList == t204.toList && (t198 == t205)))) := by simpa using c6))
      clear c6
      exact absurd (HR_.out.symm.trans (Option.some.inj H).symm) (by decide)
  · replace c3 := Bool.eq_false_iff.mpr c3
    subst c3
    have H1 : (some false) = some r := by rw [if_neg (show ¬ (false = true) by decide)] at H; exact H
    clear H
    have H := H1
    clear H1
    exact absurd (HR_.out.symm.trans (Option.some.inj H).symm) (by decide)

/-- THE ONE PURE STATEMENT of fascinelaw12_HttpReads: yours. -/
def fascinelaw12_HttpReads.Pure : Prop := ∀ (a0 : ByteArray), a0.size ≤ 140737488351232 → ∃ k, fascinelaw12_HttpReads.f k a0 = some true
theorem fascinelaw12_HttpReads.walk (P : fascinelaw12_HttpReads.Pure) (a0 : ByteArray) (w : World) (hT : tabs w) (w0 : a0.size ≤ 140737488351232) :
    Calls Tryd.prog 3 #[.string a0] w fun e w' => e = .returned (.bool true) ∧ Below w.heap.size w w' := by
  obtain ⟨k, h⟩ := P a0 w0
  refine (fascinelaw12_HttpReads.calls k a0 true w hT h rfl).mono ?_
  rintro e w' ⟨rfl, hd⟩
  exact ⟨rfl, hd⟩

end Go.Proofs.YtpigloohccpfiaaDoor.PHttpReads
