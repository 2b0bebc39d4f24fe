-- WRITTEN BY A PROGRAM OF THIS SESSION (wip/patch_print.py: the kit's printer with rules of this session's own); Lean checks it.
import Derived.Test.YtpigloohccpfiaaDoorPHttpReadsx0
import Derived.Test.YtpigloohccpfiaaDoorPHttpReadsx5
import Derived.Test.YtpigloohccpfiaaDoorPHttpReadsx6
namespace Go.Proofs.YtpigloohccpfiaaDoor.PHttpReads
open Go.RowKit Go.Proofs.YtpigloohccpfiaaDoorW.PrintWords Go.Proofs.YtpigloohccpfiaaDoorW.PrintLast Go.Proofs.YtpigloohccpfiaaDoorW.PrintMore
open Go.Proofs.YtpigloohccpfiaaDoor.G
attribute [local go_sem] max2_int min2_int max_two min_two max_three min_three max_four min_four   -- for this text's walks alone
set_option linter.unusedVariables false
set_option linter.unusedSimpArgs false

/-! ### fascineref12_first: function 23 -/
mutual
def fascineref12_first.j0 : Nat → ByteArray → Int → ByteArray → Int → Bool → Option (ByteArray × ByteArray × ByteArray × Bool × Bool)
 | 0, _, _, _, _, _ => none
 | k + 1, x0, x4, x5, x6, x35 => if x35 = true then (some ((⟨#[]⟩ : ByteArray), (⟨#[]⟩ : ByteArray), (⟨#[]⟩ : ByteArray), false, false)) else (if 0 ≤ x6 then (if x6 ≤ (x5.size : Int) then (if (x5.extract 0 (x6 : Int).toNat).toList = ([] : List UInt8) then (fascineref12_first.j1 k x0 x4 (x5.extract 0 (x6 : Int).toNat) true) else (if 0 < ((x5.extract 0 (x6 : Int).toNat).size : Int) then (fascineref12_first.j1 k x0 x4 (x5.extract 0 (x6 : Int).toNat) ((bt (x5.extract 0 (x6 : Int).toNat) 0) != 47)) else (none))) else (none)) else (none))
def fascineref12_first.j1 : Nat → ByteArray → Int → ByteArray → Bool → Option (ByteArray × ByteArray × ByteArray × Bool × Bool)
 | 0, _, _, _, _ => none
 | k + 1, x0, x4, x7, x46 => if x46 = true then (some ((⟨#[]⟩ : ByteArray), (⟨#[]⟩ : ByteArray), (⟨#[]⟩ : ByteArray), false, false)) else (fascineref12_first.l0 k x0 x4 x7 0)
def fascineref12_first.l0 : Nat → ByteArray → Int → ByteArray → Int → Option (ByteArray × ByteArray × ByteArray × Bool × Bool)
 | 0, _, _, _, _ => none
 | k + 1, x0, x4, x7, x8 => if x8 < (x7.size : Int) then (if 0 ≤ x8 then (if (bt x7 x8) < 33 then (some ((⟨#[]⟩ : ByteArray), (⟨#[]⟩ : ByteArray), (⟨#[]⟩ : ByteArray), false, false)) else (if (bt x7 x8) > 126 then (some ((⟨#[]⟩ : ByteArray), (⟨#[]⟩ : ByteArray), (⟨#[]⟩ : ByteArray), false, false)) else (fascineref12_first.l0 k x0 x4 x7 (wrap64 (x8 + 1))))) else (none)) else (if 0 ≤ x4 then (if x4 ≤ (x0.size : Int) then (some (x0.extract 0 (x4 : Int).toNat, x7, (⟨#[]⟩ : ByteArray), false, true)) else (none)) else (none))
end
def fascineref12_first.f (k : Nat) (a0 : ByteArray) : Option (ByteArray × ByteArray × ByteArray × Bool × Bool) := (fascineref12_find.f k a0 32).bind fun t166 => (if t166 < 0 then (some ((⟨#[]⟩ : ByteArray), (⟨#[]⟩ : ByteArray), (⟨#[]⟩ : ByteArray), false, false)) else (if 0 ≤ (wrap64 (t166 + 1)) then (if (wrap64 (t166 + 1)) ≤ (a0.size : Int) then ((fascineref12_find.f k (a0.extract ((wrap64 (t166 + 1)) : Int).toNat a0.size) 32).bind fun t167 => (if t167 < 0 then (fascineref12_first.j0 k a0 t166 (a0.extract ((wrap64 (t166 + 1)) : Int).toNat a0.size) t167 true) else (if 0 ≤ (wrap64 (t167 + 1)) then (if (wrap64 (t167 + 1)) ≤ ((a0.extract ((wrap64 (t166 + 1)) : Int).toNat a0.size).size : Int) then (if ((a0.extract ((wrap64 (t166 + 1)) : Int).toNat a0.size).extract ((wrap64 (t167 + 1)) : Int).toNat (a0.extract ((wrap64 (t166 + 1)) : Int).toNat a0.size).size).toList = ([72, 84, 84, 80, 47, 49, 46, 49] : List UInt8) then (if 0 ≤ t166 then (if t166 ≤ (a0.size : Int) then ((fascineref12_name.f k (a0.extract 0 (t166 : Int).toNat)).bind fun t168 => (fascineref12_first.j0 k a0 t166 (a0.extract ((wrap64 (t166 + 1)) : Int).toNat a0.size) t167 (!t168))) else (none)) else (none)) else (fascineref12_first.j0 k a0 t166 (a0.extract ((wrap64 (t166 + 1)) : Int).toNat a0.size) t167 true)) else (none)) else (none)))) else (none)) else (none)))
theorem fascineref12_first.mono_l : ∀ k, (∀ y0 y1 y2 y3 y4, LeO (fascineref12_first.j0 k y0 y1 y2 y3 y4) (fascineref12_first.j0 (k + 1) y0 y1 y2 y3 y4)) ∧ (∀ y0 y1 y2 y3, LeO (fascineref12_first.j1 k y0 y1 y2 y3) (fascineref12_first.j1 (k + 1) y0 y1 y2 y3)) ∧ (∀ y0 y1 y2 y3, LeO (fascineref12_first.l0 k y0 y1 y2 y3) (fascineref12_first.l0 (k + 1) y0 y1 y2 y3))
 | 0 => ⟨fun _ _ _ _ _ r h => by simp [fascineref12_first.j0] at h, fun _ _ _ _ r h => by simp [fascineref12_first.j1] at h, fun _ _ _ _ r h => by simp [fascineref12_first.l0] at h⟩
 | k + 1 => by
  obtain ⟨ih0, ih1, ih2⟩ := fascineref12_first.mono_l k
  refine ⟨?_, ?_, ?_⟩
  ·intro y0 y1 y2 y3 y4
   unfold fascineref12_first.j0
   repeat' first
   | (with_reducible exact ih0 _ _ _ _ _)
   | (with_reducible exact ih1 _ _ _ _)
   | (with_reducible exact ih2 _ _ _ _)
   | (with_reducible exact fascineref12_find.mono _ _ _)
   | (with_reducible exact fascineref12_name.mono _ _)
   | (with_reducible exact LeO.refl _)
   | (with_reducible exact LeO.none _)
   | (with_reducible refine LeO.ite ?_ ?_)
   | (with_reducible refine LeO.bind ?_ (fun _ => ?_))
   | exact ih0 _ _ _ _ _
   | exact ih1 _ _ _ _
   | exact ih2 _ _ _ _
   | exact fascineref12_find.mono _ _ _
   | exact fascineref12_name.mono _ _
   | exact LeO.none _
   | refine LeO.ite ?_ ?_
   | refine LeO.bind ?_ (fun _ => ?_)
  ·intro y0 y1 y2 y3
   unfold fascineref12_first.j1
   repeat' first
   | (with_reducible exact ih0 _ _ _ _ _)
   | (with_reducible exact ih1 _ _ _ _)
   | (with_reducible exact ih2 _ _ _ _)
   | (with_reducible exact fascineref12_find.mono _ _ _)
   | (with_reducible exact fascineref12_name.mono _ _)
   | (with_reducible exact LeO.refl _)
   | (with_reducible exact LeO.none _)
   | (with_reducible refine LeO.ite ?_ ?_)
   | (with_reducible refine LeO.bind ?_ (fun _ => ?_))
   | exact ih0 _ _ _ _ _
   | exact ih1 _ _ _ _
   | exact ih2 _ _ _ _
   | exact fascineref12_find.mono _ _ _
   | exact fascineref12_name.mono _ _
   | exact LeO.none _
   | refine LeO.ite ?_ ?_
   | refine LeO.bind ?_ (fun _ => ?_)
  ·intro y0 y1 y2 y3
   unfold fascineref12_first.l0
   repeat' first
   | (with_reducible exact ih0 _ _ _ _ _)
   | (with_reducible exact ih1 _ _ _ _)
   | (with_reducible exact ih2 _ _ _ _)
   | (with_reducible exact fascineref12_find.mono _ _ _)
   | (with_reducible exact fascineref12_name.mono _ _)
   | (with_reducible exact LeO.refl _)
   | (with_reducible exact LeO.none _)
   | (with_reducible refine LeO.ite ?_ ?_)
   | (with_reducible refine LeO.bind ?_ (fun _ => ?_))
   | exact ih0 _ _ _ _ _
   | exact ih1 _ _ _ _
   | exact ih2 _ _ _ _
   | exact fascineref12_find.mono _ _ _
   | exact fascineref12_name.mono _ _
   | exact LeO.none _
   | refine LeO.ite ?_ ?_
   | refine LeO.bind ?_ (fun _ => ?_)
theorem fascineref12_first.mono : ∀ a0 k, LeO (fascineref12_first.f k a0) (fascineref12_first.f (k + 1) a0) := by
 intro a0 k
 obtain ⟨ih0, ih1, ih2⟩ := fascineref12_first.mono_l k
 unfold fascineref12_first.f
 repeat' first
   | (with_reducible exact ih0 _ _ _ _ _)
   | (with_reducible exact ih1 _ _ _ _)
   | (with_reducible exact ih2 _ _ _ _)
   | (with_reducible exact fascineref12_find.mono _ _ _)
   | (with_reducible exact fascineref12_name.mono _ _)
   | (with_reducible exact LeO.refl _)
   | (with_reducible exact LeO.none _)
   | (with_reducible refine LeO.ite ?_ ?_)
   | (with_reducible refine LeO.bind ?_ (fun _ => ?_))
   | exact ih0 _ _ _ _ _
   | exact ih1 _ _ _ _
   | exact ih2 _ _ _ _
   | exact fascineref12_find.mono _ _ _
   | exact fascineref12_name.mono _ _
   | exact LeO.none _
   | refine LeO.ite ?_ ?_
   | refine LeO.bind ?_ (fun _ => ?_)
set_option maxHeartbeats 8000000 in
set_option maxRecDepth 100000 in
theorem fascineref12_first.calls (k : Nat) (a0 : ByteArray) (r1 : ByteArray) (r2 : ByteArray) (r3 : ByteArray) (r4 : Bool) (r5 : Bool) (w : World) (h : fascineref12_first.f k a0 = some (r1, r2, r3, r4, r5)) :
  Calls Tryd.prog 23 #[.string a0] w fun e w' => e = .returned (.tuple #[.agg #[.string r1, .string r2, .string r3, .bool r4], .bool r5]) ∧ Below w.heap.size w w' := by
 have hu24 := Tryd.underlying24
 have HB := Aside0.mk (Below.refl w.heap.size w)
 have H : ((fascineref12_find.f k a0 32).bind fun t166 => (if t166 < 0 then (some ((⟨#[]⟩ : ByteArray), (⟨#[]⟩ : ByteArray), (⟨#[]⟩ : ByteArray), false, false)) else (if 0 ≤ (wrap64 (t166 + 1)) then (if (wrap64 (t166 + 1)) ≤ (a0.size : Int) then ((fascineref12_find.f k (a0.extract ((wrap64 (t166 + 1)) : Int).toNat a0.size) 32).bind fun t167 => (if t167 < 0 then (fascineref12_first.j0 k a0 t166 (a0.extract ((wrap64 (t166 + 1)) : Int).toNat a0.size) t167 true) else (if 0 ≤ (wrap64 (t167 + 1)) then (if (wrap64 (t167 + 1)) ≤ ((a0.extract ((wrap64 (t166 + 1)) : Int).toNat a0.size).size : Int) then (if ((a0.extract ((wrap64 (t166 + 1)) : Int).toNat a0.size).extract ((wrap64 (t167 + 1)) : Int).toNat (a0.extract ((wrap64 (t166 + 1)) : Int).toNat a0.size).size).toList = ([72, 84, 84, 80, 47, 49, 46, 49] : List UInt8) then (if 0 ≤ t166 then (if t166 ≤ (a0.size : Int) then ((fascineref12_name.f k (a0.extract 0 (t166 : Int).toNat)).bind fun t168 => (fascineref12_first.j0 k a0 t166 (a0.extract ((wrap64 (t166 + 1)) : Int).toNat a0.size) t167 (!t168))) else (none)) else (none)) else (fascineref12_first.j0 k a0 t166 (a0.extract ((wrap64 (t166 + 1)) : Int).toNat a0.size) t167 true)) else (none)) else (none)))) else (none)) else (none)))) = some (r1, r2, r3, r4, r5) := h
 clear h
 replace H := Option.bind_eq_some_iff.mp H
 obtain ⟨t166, A20, H⟩ := H
 replace H : (if t166 < 0 then (some ((⟨#[]⟩ : ByteArray), (⟨#[]⟩ : ByteArray), (⟨#[]⟩ : ByteArray), false, false)) else (if 0 ≤ (wrap64 (t166 + 1)) then (if (wrap64 (t166 + 1)) ≤ (a0.size : Int) then ((fascineref12_find.f k (a0.extract ((wrap64 (t166 + 1)) : Int).toNat a0.size) 32).bind fun t167 => (if t167 < 0 then (fascineref12_first.j0 k a0 t166 (a0.extract ((wrap64 (t166 + 1)) : Int).toNat a0.size) t167 true) else (if 0 ≤ (wrap64 (t167 + 1)) then (if (wrap64 (t167 + 1)) ≤ ((a0.extract ((wrap64 (t166 + 1)) : Int).toNat a0.size).size : Int) then (if ((a0.extract ((wrap64 (t166 + 1)) : Int).toNat a0.size).extract ((wrap64 (t167 + 1)) : Int).toNat (a0.extract ((wrap64 (t166 + 1)) : Int).toNat a0.size).size).toList = ([72, 84, 84, 80, 47, 49, 46, 49] : List UInt8) then (if 0 ≤ t166 then (if t166 ≤ (a0.size : Int) then ((fascineref12_name.f k (a0.extract 0 (t166 : Int).toNat)).bind fun t168 => (fascineref12_first.j0 k a0 t166 (a0.extract ((wrap64 (t166 + 1)) : Int).toNat a0.size) t167 (!t168))) else (none)) else (none)) else (fascineref12_first.j0 k a0 t166 (a0.extract ((wrap64 (t166 + 1)) : Int).toNat a0.size) t167 true)) else (none)) else (none)))) else (none)) else (none))) = some (r1, r2, r3, r4, r5) := H
 have A2 := Aside0.mk A20
 clear A20
 by_cases c3 : t166 < 0
 ·rw [if_pos c3] at H
  have c3b0 : decide (t166 < 0) = true := decide_eq_true c3
  (try (have c3b0z := c3b0; simp only [ByteArray.size_extract, Nat.min_self] at c3b0z)); (try (have c3b0y := c3b0; simp at c3b0y))
  clear c3
  simp only [Option.some.injEq, Prod.mk.injEq] at H
  obtain ⟨rfl, rfl, rfl, rfl, rfl⟩ := H
  go_enter Tryd.func23, Tryd.ntmps23
  go_wp2_with (first | ((with_reducible refine gate_dst (N := 2) rfl ?_); refine box_event ?hg (N := 2) ?hd (cs := #[.string (⟨#[]⟩ : ByteArray), .string (⟨#[]⟩ : ByteArray), .string (⟨#[]⟩ : ByteArray), .bool false]) (t := 24) ?hr ?_; (case hd => rfl); (case hg => rfl); (case hr => first | (go_simp; done) | (go_simp; rfl)); intro gb165 hg w4 hbox hb; have n0_ := Aside0.mk (below_step (by repeat (first | (with_reducible first | exact HB.out | apply below_alloc | apply pw_below_drewN | apply below_drew1) | exact HB.out)) hb); have n1_ := Aside0.mk (hbox); have n2_ := Aside0.mk ((by rw [hg]; exact (below_size (by repeat (first | (with_reducible first | exact HB.out | apply below_alloc | apply pw_below_drewN | apply below_drew1) | exact HB.out))) : w.heap.size ≤ gb165)); have n3_ := Aside0.mk ((by rw [hg]; exact (below_size (by repeat (first | (with_reducible first | exact HB.out | apply below_alloc | apply pw_below_drewN | apply below_drew1) | exact HB.out))) : w.heap.size ≤ gb165)); clear HB; have HB := n0_; have BK165 := n1_; have GW165 := n2_; have GE165 := n3_; clear n0_ n1_ n2_ n3_; clear hb hbox hg) | ((with_reducible refine gate_callee (f := 22) rfl ?_); refine goesL_ (some 10) rfl rfl Tryd.func22 (by kernel_rfl) rfl #[.string a0, .int .u8 32] rfl (by (try simp only [List.map_toArray, List.map_cons, List.map_nil]); first | done | rfl | (simp only [List.length_drop, List.length_take]; rfl)) ?_; (with_reducible refine (fascineref12_find.calls k a0 32 t166 _ A2.out).mono ?_); rintro e w' ⟨rfl, ⟨nd, rfl⟩⟩; refine ⟨_, rfl, ?_⟩; (try (rw [drewN_self w4]; generalize hq_ : World.drewN w4 _ = w4; have n0_ : Aside0 (w4.heap[gb165]? = some (.cells #[.string (⟨#[]⟩ : ByteArray), .string (⟨#[]⟩ : ByteArray), .string (⟨#[]⟩ : ByteArray), .bool false] 24 (0, 0))) := ⟨by rw [← hq_]; exact (by (with_reducible repeat (first | refine blk_drewN ?_ _ | refine blk_drew ?_ | refine blk_alloc ?_ _)); exact BK165.out)⟩; have n1_ : Aside0 (Below w.heap.size w w4) := ⟨by rw [← hq_]; exact (by repeat (first | (with_reducible first | exact HB.out | apply below_alloc | apply pw_below_drewN | apply below_drew1 | refine below_set ?_ GE165.out) | exact HB.out))⟩; clear BK165 HB hq_; have BK165 := n0_; have HB := n1_; clear n0_ n1_)); have hcz5_0 : w4.cell? ⟨gb165, 0, none⟩ = some (.string (⟨#[]⟩ : ByteArray)) := (blk_cell BK165.out 0).trans rfl; have hcz5_1 : w4.cell? ⟨gb165, 1, none⟩ = some (.string (⟨#[]⟩ : ByteArray)) := (blk_cell BK165.out 1).trans rfl; have hcz5_2 : w4.cell? ⟨gb165, 2, none⟩ = some (.string (⟨#[]⟩ : ByteArray)) := (blk_cell BK165.out 2).trans rfl; have hcz5_3 : w4.cell? ⟨gb165, 3, none⟩ = some (.bool false) := (blk_cell BK165.out 3).trans rfl; have hfz5_0 := blk_frozen BK165.out 0; have hfz5_1 := blk_frozen BK165.out 1; have hfz5_2 := blk_frozen BK165.out 2; have hfz5_3 := blk_frozen BK165.out 3))
  refine bodyPost_ret (results_ct rfl _ _ gb165 24 #[.string (⟨#[]⟩ : ByteArray), .string (⟨#[]⟩ : ByteArray), .string (⟨#[]⟩ : ByteArray), .bool false] (0, 0) _ rfl (by (with_reducible repeat (first | refine blk_drewN ?_ _ | refine blk_drew ?_ | refine blk_alloc ?_ _)); refine blk_put (cs := #[.string (⟨#[]⟩ : ByteArray), .string (⟨#[]⟩ : ByteArray), .string (⟨#[]⟩ : ByteArray), .bool false]) ?_ 3 _ rfl; (with_reducible repeat (first | refine blk_drewN ?_ _ | refine blk_drew ?_ | refine blk_alloc ?_ _)); refine blk_put (cs := #[.string (⟨#[]⟩ : ByteArray), .string (⟨#[]⟩ : ByteArray), .string (⟨#[]⟩ : ByteArray), .bool false]) ?_ 2 _ rfl; (with_reducible repeat (first | refine blk_drewN ?_ _ | refine blk_drew ?_ | refine blk_alloc ?_ _)); refine blk_put (cs := #[.string (⟨#[]⟩ : ByteArray), .string (⟨#[]⟩ : ByteArray), .string (⟨#[]⟩ : ByteArray), .bool false]) ?_ 1 _ rfl; (with_reducible repeat (first | refine blk_drewN ?_ _ | refine blk_drew ?_ | refine blk_alloc ?_ _)); refine blk_put (cs := #[.string (⟨#[]⟩ : ByteArray), .string (⟨#[]⟩ : ByteArray), .string (⟨#[]⟩ : ByteArray), .bool false]) ?_ 0 _ rfl; (with_reducible repeat (first | refine blk_drewN ?_ _ | refine blk_drew ?_ | refine blk_alloc ?_ _)); exact BK165.out) Tryd.underlying24 rfl (by kernel_rfl)) rfl ?_
  exact ⟨by first | rfl | (simp [errW_none, errW_some] <;> rfl) | (simp [*, errW_none, errW_some] <;> rfl), by repeat (first | (with_reducible first | exact HB.out | apply below_alloc | apply pw_below_drewN | apply below_drew1 | refine below_set ?_ GE165.out) | exact HB.out)⟩
 ·rw [if_neg c3] at H
  have c3b0 : decide (t166 < 0) = false := decide_eq_false c3
  (try (have c3b0z := c3b0; simp only [ByteArray.size_extract, Nat.min_self] at c3b0z)); (try (have c3b0y := c3b0; simp at c3b0y))
  clear c3
  obtain ⟨ji6, hji6⟩ : ∃ j_ : Int, (wrap64 (t166 + 1)) = j_ := ⟨_, rfl⟩
  replace H : (if 0 ≤ (ji6) then (if (ji6) ≤ (a0.size : Int) then ((fascineref12_find.f k (a0.extract ((ji6) : Int).toNat a0.size) 32).bind fun t167 => (if t167 < 0 then (fascineref12_first.j0 k a0 t166 (a0.extract ((ji6) : Int).toNat a0.size) t167 true) else (if 0 ≤ (wrap64 (t167 + 1)) then (if (wrap64 (t167 + 1)) ≤ ((a0.extract ((ji6) : Int).toNat a0.size).size : Int) then (if ((a0.extract ((ji6) : Int).toNat a0.size).extract ((wrap64 (t167 + 1)) : Int).toNat (a0.extract ((ji6) : Int).toNat a0.size).size).toList = ([72, 84, 84, 80, 47, 49, 46, 49] : List UInt8) then (if 0 ≤ t166 then (if t166 ≤ (a0.size : Int) then ((fascineref12_name.f k (a0.extract 0 (t166 : Int).toNat)).bind fun t168 => (fascineref12_first.j0 k a0 t166 (a0.extract ((ji6) : Int).toNat a0.size) t167 (!t168))) else (none)) else (none)) else (fascineref12_first.j0 k a0 t166 (a0.extract ((ji6) : Int).toNat a0.size) t167 true)) else (none)) else (none)))) else (none)) else (none)) = some (r1, r2, r3, r4, r5) := by first | (rw [hji6] at H; exact H) | (simp only [hji6] at H ⊢; exact H)
  (try rw [hji6] at A2)
  have hji6w : (IntKind.i64.wrap (t166 + 1)) = ji6 := (i64_w _).trans hji6
  by_cases c7 : 0 ≤ (ji6)
  ·rw [if_pos c7] at H
   have c7b0 := eq_true c7
   (try (have c7b0z := c7b0; simp only [ByteArray.size_extract, Nat.min_self] at c7b0z)); (try (have c7b0y := c7b0; simp at c7b0y))
   have c7b1 : decide (0 ≤ (ji6)) = true := decide_eq_true c7
   (try (have c7b1z := c7b1; simp only [ByteArray.size_extract, Nat.min_self] at c7b1z)); (try (have c7b1y := c7b1; simp at c7b1y))
   clear c7
   by_cases c8 : (ji6) ≤ (a0.size : Int)
   ·rw [if_pos c8] at H
    have c8b0 := eq_true c8
    (try (have c8b0z := c8b0; simp only [ByteArray.size_extract, Nat.min_self] at c8b0z)); (try (have c8b0y := c8b0; simp at c8b0y))
    have c8b1 : decide ((ji6) ≤ (a0.size : Int)) = true := decide_eq_true c8
    (try (have c8b1z := c8b1; simp only [ByteArray.size_extract, Nat.min_self] at c8b1z)); (try (have c8b1y := c8b1; simp at c8b1y))
    clear c8
    replace H := Option.bind_eq_some_iff.mp H
    obtain ⟨t167, A90, H⟩ := H
    replace H : (if t167 < 0 then (fascineref12_first.j0 k a0 t166 (a0.extract ((ji6) : Int).toNat a0.size) t167 true) else (if 0 ≤ (wrap64 (t167 + 1)) then (if (wrap64 (t167 + 1)) ≤ ((a0.extract ((ji6) : Int).toNat a0.size).size : Int) then (if ((a0.extract ((ji6) : Int).toNat a0.size).extract ((wrap64 (t167 + 1)) : Int).toNat (a0.extract ((ji6) : Int).toNat a0.size).size).toList = ([72, 84, 84, 80, 47, 49, 46, 49] : List UInt8) then (if 0 ≤ t166 then (if t166 ≤ (a0.size : Int) then ((fascineref12_name.f k (a0.extract 0 (t166 : Int).toNat)).bind fun t168 => (fascineref12_first.j0 k a0 t166 (a0.extract ((ji6) : Int).toNat a0.size) t167 (!t168))) else (none)) else (none)) else (fascineref12_first.j0 k a0 t166 (a0.extract ((ji6) : Int).toNat a0.size) t167 true)) else (none)) else (none))) = some (r1, r2, r3, r4, r5) := H
    have A9 := Aside0.mk A90
    clear A90
    have HC10 := Aside0.mk H
    clear H
    go_enter Tryd.func23, Tryd.ntmps23
    go_upto_region 6 with (first | ((with_reducible refine gate_dst (N := 2) rfl ?_); refine box_event ?hg (N := 2) ?hd (cs := #[.string (⟨#[]⟩ : ByteArray), .string (⟨#[]⟩ : ByteArray), .string (⟨#[]⟩ : ByteArray), .bool false]) (t := 24) ?hr ?_; (case hd => rfl); (case hg => rfl); (case hr => first | (go_simp; done) | (go_simp; rfl)); intro gb165 hg w11 hbox hb; have n0_ := Aside0.mk (below_step (by repeat (first | (with_reducible first | exact HB.out | apply below_alloc | apply pw_below_drewN | apply below_drew1) | exact HB.out)) hb); have n1_ := Aside0.mk (hbox); have n2_ := Aside0.mk ((by rw [hg]; exact (below_size (by repeat (first | (with_reducible first | exact HB.out | apply below_alloc | apply pw_below_drewN | apply below_drew1) | exact HB.out))) : w.heap.size ≤ gb165)); have n3_ := Aside0.mk ((by rw [hg]; exact (below_size (by repeat (first | (with_reducible first | exact HB.out | apply below_alloc | apply pw_below_drewN | apply below_drew1) | exact HB.out))) : w.heap.size ≤ gb165)); clear HB; have HB := n0_; have BK165 := n1_; have GW165 := n2_; have GE165 := n3_; clear n0_ n1_ n2_ n3_; clear hb hbox hg) | ((with_reducible refine gate_callee (f := 22) rfl ?_); refine goesL_ (some 10) rfl rfl Tryd.func22 (by kernel_rfl) rfl #[.string a0, .int .u8 32] rfl (by (try simp only [List.map_toArray, List.map_cons, List.map_nil]); first | done | rfl | (simp only [List.length_drop, List.length_take]; rfl)) ?_; (with_reducible refine (fascineref12_find.calls k a0 32 t166 _ A2.out).mono ?_); rintro e w' ⟨rfl, ⟨nd, rfl⟩⟩; refine ⟨_, rfl, ?_⟩) | ((with_reducible refine gate_callee (f := 22) rfl ?_); refine goesL_ (some 19) rfl rfl Tryd.func22 (by kernel_rfl) rfl #[.string (a0.extract ((ji6) : Int).toNat a0.size), .int .u8 32] rfl (by (try simp only [List.map_toArray, List.map_cons, List.map_nil]); first | done | (simp only [hji6]; rfl) | rfl | (simp only [List.length_drop, List.length_take]; rfl)) ?_; (with_reducible refine (fascineref12_find.calls k (a0.extract ((ji6) : Int).toNat a0.size) 32 t167 _ A9.out).mono ?_); rintro e w' ⟨rfl, ⟨nd, rfl⟩⟩; refine ⟨_, rfl, ?_⟩))
    (try simp only [Act.put, List.setIfInBounds_toArray, List.set_cons_zero, List.set_cons_succ])
    go_cut [35] (fun v35 wc => ∃ (kq : Nat) (x35_9 : Bool), v35 = .bool x35_9 ∧ Aside0 (fascineref12_first.j0 kq a0 t166 (a0.extract ((ji6) : Int).toNat a0.size) t167 x35_9 = some (r1, r2, r3, r4, r5)) ∧ Aside0 (kq ≤ k) ∧ Aside0 (wc.heap[gb165]? = some (.cells #[.string (⟨#[]⟩ : ByteArray), .string (⟨#[]⟩ : ByteArray), .string (⟨#[]⟩ : ByteArray), .bool false] 24 (0, 0))) ∧ Aside0 (Below w.heap.size w wc))
    case first =>
     have H := HC10.out
     clear HC10
     by_cases c12 : t167 < 0
     ·rw [if_pos c12] at H
      have c12b0 : decide (t167 < 0) = true := decide_eq_true c12
      (try (have c12b0z := c12b0; simp only [ByteArray.size_extract, Nat.min_self] at c12b0z)); (try (have c12b0y := c12b0; simp at c12b0y))
      clear c12
      (first | rw [c12b0] | (simp only [i64_w, i32_w]; rw [c12b0]) | skip)
      have H' := Aside0.mk H
      clear H
      go_wp2
      go_meet
      case rel => exact ⟨_, (true), (by first | rfl | (simp; done) | (simp [*]; done)), H', ⟨by first | omega | exact Nat.le_refl _⟩, ⟨by (with_reducible repeat (first | refine blk_drewN ?_ _ | refine blk_drew ?_ | refine blk_alloc ?_ _)); exact BK165.out⟩, ⟨by repeat (first | (with_reducible first | exact HB.out | apply below_alloc | apply pw_below_drewN | apply below_drew1 | refine below_set ?_ GE165.out) | exact HB.out)⟩⟩
     ·rw [if_neg c12] at H
      have c12b0 : decide (t167 < 0) = false := decide_eq_false c12
      (try (have c12b0z := c12b0; simp only [ByteArray.size_extract, Nat.min_self] at c12b0z)); (try (have c12b0y := c12b0; simp at c12b0y))
      clear c12
      (first | rw [c12b0] | (simp only [i64_w, i32_w]; rw [c12b0]) | skip)
      obtain ⟨ji13, hji13⟩ : ∃ j_ : Int, (wrap64 (t167 + 1)) = j_ := ⟨_, rfl⟩
      replace H : (if 0 ≤ (ji13) then (if (ji13) ≤ ((a0.extract ((ji6) : Int).toNat a0.size).size : Int) then (if ((a0.extract ((ji6) : Int).toNat a0.size).extract ((ji13) : Int).toNat (a0.extract ((ji6) : Int).toNat a0.size).size).toList = ([72, 84, 84, 80, 47, 49, 46, 49] : List UInt8) then (if 0 ≤ t166 then (if t166 ≤ (a0.size : Int) then ((fascineref12_name.f k (a0.extract 0 (t166 : Int).toNat)).bind fun t168 => (fascineref12_first.j0 k a0 t166 (a0.extract ((ji6) : Int).toNat a0.size) t167 (!t168))) else (none)) else (none)) else (fascineref12_first.j0 k a0 t166 (a0.extract ((ji6) : Int).toNat a0.size) t167 true)) else (none)) else (none)) = some (r1, r2, r3, r4, r5) := by first | (rw [hji13] at H; exact H) | (simp only [hji13] at H ⊢; exact H)
      have hji13w : (IntKind.i64.wrap (t167 + 1)) = ji13 := (i64_w _).trans hji13
      by_cases c14 : 0 ≤ (ji13)
      ·rw [if_pos c14] at H
       have c14b0 := eq_true c14
       (try (have c14b0z := c14b0; simp only [ByteArray.size_extract, Nat.min_self] at c14b0z)); (try (have c14b0y := c14b0; simp at c14b0y))
       have c14b1 : decide (0 ≤ (ji13)) = true := decide_eq_true c14
       (try (have c14b1z := c14b1; simp only [ByteArray.size_extract, Nat.min_self] at c14b1z)); (try (have c14b1y := c14b1; simp at c14b1y))
       clear c14
       by_cases c15 : (ji13) ≤ ((a0.extract ((ji6) : Int).toNat a0.size).size : Int)
       ·rw [if_pos c15] at H
        have c15b0 := eq_true c15
        (try (have c15b0z := c15b0; simp only [ByteArray.size_extract, Nat.min_self] at c15b0z)); (try (have c15b0y := c15b0; simp at c15b0y))
        have c15b1 : decide ((ji13) ≤ ((a0.extract ((ji6) : Int).toNat a0.size).size : Int)) = true := decide_eq_true c15
        (try (have c15b1z := c15b1; simp only [ByteArray.size_extract, Nat.min_self] at c15b1z)); (try (have c15b1y := c15b1; simp at c15b1y))
        clear c15
        by_cases c16 : ((a0.extract ((ji6) : Int).toNat a0.size).extract ((ji13) : Int).toNat (a0.extract ((ji6) : Int).toNat a0.size).size).toList = ([72, 84, 84, 80, 47, 49, 46, 49] : List UInt8)
        ·rw [if_pos c16] at H
         have c16b0 : (((a0.extract ((ji6) : Int).toNat a0.size).extract ((ji13) : Int).toNat (a0.extract ((ji6) : Int).toNat a0.size).size).toList == ([72, 84, 84, 80, 47, 49, 46, 49] : List UInt8)) = true := beq_iff_eq.mpr c16
         (try (have c16b0z := c16b0; simp only [ByteArray.size_extract, Nat.min_self] at c16b0z)); (try (have c16b0y := c16b0; simp at c16b0y))
         have c16b1 : (((a0.extract ((ji6) : Int).toNat a0.size).extract ((ji13) : Int).toNat (a0.extract ((ji6) : Int).toNat a0.size).size).toList != ([72, 84, 84, 80, 47, 49, 46, 49] : List UInt8)) = false := bne_eq_false_iff_eq.mpr c16
         (try (have c16b1z := c16b1; simp only [ByteArray.size_extract, Nat.min_self] at c16b1z)); (try (have c16b1y := c16b1; simp at c16b1y))
         clear c16
         by_cases c17 : 0 ≤ t166
         ·rw [if_pos c17] at H
          have c17b0 := eq_true c17
          (try (have c17b0z := c17b0; simp only [ByteArray.size_extract, Nat.min_self] at c17b0z)); (try (have c17b0y := c17b0; simp at c17b0y))
          have c17b1 : decide (0 ≤ t166) = true := decide_eq_true c17
          (try (have c17b1z := c17b1; simp only [ByteArray.size_extract, Nat.min_self] at c17b1z)); (try (have c17b1y := c17b1; simp at c17b1y))
          clear c17
          by_cases c18 : t166 ≤ (a0.size : Int)
          ·rw [if_pos c18] at H
           have c18b0 := eq_true c18
           (try (have c18b0z := c18b0; simp only [ByteArray.size_extract, Nat.min_self] at c18b0z)); (try (have c18b0y := c18b0; simp at c18b0y))
           have c18b1 : decide (t166 ≤ (a0.size : Int)) = true := decide_eq_true c18
           (try (have c18b1z := c18b1; simp only [ByteArray.size_extract, Nat.min_self] at c18b1z)); (try (have c18b1y := c18b1; simp at c18b1y))
           clear c18
           replace H := Option.bind_eq_some_iff.mp H
           obtain ⟨t168, A190, H⟩ := H
           replace H : (fascineref12_first.j0 k a0 t166 (a0.extract ((ji6) : Int).toNat a0.size) t167 (!t168)) = some (r1, r2, r3, r4, r5) := H
           have A19 := Aside0.mk A190
           clear A190
           have H' := Aside0.mk H
           clear H
           go_wp2_with (first | (go_at_call 24; (with_reducible refine (fascineref12_name.calls k (a0.extract 0 (t166 : Int).toNat) t168 _ A19.out).mono ?_); rintro e w' ⟨rfl, ⟨nd, rfl⟩⟩))
           go_meet
           case rel => exact ⟨_, (!t168), (by first | rfl | (simp; done) | (simp [*]; done)), H', ⟨by first | omega | exact Nat.le_refl _⟩, ⟨by (with_reducible repeat (first | refine blk_drewN ?_ _ | refine blk_drew ?_ | refine blk_alloc ?_ _)); exact BK165.out⟩, ⟨by repeat (first | (with_reducible first | exact HB.out | apply below_alloc | apply pw_below_drewN | apply below_drew1 | refine below_set ?_ GE165.out) | exact HB.out)⟩⟩
          ·rw [if_neg c18] at H
           exact absurd H (by simp)
         ·rw [if_neg c17] at H
          exact absurd H (by simp)
        ·rw [if_neg c16] at H
         have c16b0 : (((a0.extract ((ji6) : Int).toNat a0.size).extract ((ji13) : Int).toNat (a0.extract ((ji6) : Int).toNat a0.size).size).toList == ([72, 84, 84, 80, 47, 49, 46, 49] : List UInt8)) = false := beq_eq_false_iff_ne.mpr c16
         (try (have c16b0z := c16b0; simp only [ByteArray.size_extract, Nat.min_self] at c16b0z)); (try (have c16b0y := c16b0; simp at c16b0y))
         have c16b1 : (((a0.extract ((ji6) : Int).toNat a0.size).extract ((ji13) : Int).toNat (a0.extract ((ji6) : Int).toNat a0.size).size).toList != ([72, 84, 84, 80, 47, 49, 46, 49] : List UInt8)) = true := bne_iff_ne.mpr c16
         (try (have c16b1z := c16b1; simp only [ByteArray.size_extract, Nat.min_self] at c16b1z)); (try (have c16b1y := c16b1; simp at c16b1y))
         have H' := Aside0.mk H
         clear H
         go_wp2
         go_meet
         case rel => exact ⟨_, (true), (by first | rfl | (simp; done) | (simp [*]; done)), H', ⟨by first | omega | exact Nat.le_refl _⟩, ⟨by (with_reducible repeat (first | refine blk_drewN ?_ _ | refine blk_drew ?_ | refine blk_alloc ?_ _)); exact BK165.out⟩, ⟨by repeat (first | (with_reducible first | exact HB.out | apply below_alloc | apply pw_below_drewN | apply below_drew1 | refine below_set ?_ GE165.out) | exact HB.out)⟩⟩
       ·rw [if_neg c15] at H
        exact absurd H (by simp)
      ·rw [if_neg c14] at H
       exact absurd H (by simp)
    case rest =>
     clear HC10
     try clear c1
     try clear c2
     try clear p2
     try clear c3
     try clear c3b0
     try clear p6
     try clear c7
     try clear c7b0
     try clear c7b1
     try clear c8
     try clear c8b0
     try clear c8b1
     try clear c12
     try clear c12b0
     try clear c14
     try clear c14b0
     try clear c14b1
     try clear c15
     try clear c15b0
     try clear c15b1
     try clear c16
     try clear c16b0
     try clear c16b1
     try clear c17
     try clear c17b0
     try clear c17b1
     try clear c18
     try clear c18b0
     try clear c18b1
     try clear hcz5_0
     try clear hcz5_1
     try clear hcz5_2
     try clear hcz5_3
     try clear hfz5_0
     try clear hfz5_1
     try clear hfz5_2
     try clear hfz5_3
     obtain ⟨kq, x35_9, rfl, HA, HJ9, BK165, HB⟩ := hcut
     cases kq with
     | zero => exact absurd HA.out (by simp [fascineref12_first.j0])
     | succ kj9 =>
      have H := HA.out
      clear HA
      simp only [fascineref12_first.j0] at H
      by_cases c20 : x35_9 = true
      ·subst c20
       have H1 : (some ((⟨#[]⟩ : ByteArray), (⟨#[]⟩ : ByteArray), (⟨#[]⟩ : ByteArray), false, false)) = some (r1, r2, r3, r4, r5) := by rw [if_pos rfl] at H; exact H
       clear H
       have H := H1
       clear H1
       simp only [Option.some.injEq, Prod.mk.injEq] at H
       obtain ⟨rfl, rfl, rfl, rfl, rfl⟩ := H
       have hcz21_0 : wc.cell? ⟨gb165, 0, none⟩ = some (.string (⟨#[]⟩ : ByteArray)) := (blk_cell BK165.out 0).trans rfl
       have hcz21_1 : wc.cell? ⟨gb165, 1, none⟩ = some (.string (⟨#[]⟩ : ByteArray)) := (blk_cell BK165.out 1).trans rfl
       have hcz21_2 : wc.cell? ⟨gb165, 2, none⟩ = some (.string (⟨#[]⟩ : ByteArray)) := (blk_cell BK165.out 2).trans rfl
       have hcz21_3 : wc.cell? ⟨gb165, 3, none⟩ = some (.bool false) := (blk_cell BK165.out 3).trans rfl
       have hfz21_0 := blk_frozen BK165.out 0
       have hfz21_1 := blk_frozen BK165.out 1
       have hfz21_2 := blk_frozen BK165.out 2
       have hfz21_3 := blk_frozen BK165.out 3
       go_wp2
       refine bodyPost_ret (results_ct rfl _ _ gb165 24 #[.string (⟨#[]⟩ : ByteArray), .string (⟨#[]⟩ : ByteArray), .string (⟨#[]⟩ : ByteArray), .bool false] (0, 0) _ rfl (by (with_reducible repeat (first | refine blk_drewN ?_ _ | refine blk_drew ?_ | refine blk_alloc ?_ _)); refine blk_put (cs := #[.string (⟨#[]⟩ : ByteArray), .string (⟨#[]⟩ : ByteArray), .string (⟨#[]⟩ : ByteArray), .bool false]) ?_ 3 _ rfl; (with_reducible repeat (first | refine blk_drewN ?_ _ | refine blk_drew ?_ | refine blk_alloc ?_ _)); refine blk_put (cs := #[.string (⟨#[]⟩ : ByteArray), .string (⟨#[]⟩ : ByteArray), .string (⟨#[]⟩ : ByteArray), .bool false]) ?_ 2 _ rfl; (with_reducible repeat (first | refine blk_drewN ?_ _ | refine blk_drew ?_ | refine blk_alloc ?_ _)); refine blk_put (cs := #[.string (⟨#[]⟩ : ByteArray), .string (⟨#[]⟩ : ByteArray), .string (⟨#[]⟩ : ByteArray), .bool false]) ?_ 1 _ rfl; (with_reducible repeat (first | refine blk_drewN ?_ _ | refine blk_drew ?_ | refine blk_alloc ?_ _)); refine blk_put (cs := #[.string (⟨#[]⟩ : ByteArray), .string (⟨#[]⟩ : ByteArray), .string (⟨#[]⟩ : ByteArray), .bool false]) ?_ 0 _ rfl; (with_reducible repeat (first | refine blk_drewN ?_ _ | refine blk_drew ?_ | refine blk_alloc ?_ _)); exact BK165.out) Tryd.underlying24 rfl (by kernel_rfl)) rfl ?_
       exact ⟨by first | rfl | (simp [errW_none, errW_some] <;> rfl) | (simp only [← hji6]; first | rfl | (simp [errW_none, errW_some] <;> rfl)) | (simp [*, errW_none, errW_some] <;> rfl), by repeat (first | (with_reducible first | exact HB.out | apply below_alloc | apply pw_below_drewN | apply below_drew1 | refine below_set ?_ GE165.out) | exact HB.out)⟩
      ·replace c20 := Bool.eq_false_iff.mpr c20
       subst c20
       have H1 : (if 0 ≤ t167 then (if t167 ≤ ((a0.extract ((ji6) : Int).toNat a0.size).size : Int) then (if ((a0.extract ((ji6) : Int).toNat a0.size).extract 0 (t167 : Int).toNat).toList = ([] : List UInt8) then (fascineref12_first.j1 kj9 a0 t166 ((a0.extract ((ji6) : Int).toNat a0.size).extract 0 (t167 : Int).toNat) true) else (if 0 < (((a0.extract ((ji6) : Int).toNat a0.size).extract 0 (t167 : Int).toNat).size : Int) then (fascineref12_first.j1 kj9 a0 t166 ((a0.extract ((ji6) : Int).toNat a0.size).extract 0 (t167 : Int).toNat) ((bt ((a0.extract ((ji6) : Int).toNat a0.size).extract 0 (t167 : Int).toNat) 0) != 47)) else (none))) else (none)) else (none)) = some (r1, r2, r3, r4, r5) := by rw [if_neg (show ¬ (false = true) by decide)] at H; exact H
       clear H
       have H := H1
       clear H1
       by_cases c22 : 0 ≤ t167
       ·rw [if_pos c22] at H
        have c22b0 := eq_true c22
        (try (have c22b0z := c22b0; simp only [ByteArray.size_extract, Nat.min_self] at c22b0z)); (try (have c22b0y := c22b0; simp at c22b0y))
        have c22b1 : decide (0 ≤ t167) = true := decide_eq_true c22
        (try (have c22b1z := c22b1; simp only [ByteArray.size_extract, Nat.min_self] at c22b1z)); (try (have c22b1y := c22b1; simp at c22b1y))
        clear c22
        by_cases c23 : t167 ≤ ((a0.extract ((ji6) : Int).toNat a0.size).size : Int)
        ·rw [if_pos c23] at H
         have c23b0 := eq_true c23
         (try (have c23b0z := c23b0; simp only [ByteArray.size_extract, Nat.min_self] at c23b0z)); (try (have c23b0y := c23b0; simp at c23b0y))
         have c23b1 : decide (t167 ≤ ((a0.extract ((ji6) : Int).toNat a0.size).size : Int)) = true := decide_eq_true c23
         (try (have c23b1z := c23b1; simp only [ByteArray.size_extract, Nat.min_self] at c23b1z)); (try (have c23b1y := c23b1; simp at c23b1y))
         clear c23
         have HC24 := Aside0.mk H
         clear H
         go_upto_region 9 with (fail)
         go_cut [46] (fun v46 wc => ∃ (kq : Nat) (x46_23 : Bool), v46 = .bool x46_23 ∧ Aside0 (fascineref12_first.j1 kq a0 t166 ((a0.extract ((ji6) : Int).toNat a0.size).extract 0 (t167 : Int).toNat) x46_23 = some (r1, r2, r3, r4, r5)) ∧ Aside0 (kq ≤ kj9) ∧ Aside0 (wc.heap[gb165]? = some (.cells #[.string (⟨#[]⟩ : ByteArray), .string (⟨#[]⟩ : ByteArray), .string (⟨#[]⟩ : ByteArray), .bool false] 24 (0, 0))) ∧ Aside0 (Below w.heap.size w wc))
         case first =>
          have H := HC24.out
          clear HC24
          by_cases c25 : ((a0.extract ((ji6) : Int).toNat a0.size).extract 0 (t167 : Int).toNat).toList = ([] : List UInt8)
          ·rw [if_pos c25] at H
           have c25b0 : (((a0.extract ((ji6) : Int).toNat a0.size).extract 0 (t167 : Int).toNat).toList == ([] : List UInt8)) = true := beq_iff_eq.mpr c25
           (try (have c25b0z := c25b0; simp only [ByteArray.size_extract, Nat.min_self] at c25b0z)); (try (have c25b0y := c25b0; simp at c25b0y))
           have c25b1 : (((a0.extract ((ji6) : Int).toNat a0.size).extract 0 (t167 : Int).toNat).toList != ([] : List UInt8)) = false := bne_eq_false_iff_eq.mpr c25
           (try (have c25b1z := c25b1; simp only [ByteArray.size_extract, Nat.min_self] at c25b1z)); (try (have c25b1y := c25b1; simp at c25b1y))
           clear c25
           (first | rw [c25b0] | (simp only [i64_w, i32_w]; rw [c25b0]) | skip)
           have H' := Aside0.mk H
           clear H
           go_wp2
           go_meet
           case rel => exact ⟨_, (true), (by first | rfl | (simp; done) | (simp [*]; done)), H', ⟨by have := HJ9.out; first | omega | exact Nat.le_refl _⟩, ⟨by (with_reducible repeat (first | refine blk_drewN ?_ _ | refine blk_drew ?_ | refine blk_alloc ?_ _)); exact BK165.out⟩, ⟨by repeat (first | (with_reducible first | exact HB.out | apply below_alloc | apply pw_below_drewN | apply below_drew1 | refine below_set ?_ GE165.out) | exact HB.out)⟩⟩
          ·rw [if_neg c25] at H
           have c25b0 : (((a0.extract ((ji6) : Int).toNat a0.size).extract 0 (t167 : Int).toNat).toList == ([] : List UInt8)) = false := beq_eq_false_iff_ne.mpr c25
           (try (have c25b0z := c25b0; simp only [ByteArray.size_extract, Nat.min_self] at c25b0z)); (try (have c25b0y := c25b0; simp at c25b0y))
           have c25b1 : (((a0.extract ((ji6) : Int).toNat a0.size).extract 0 (t167 : Int).toNat).toList != ([] : List UInt8)) = true := bne_iff_ne.mpr c25
           (try (have c25b1z := c25b1; simp only [ByteArray.size_extract, Nat.min_self] at c25b1z)); (try (have c25b1y := c25b1; simp at c25b1y))
           (first | rw [c25b0] | (simp only [i64_w, i32_w]; rw [c25b0]) | skip)
           by_cases c26 : 0 < (((a0.extract ((ji6) : Int).toNat a0.size).extract 0 (t167 : Int).toNat).size : Int)
           ·rw [if_pos c26] at H
            have c26b0 : decide (0 < (((a0.extract ((ji6) : Int).toNat a0.size).extract 0 (t167 : Int).toNat).size : Int)) = true := decide_eq_true c26
            (try (have c26b0z := c26b0; simp only [ByteArray.size_extract, Nat.min_self] at c26b0z)); (try (have c26b0y := c26b0; simp at c26b0y))
            have c26b1 : decide (0 < ((a0.extract ((ji6) : Int).toNat a0.size).extract 0 (t167 : Int).toNat).size) = true := decide_eq_true (by omega)
            (try (have c26b1z := c26b1; simp only [ByteArray.size_extract, Nat.min_self] at c26b1z)); (try (have c26b1y := c26b1; simp at c26b1y))
            clear c26
            have H' := Aside0.mk H
            clear H
            have p27 : 0 ≤ (0 : Int) := (by omega)
            have q27 : 0 < ((a0.extract ((ji6) : Int).toNat a0.size).extract 0 (t167 : Int).toNat).size := (by have : (0 : Int) < (((a0.extract ((ji6) : Int).toNat a0.size).extract 0 (t167 : Int).toNat).size : Int) := of_decide_eq_true (by first | (with_reducible assumption) | assumption); omega)
            have hx27 : ∀ h : 0 < ((a0.extract ((ji6) : Int).toNat a0.size).extract 0 (t167 : Int).toNat).size, ((((a0.extract ((ji6) : Int).toNat a0.size).extract 0 (t167 : Int).toNat)[0]'h).toNat : Int) = bt ((a0.extract ((ji6) : Int).toNat a0.size).extract 0 (t167 : Int).toNat) 0 := bt_at ((a0.extract ((ji6) : Int).toNat a0.size).extract 0 (t167 : Int).toNat) 0
            clear p27
            have qi27 : (0 < (((a0.extract ((ji6) : Int).toNat a0.size).extract 0 (t167 : Int).toNat).size : Int)) = True := eq_true (of_decide_eq_true (by first | (with_reducible assumption) | assumption))
            (try (have qi27z := qi27; simp only [ByteArray.size_extract, Nat.min_self] at qi27z)); (try (have qi27y := qi27; simp at qi27y))
            replace q27 := eq_true q27
            (try (have q27z := q27; simp only [ByteArray.size_extract, Nat.min_self] at q27z)); (try (have q27y := q27; simp at q27y))
            go_wp2
            go_meet
            case rel => exact ⟨_, (((bt ((a0.extract ((ji6) : Int).toNat a0.size).extract 0 (t167 : Int).toNat) 0) != 47)), (by first | rfl | (simp; done) | (simp only [← hji6] <;> (first | rfl | simp)) | (simp [*]; done)), H', ⟨by have := HJ9.out; first | omega | exact Nat.le_refl _⟩, ⟨by (with_reducible repeat (first | refine blk_drewN ?_ _ | refine blk_drew ?_ | refine blk_alloc ?_ _)); exact BK165.out⟩, ⟨by repeat (first | (with_reducible first | exact HB.out | apply below_alloc | apply pw_below_drewN | apply below_drew1 | refine below_set ?_ GE165.out) | exact HB.out)⟩⟩
           ·rw [if_neg c26] at H
            exact absurd H (by simp)
         case rest =>
          clear HC24
          try clear c1
          try clear c2
          try clear p2
          try clear q2
          try clear hx2
          try clear qi2
          try clear c3
          try clear c3b0
          try clear p6
          try clear c7
          try clear c7b0
          try clear c7b1
          try clear c8
          try clear c8b0
          try clear c8b1
          try clear c12
          try clear c12b0
          try clear c14
          try clear c14b0
          try clear c14b1
          try clear c15
          try clear c15b0
          try clear c15b1
          try clear c16
          try clear c16b0
          try clear c16b1
          try clear c17
          try clear c17b0
          try clear c17b1
          try clear c18
          try clear c18b0
          try clear c18b1
          try clear c20
          try clear c22
          try clear c22b0
          try clear c22b1
          try clear c23
          try clear c23b0
          try clear c23b1
          try clear c25
          try clear c25b0
          try clear c25b1
          try clear c26
          try clear c26b0
          try clear c26b1
          try clear p27
          try clear q27
          try clear hx27
          try clear qi27
          try clear hcz21_0
          try clear hcz21_1
          try clear hcz21_2
          try clear hcz21_3
          try clear hcz5_0
          try clear hcz5_1
          try clear hcz5_2
          try clear hcz5_3
          try clear hfz21_0
          try clear hfz21_1
          try clear hfz21_2
          try clear hfz21_3
          try clear hfz5_0
          try clear hfz5_1
          try clear hfz5_2
          try clear hfz5_3
          try clear p2
          try clear p27
          try clear p6
          try clear q27
          obtain ⟨kq, x46_23, rfl, HA, HJ23, BK165, HB⟩ := hcut
          cases kq with
          | zero => exact absurd HA.out (by simp [fascineref12_first.j1])
          | succ kj23 =>
           have H := HA.out
           clear HA
           simp only [fascineref12_first.j1] at H
           by_cases c28 : x46_23 = true
           ·subst c28
            have H1 : (some ((⟨#[]⟩ : ByteArray), (⟨#[]⟩ : ByteArray), (⟨#[]⟩ : ByteArray), false, false)) = some (r1, r2, r3, r4, r5) := by rw [if_pos rfl] at H; exact H
            clear H
            have H := H1
            clear H1
            simp only [Option.some.injEq, Prod.mk.injEq] at H
            obtain ⟨rfl, rfl, rfl, rfl, rfl⟩ := H
            have hcz29_0 : wc.cell? ⟨gb165, 0, none⟩ = some (.string (⟨#[]⟩ : ByteArray)) := (blk_cell BK165.out 0).trans rfl
            have hcz29_1 : wc.cell? ⟨gb165, 1, none⟩ = some (.string (⟨#[]⟩ : ByteArray)) := (blk_cell BK165.out 1).trans rfl
            have hcz29_2 : wc.cell? ⟨gb165, 2, none⟩ = some (.string (⟨#[]⟩ : ByteArray)) := (blk_cell BK165.out 2).trans rfl
            have hcz29_3 : wc.cell? ⟨gb165, 3, none⟩ = some (.bool false) := (blk_cell BK165.out 3).trans rfl
            have hfz29_0 := blk_frozen BK165.out 0
            have hfz29_1 := blk_frozen BK165.out 1
            have hfz29_2 := blk_frozen BK165.out 2
            have hfz29_3 := blk_frozen BK165.out 3
            go_wp2
            refine bodyPost_ret (results_ct rfl _ _ gb165 24 #[.string (⟨#[]⟩ : ByteArray), .string (⟨#[]⟩ : ByteArray), .string (⟨#[]⟩ : ByteArray), .bool false] (0, 0) _ rfl (by (with_reducible repeat (first | refine blk_drewN ?_ _ | refine blk_drew ?_ | refine blk_alloc ?_ _)); refine blk_put (cs := #[.string (⟨#[]⟩ : ByteArray), .string (⟨#[]⟩ : ByteArray), .string (⟨#[]⟩ : ByteArray), .bool false]) ?_ 3 _ rfl; (with_reducible repeat (first | refine blk_drewN ?_ _ | refine blk_drew ?_ | refine blk_alloc ?_ _)); refine blk_put (cs := #[.string (⟨#[]⟩ : ByteArray), .string (⟨#[]⟩ : ByteArray), .string (⟨#[]⟩ : ByteArray), .bool false]) ?_ 2 _ rfl; (with_reducible repeat (first | refine blk_drewN ?_ _ | refine blk_drew ?_ | refine blk_alloc ?_ _)); refine blk_put (cs := #[.string (⟨#[]⟩ : ByteArray), .string (⟨#[]⟩ : ByteArray), .string (⟨#[]⟩ : ByteArray), .bool false]) ?_ 1 _ rfl; (with_reducible repeat (first | refine blk_drewN ?_ _ | refine blk_drew ?_ | refine blk_alloc ?_ _)); refine blk_put (cs := #[.string (⟨#[]⟩ : ByteArray), .string (⟨#[]⟩ : ByteArray), .string (⟨#[]⟩ : ByteArray), .bool false]) ?_ 0 _ rfl; (with_reducible repeat (first | refine blk_drewN ?_ _ | refine blk_drew ?_ | refine blk_alloc ?_ _)); exact BK165.out) Tryd.underlying24 rfl (by kernel_rfl)) rfl ?_
            exact ⟨by first | rfl | (simp [errW_none, errW_some] <;> rfl) | (simp only [← hji6]; first | rfl | (simp [errW_none, errW_some] <;> rfl)) | (simp [*, errW_none, errW_some] <;> rfl), by repeat (first | (with_reducible first | exact HB.out | apply below_alloc | apply pw_below_drewN | apply below_drew1 | refine below_set ?_ GE165.out) | exact HB.out)⟩
           ·replace c28 := Bool.eq_false_iff.mpr c28
            subst c28
            have H1 : (fascineref12_first.l0 kj23 a0 t166 ((a0.extract ((ji6) : Int).toNat a0.size).extract 0 (t167 : Int).toNat) 0) = some (r1, r2, r3, r4, r5) := by rw [if_neg (show ¬ (false = true) by decide)] at H; exact H
            clear H
            have H := H1
            clear H1
            have H' := Aside0.mk H
            clear H
            go_wp2
            go_loopg [8] kj23 (fun kq v8 w' => ∃ (x8_3 : Int) (x166000_3 : ByteArray) (x166001_3 : ByteArray) (x166002_3 : ByteArray) (x166003_3 : Bool), v8 = .int .i64 x8_3 ∧ Aside0 (fascineref12_first.l0 kq a0 t166 ((a0.extract ((ji6) : Int).toNat a0.size).extract 0 (t167 : Int).toNat) x8_3 = some (r1, r2, r3, r4, r5)) ∧ Aside0 (kq ≤ kj23) ∧ Aside0 (w'.heap[gb165]? = some (.cells #[.string x166000_3, .string x166001_3, .string x166002_3, .bool x166003_3] 24 (0, 0))) ∧ Aside0 (Below w.heap.size w w'))
            case atStart => exact ⟨(0), ((⟨#[]⟩ : ByteArray)), ((⟨#[]⟩ : ByteArray)), ((⟨#[]⟩ : ByteArray)), (false), (by first | rfl | (simp; done) | (simp [*]; done)), H', ⟨Nat.le_refl _⟩, ⟨by (with_reducible repeat (first | refine blk_drewN ?_ _ | refine blk_drew ?_ | refine blk_alloc ?_ _)); exact BK165.out⟩, ⟨by repeat (first | (with_reducible first | exact HB.out | apply below_alloc | apply pw_below_drewN | apply below_drew1 | refine below_set ?_ GE165.out) | exact HB.out)⟩⟩
            case round =>
             clear H'
             try clear c1
             try clear c2
             try clear p2
             try clear q2
             try clear hx2
             try clear qi2
             try clear c3
             try clear c3b0
             try clear p6
             try clear c7
             try clear c7b0
             try clear c7b1
             try clear c8
             try clear c8b0
             try clear c8b1
             try clear c12
             try clear c12b0
             try clear c14
             try clear c14b0
             try clear c14b1
             try clear c15
             try clear c15b0
             try clear c15b1
             try clear c16
             try clear c16b0
             try clear c16b1
             try clear c17
             try clear c17b0
             try clear c17b1
             try clear c18
             try clear c18b0
             try clear c18b1
             try clear c20
             try clear c22
             try clear c22b0
             try clear c22b1
             try clear c23
             try clear c23b0
             try clear c23b1
             try clear c25
             try clear c25b0
             try clear c25b1
             try clear c26
             try clear c26b0
             try clear c26b1
             try clear p27
             try clear q27
             try clear hx27
             try clear qi27
             try clear c28
             try clear hcz21_0
             try clear hcz21_1
             try clear hcz21_2
             try clear hcz21_3
             try clear hcz29_0
             try clear hcz29_1
             try clear hcz29_2
             try clear hcz29_3
             try clear hcz5_0
             try clear hcz5_1
             try clear hcz5_2
             try clear hcz5_3
             try clear hfz21_0
             try clear hfz21_1
             try clear hfz21_2
             try clear hfz21_3
             try clear hfz29_0
             try clear hfz29_1
             try clear hfz29_2
             try clear hfz29_3
             try clear hfz5_0
             try clear hfz5_1
             try clear hfz5_2
             try clear hfz5_3
             try clear p2
             try clear p27
             try clear p6
             try clear q2
             try clear q27
             obtain ⟨x8_3, x166000_3, x166001_3, x166002_3, x166003_3, rfl, HA, HK3, BK165, HB⟩ := hrel
             cases gk with
             | zero => exact absurd HA.out (by simp [fascineref12_first.l0])
             | succ k3 =>
              have H := HA.out
              clear HA
              simp only [fascineref12_first.l0] at H
              by_cases c30 : x8_3 < (((a0.extract ((ji6) : Int).toNat a0.size).extract 0 (t167 : Int).toNat).size : Int)
              ·rw [if_pos c30] at H
               have c30b0 : decide (x8_3 < (((a0.extract ((ji6) : Int).toNat a0.size).extract 0 (t167 : Int).toNat).size : Int)) = true := decide_eq_true c30
               (try (have c30b0z := c30b0; simp only [ByteArray.size_extract, Nat.min_self] at c30b0z)); (try (have c30b0y := c30b0; simp at c30b0y))
               clear c30
               by_cases c31 : 0 ≤ x8_3
               ·rw [if_pos c31] at H
                have c31b0 : decide (0 ≤ x8_3) = true := decide_eq_true c31
                (try (have c31b0z := c31b0; simp only [ByteArray.size_extract, Nat.min_self] at c31b0z)); (try (have c31b0y := c31b0; simp at c31b0y))
                clear c31
                by_cases c33 : (bt ((a0.extract ((ji6) : Int).toNat a0.size).extract 0 (t167 : Int).toNat) x8_3) < 33
                ·rw [if_pos c33] at H
                 have c33b0 : decide ((bt ((a0.extract ((ji6) : Int).toNat a0.size).extract 0 (t167 : Int).toNat) x8_3) < 33) = true := decide_eq_true c33
                 (try (have c33b0z := c33b0; simp only [ByteArray.size_extract, Nat.min_self] at c33b0z)); (try (have c33b0y := c33b0; simp at c33b0y))
                 clear c33
                 simp only [Option.some.injEq, Prod.mk.injEq] at H
                 obtain ⟨rfl, rfl, rfl, rfl, rfl⟩ := H
                 have p32 : 0 ≤ (x8_3 : Int) := of_decide_eq_true (by first | (with_reducible assumption) | assumption)
                 have q32 : x8_3 < (((a0.extract ((ji6) : Int).toNat a0.size).extract 0 (t167 : Int).toNat).size : Int) := of_decide_eq_true (by first | (with_reducible assumption) | assumption)
                 have hx32 := bt_at ((a0.extract ((ji6) : Int).toNat a0.size).extract 0 (t167 : Int).toNat) x8_3
                 replace p32 := eq_true p32
                 replace q32 := eq_true q32
                 (try (have q32z := q32; simp only [ByteArray.size_extract, Nat.min_self] at q32z)); (try (have q32y := q32; simp at q32y))
                 have hcz34_0 : wr.cell? ⟨gb165, 0, none⟩ = some (.string x166000_3) := (blk_cell BK165.out 0).trans rfl
                 have hcz34_1 : wr.cell? ⟨gb165, 1, none⟩ = some (.string x166001_3) := (blk_cell BK165.out 1).trans rfl
                 have hcz34_2 : wr.cell? ⟨gb165, 2, none⟩ = some (.string x166002_3) := (blk_cell BK165.out 2).trans rfl
                 have hcz34_3 : wr.cell? ⟨gb165, 3, none⟩ = some (.bool x166003_3) := (blk_cell BK165.out 3).trans rfl
                 have hfz34_0 := blk_frozen BK165.out 0
                 have hfz34_1 := blk_frozen BK165.out 1
                 have hfz34_2 := blk_frozen BK165.out 2
                 have hfz34_3 := blk_frozen BK165.out 3
                 go_wp2
                 refine bodyPost_ret (results_ct rfl _ _ gb165 24 #[.string (⟨#[]⟩ : ByteArray), .string (⟨#[]⟩ : ByteArray), .string (⟨#[]⟩ : ByteArray), .bool false] (0, 0) _ rfl (by (with_reducible repeat (first | refine blk_drewN ?_ _ | refine blk_drew ?_ | refine blk_alloc ?_ _)); refine blk_put (cs := #[.string (⟨#[]⟩ : ByteArray), .string (⟨#[]⟩ : ByteArray), .string (⟨#[]⟩ : ByteArray), .bool x166003_3]) ?_ 3 _ rfl; (with_reducible repeat (first | refine blk_drewN ?_ _ | refine blk_drew ?_ | refine blk_alloc ?_ _)); refine blk_put (cs := #[.string (⟨#[]⟩ : ByteArray), .string (⟨#[]⟩ : ByteArray), .string x166002_3, .bool x166003_3]) ?_ 2 _ rfl; (with_reducible repeat (first | refine blk_drewN ?_ _ | refine blk_drew ?_ | refine blk_alloc ?_ _)); refine blk_put (cs := #[.string (⟨#[]⟩ : ByteArray), .string x166001_3, .string x166002_3, .bool x166003_3]) ?_ 1 _ rfl; (with_reducible repeat (first | refine blk_drewN ?_ _ | refine blk_drew ?_ | refine blk_alloc ?_ _)); refine blk_put (cs := #[.string x166000_3, .string x166001_3, .string x166002_3, .bool x166003_3]) ?_ 0 _ rfl; (with_reducible repeat (first | refine blk_drewN ?_ _ | refine blk_drew ?_ | refine blk_alloc ?_ _)); exact BK165.out) Tryd.underlying24 rfl (by kernel_rfl)) rfl ?_
                 exact ⟨by first | rfl | (simp [errW_none, errW_some] <;> rfl) | (simp only [← hji6]; first | rfl | (simp [errW_none, errW_some] <;> rfl)) | (simp [*, errW_none, errW_some] <;> rfl), by repeat (first | (with_reducible first | exact HB.out | apply below_alloc | apply pw_below_drewN | apply below_drew1 | refine below_set ?_ GE165.out) | exact HB.out)⟩
                ·rw [if_neg c33] at H
                 have c33b0 : decide ((bt ((a0.extract ((ji6) : Int).toNat a0.size).extract 0 (t167 : Int).toNat) x8_3) < 33) = false := decide_eq_false c33
                 (try (have c33b0z := c33b0; simp only [ByteArray.size_extract, Nat.min_self] at c33b0z)); (try (have c33b0y := c33b0; simp at c33b0y))
                 clear c33
                 by_cases c36 : (bt ((a0.extract ((ji6) : Int).toNat a0.size).extract 0 (t167 : Int).toNat) x8_3) > 126
                 ·rw [if_pos c36] at H
                  have c36b0 : decide (126 < (bt ((a0.extract ((ji6) : Int).toNat a0.size).extract 0 (t167 : Int).toNat) x8_3)) = true := decide_eq_true c36
                  (try (have c36b0z := c36b0; simp only [ByteArray.size_extract, Nat.min_self] at c36b0z)); (try (have c36b0y := c36b0; simp at c36b0y))
                  clear c36
                  simp only [Option.some.injEq, Prod.mk.injEq] at H
                  obtain ⟨rfl, rfl, rfl, rfl, rfl⟩ := H
                  have p32 : 0 ≤ (x8_3 : Int) := of_decide_eq_true (by first | (with_reducible assumption) | assumption)
                  have q32 : x8_3 < (((a0.extract ((ji6) : Int).toNat a0.size).extract 0 (t167 : Int).toNat).size : Int) := of_decide_eq_true (by first | (with_reducible assumption) | assumption)
                  have hx32 := bt_at ((a0.extract ((ji6) : Int).toNat a0.size).extract 0 (t167 : Int).toNat) x8_3
                  replace p32 := eq_true p32
                  replace q32 := eq_true q32
                  (try (have q32z := q32; simp only [ByteArray.size_extract, Nat.min_self] at q32z)); (try (have q32y := q32; simp at q32y))
                  have p35 : 0 ≤ (x8_3 : Int) := of_decide_eq_true (by first | (with_reducible assumption) | assumption)
                  have q35 : x8_3 < (((a0.extract ((ji6) : Int).toNat a0.size).extract 0 (t167 : Int).toNat).size : Int) := of_decide_eq_true (by first | (with_reducible assumption) | assumption)
                  have hx35 := bt_at ((a0.extract ((ji6) : Int).toNat a0.size).extract 0 (t167 : Int).toNat) x8_3
                  replace p35 := eq_true p35
                  replace q35 := eq_true q35
                  (try (have q35z := q35; simp only [ByteArray.size_extract, Nat.min_self] at q35z)); (try (have q35y := q35; simp at q35y))
                  have hcz37_0 : wr.cell? ⟨gb165, 0, none⟩ = some (.string x166000_3) := (blk_cell BK165.out 0).trans rfl
                  have hcz37_1 : wr.cell? ⟨gb165, 1, none⟩ = some (.string x166001_3) := (blk_cell BK165.out 1).trans rfl
                  have hcz37_2 : wr.cell? ⟨gb165, 2, none⟩ = some (.string x166002_3) := (blk_cell BK165.out 2).trans rfl
                  have hcz37_3 : wr.cell? ⟨gb165, 3, none⟩ = some (.bool x166003_3) := (blk_cell BK165.out 3).trans rfl
                  have hfz37_0 := blk_frozen BK165.out 0
                  have hfz37_1 := blk_frozen BK165.out 1
                  have hfz37_2 := blk_frozen BK165.out 2
                  have hfz37_3 := blk_frozen BK165.out 3
                  go_wp2
                  refine bodyPost_ret (results_ct rfl _ _ gb165 24 #[.string (⟨#[]⟩ : ByteArray), .string (⟨#[]⟩ : ByteArray), .string (⟨#[]⟩ : ByteArray), .bool false] (0, 0) _ rfl (by (with_reducible repeat (first | refine blk_drewN ?_ _ | refine blk_drew ?_ | refine blk_alloc ?_ _)); refine blk_put (cs := #[.string (⟨#[]⟩ : ByteArray), .string (⟨#[]⟩ : ByteArray), .string (⟨#[]⟩ : ByteArray), .bool x166003_3]) ?_ 3 _ rfl; (with_reducible repeat (first | refine blk_drewN ?_ _ | refine blk_drew ?_ | refine blk_alloc ?_ _)); refine blk_put (cs := #[.string (⟨#[]⟩ : ByteArray), .string (⟨#[]⟩ : ByteArray), .string x166002_3, .bool x166003_3]) ?_ 2 _ rfl; (with_reducible repeat (first | refine blk_drewN ?_ _ | refine blk_drew ?_ | refine blk_alloc ?_ _)); refine blk_put (cs := #[.string (⟨#[]⟩ : ByteArray), .string x166001_3, .string x166002_3, .bool x166003_3]) ?_ 1 _ rfl; (with_reducible repeat (first | refine blk_drewN ?_ _ | refine blk_drew ?_ | refine blk_alloc ?_ _)); refine blk_put (cs := #[.string x166000_3, .string x166001_3, .string x166002_3, .bool x166003_3]) ?_ 0 _ rfl; (with_reducible repeat (first | refine blk_drewN ?_ _ | refine blk_drew ?_ | refine blk_alloc ?_ _)); exact BK165.out) Tryd.underlying24 rfl (by kernel_rfl)) rfl ?_
                  exact ⟨by first | rfl | (simp [errW_none, errW_some] <;> rfl) | (simp only [← hji6]; first | rfl | (simp [errW_none, errW_some] <;> rfl)) | (simp [*, errW_none, errW_some] <;> rfl), by repeat (first | (with_reducible first | exact HB.out | apply below_alloc | apply pw_below_drewN | apply below_drew1 | refine below_set ?_ GE165.out) | exact HB.out)⟩
                 ·rw [if_neg c36] at H
                  have c36b0 : decide (126 < (bt ((a0.extract ((ji6) : Int).toNat a0.size).extract 0 (t167 : Int).toNat) x8_3)) = false := decide_eq_false c36
                  (try (have c36b0z := c36b0; simp only [ByteArray.size_extract, Nat.min_self] at c36b0z)); (try (have c36b0y := c36b0; simp at c36b0y))
                  clear c36
                  have H' := Aside0.mk H
                  clear H
                  have p32 : 0 ≤ (x8_3 : Int) := of_decide_eq_true (by first | (with_reducible assumption) | assumption)
                  have q32 : x8_3 < (((a0.extract ((ji6) : Int).toNat a0.size).extract 0 (t167 : Int).toNat).size : Int) := of_decide_eq_true (by first | (with_reducible assumption) | assumption)
                  have hx32 := bt_at ((a0.extract ((ji6) : Int).toNat a0.size).extract 0 (t167 : Int).toNat) x8_3
                  replace p32 := eq_true p32
                  replace q32 := eq_true q32
                  (try (have q32z := q32; simp only [ByteArray.size_extract, Nat.min_self] at q32z)); (try (have q32y := q32; simp at q32y))
                  have p35 : 0 ≤ (x8_3 : Int) := of_decide_eq_true (by first | (with_reducible assumption) | assumption)
                  have q35 : x8_3 < (((a0.extract ((ji6) : Int).toNat a0.size).extract 0 (t167 : Int).toNat).size : Int) := of_decide_eq_true (by first | (with_reducible assumption) | assumption)
                  have hx35 := bt_at ((a0.extract ((ji6) : Int).toNat a0.size).extract 0 (t167 : Int).toNat) x8_3
                  replace p35 := eq_true p35
                  replace q35 := eq_true q35
                  (try (have q35z := q35; simp only [ByteArray.size_extract, Nat.min_self] at q35z)); (try (have q35y := q35; simp at q35y))
                  go_wp2
                  go_roundg k3
                  case measure => have := HJ9.out; have := HJ23.out; have := HK3.out; omega
                  case rel => exact ⟨(wrap64 (x8_3 + 1)), (x166000_3), (x166001_3), (x166002_3), (x166003_3), (by first | rfl | (simp; done) | (simp [*]; done)), H', ⟨by have := HJ9.out; have := HJ23.out; have := HK3.out; omega⟩, ⟨by (with_reducible repeat (first | refine blk_drewN ?_ _ | refine blk_drew ?_ | refine blk_alloc ?_ _)); exact BK165.out⟩, ⟨by repeat (first | (with_reducible first | exact HB.out | apply below_alloc | apply pw_below_drewN | apply below_drew1 | refine below_set ?_ GE165.out) | exact HB.out)⟩⟩
               ·rw [if_neg c31] at H
                exact absurd H (by simp)
              ·rw [if_neg c30] at H
               have c30b0 : decide (x8_3 < (((a0.extract ((ji6) : Int).toNat a0.size).extract 0 (t167 : Int).toNat).size : Int)) = false := decide_eq_false c30
               (try (have c30b0z := c30b0; simp only [ByteArray.size_extract, Nat.min_self] at c30b0z)); (try (have c30b0y := c30b0; simp at c30b0y))
               clear c30
               by_cases c38 : 0 ≤ t166
               ·rw [if_pos c38] at H
                have c38b0 := eq_true c38
                (try (have c38b0z := c38b0; simp only [ByteArray.size_extract, Nat.min_self] at c38b0z)); (try (have c38b0y := c38b0; simp at c38b0y))
                have c38b1 : decide (0 ≤ t166) = true := decide_eq_true c38
                (try (have c38b1z := c38b1; simp only [ByteArray.size_extract, Nat.min_self] at c38b1z)); (try (have c38b1y := c38b1; simp at c38b1y))
                clear c38
                by_cases c39 : t166 ≤ (a0.size : Int)
                ·rw [if_pos c39] at H
                 have c39b0 := eq_true c39
                 (try (have c39b0z := c39b0; simp only [ByteArray.size_extract, Nat.min_self] at c39b0z)); (try (have c39b0y := c39b0; simp at c39b0y))
                 have c39b1 : decide (t166 ≤ (a0.size : Int)) = true := decide_eq_true c39
                 (try (have c39b1z := c39b1; simp only [ByteArray.size_extract, Nat.min_self] at c39b1z)); (try (have c39b1y := c39b1; simp at c39b1y))
                 clear c39
                 simp only [Option.some.injEq, Prod.mk.injEq] at H
                 obtain ⟨rfl, rfl, rfl, rfl, rfl⟩ := H
                 have hcz40_0 : wr.cell? ⟨gb165, 0, none⟩ = some (.string x166000_3) := (blk_cell BK165.out 0).trans rfl
                 have hcz40_1 : wr.cell? ⟨gb165, 1, none⟩ = some (.string x166001_3) := (blk_cell BK165.out 1).trans rfl
                 have hcz40_2 : wr.cell? ⟨gb165, 2, none⟩ = some (.string x166002_3) := (blk_cell BK165.out 2).trans rfl
                 have hcz40_3 : wr.cell? ⟨gb165, 3, none⟩ = some (.bool x166003_3) := (blk_cell BK165.out 3).trans rfl
                 have hfz40_0 := blk_frozen BK165.out 0
                 have hfz40_1 := blk_frozen BK165.out 1
                 have hfz40_2 := blk_frozen BK165.out 2
                 have hfz40_3 := blk_frozen BK165.out 3
                 go_wp2
                 refine bodyPost_ret (results_ct rfl _ _ gb165 24 #[.string (a0.extract 0 (t166 : Int).toNat), .string ((a0.extract ((ji6) : Int).toNat a0.size).extract 0 (t167 : Int).toNat), .string (⟨#[]⟩ : ByteArray), .bool false] (0, 0) _ rfl (by (with_reducible repeat (first | refine blk_drewN ?_ _ | refine blk_drew ?_ | refine blk_alloc ?_ _)); refine blk_put (cs := #[.string (a0.extract 0 (t166 : Int).toNat), .string ((a0.extract ((ji6) : Int).toNat a0.size).extract 0 (t167 : Int).toNat), .string (⟨#[]⟩ : ByteArray), .bool x166003_3]) ?_ 3 _ rfl; (with_reducible repeat (first | refine blk_drewN ?_ _ | refine blk_drew ?_ | refine blk_alloc ?_ _)); refine blk_put (cs := #[.string (a0.extract 0 (t166 : Int).toNat), .string ((a0.extract ((ji6) : Int).toNat a0.size).extract 0 (t167 : Int).toNat), .string x166002_3, .bool x166003_3]) ?_ 2 _ rfl; (with_reducible repeat (first | refine blk_drewN ?_ _ | refine blk_drew ?_ | refine blk_alloc ?_ _)); refine blk_put (cs := #[.string (a0.extract 0 (t166 : Int).toNat), .string x166001_3, .string x166002_3, .bool x166003_3]) ?_ 1 _ rfl; (with_reducible repeat (first | refine blk_drewN ?_ _ | refine blk_drew ?_ | refine blk_alloc ?_ _)); refine blk_put (cs := #[.string x166000_3, .string x166001_3, .string x166002_3, .bool x166003_3]) ?_ 0 _ rfl; (with_reducible repeat (first | refine blk_drewN ?_ _ | refine blk_drew ?_ | refine blk_alloc ?_ _)); exact BK165.out) Tryd.underlying24 rfl (by kernel_rfl)) rfl ?_
                 exact ⟨by first | rfl | (simp [errW_none, errW_some] <;> rfl) | (simp only [← hji6]; first | rfl | (simp [errW_none, errW_some] <;> rfl)) | (simp [*, errW_none, errW_some] <;> rfl), by repeat (first | (with_reducible first | exact HB.out | apply below_alloc | apply pw_below_drewN | apply below_drew1 | refine below_set ?_ GE165.out) | exact HB.out)⟩
                ·rw [if_neg c39] at H
                 exact absurd H (by simp)
               ·rw [if_neg c38] at H
                exact absurd H (by simp)
        ·rw [if_neg c23] at H
         exact absurd H (by simp)
       ·rw [if_neg c22] at H
        exact absurd H (by simp)
   ·rw [if_neg c8] at H
    exact absurd H (by simp)
  ·rw [if_neg c7] at H
   exact absurd H (by simp)

end Go.Proofs.YtpigloohccpfiaaDoor.PHttpReads
-- EXTRACTS
