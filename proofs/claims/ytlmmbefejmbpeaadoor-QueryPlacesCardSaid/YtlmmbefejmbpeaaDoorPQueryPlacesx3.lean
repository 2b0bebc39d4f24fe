-- WRITTEN BY A PROGRAM OF THIS SESSION (wip/patch_print.py: the kit's printer with rules of this session's own); Lean checks it.
import Derived.Test.YtlmmbefejmbpeaaDoorPQueryPlacesx0
import Derived.Test.YtlmmbefejmbpeaaDoorPQueryPlacesx1
import Derived.Test.YtlmmbefejmbpeaaDoorPQueryPlacesx2
namespace Go.Proofs.YtlmmbefejmbpeaaDoor.PQueryPlaces
open Go.RowKit Go.Proofs.YtlmmbefejmbpeaaDoorW.PrintWords Go.Proofs.YtlmmbefejmbpeaaDoorW.PrintLast Go.Proofs.YtlmmbefejmbpeaaDoorW.PrintMore Go.Proofs.YtlmmbefejmbpeaaDoor.PQry0 Go.Proofs.YtlmmbefejmbpeaaDoor.G  
attribute [local go_sem] max2_int min2_int max_two min_two max_three min_three max_four min_four   -- for this text's walks alone
set_option linter.unusedVariables false
set_option linter.unusedSimpArgs false

/-! ### fascinelaw06_QueryPlaces: function 4 -/
mutual
def fascinelaw06_QueryPlaces.j0 : Nat → ByteArray → Bool → Option (Bool)
  | 0, _, _ => none
  | k + 1, x0, x15 => if x15 = true then ((fascinelaw06_awake.f).bind fun t120 => (some t120)) else ((query_Parse.f x0).bind fun bt121 => (if 2 + x0.size ≤ 9223372036854775807 then (if 2 + x0.size + 1 ≤ 9223372036854775807 then ((query_Parse.f (((⟨#[32, 32]⟩ : ByteArray) ++ x0) ++ (⟨#[32]⟩ : ByteArray))).bind fun bt130 => (if bt121.2.2.2.2.2 = bt130.2.2.2.2.2 then ((fascineref06_Same.f k bt130.1 bt130.2.1 bt130.2.2.1 bt130.2.2.2.1 bt121.1 bt121.2.1 bt121.2.2.1 bt121.2.2.2.1).bind fun t139 => (fascinelaw06_QueryPlaces.j1 k x0 bt121.2.2.2.2.1 bt121.2.2.2.2.2 bt130.2.2.2.2.1 (!t139))) else (fascinelaw06_QueryPlaces.j1 k x0 bt121.2.2.2.2.1 bt121.2.2.2.2.2 bt130.2.2.2.2.1 true))) else (none)) else (none)))
def fascinelaw06_QueryPlaces.j1 : Nat → ByteArray → Int → Int → Int → Bool → Option (Bool)
  | 0, _, _, _, _, _ => none
  | k + 1, x0, x4, x5, x7, x39 => if x39 = true then (some false) else (if x5 = 0 then (if x4 = 0 then (some (x7 == 0)) else (some false)) else (if x4 ≥ 0 then (if x4 ≤ (x0.size : Int) then (if x7 = (wrap64 (x4 + 2)) then (some true) else (if x4 = (x0.size : Int) then (some (x7 == (wrap64 (x4 + 3)))) else (some false))) else (some false)) else (some false)))
end
def fascinelaw06_QueryPlaces.f (k : Nat) (a0 : ByteArray) : Option (Bool) := (fascinelaw06_awake.f).bind fun t119 => (if t119 = true then (fascinelaw06_QueryPlaces.j0 k a0 (decide ((a0.size : Int) > 500))) else (fascinelaw06_QueryPlaces.j0 k a0 true))
theorem fascinelaw06_QueryPlaces.mono_l : ∀ k, (∀ y0 y1, LeO (fascinelaw06_QueryPlaces.j0 k y0 y1) (fascinelaw06_QueryPlaces.j0 (k + 1) y0 y1)) ∧ (∀ y0 y1 y2 y3 y4, LeO (fascinelaw06_QueryPlaces.j1 k y0 y1 y2 y3 y4) (fascinelaw06_QueryPlaces.j1 (k + 1) y0 y1 y2 y3 y4))
  | 0 => ⟨fun _ _ r h => by simp [fascinelaw06_QueryPlaces.j0] at h, fun _ _ _ _ _ r h => by simp [fascinelaw06_QueryPlaces.j1] at h⟩
  | k + 1 => by
    obtain ⟨ih0, ih1⟩ := fascinelaw06_QueryPlaces.mono_l k
    refine ⟨?_, ?_⟩
    · intro y0 y1
      unfold fascinelaw06_QueryPlaces.j0
      repeat' first
      | (with_reducible exact ih0 _ _)
      | (with_reducible exact ih1 _ _ _ _ _)
      | (with_reducible exact fascineref06_Same.mono _ _ _ _ _ _ _ _ _)
      | (with_reducible exact LeO.refl _)
      | (with_reducible exact LeO.none _)
      | (with_reducible refine LeO.ite ?_ ?_)
      | (with_reducible refine LeO.bind ?_ (fun _ => ?_))
      | exact ih0 _ _
      | exact ih1 _ _ _ _ _
      | exact fascineref06_Same.mono _ _ _ _ _ _ _ _ _
      | exact LeO.none _
      | refine LeO.ite ?_ ?_
      | refine LeO.bind ?_ (fun _ => ?_)
    · intro y0 y1 y2 y3 y4
      unfold fascinelaw06_QueryPlaces.j1
      repeat' first
      | (with_reducible exact ih0 _ _)
      | (with_reducible exact ih1 _ _ _ _ _)
      | (with_reducible exact fascineref06_Same.mono _ _ _ _ _ _ _ _ _)
      | (with_reducible exact LeO.refl _)
      | (with_reducible exact LeO.none _)
      | (with_reducible refine LeO.ite ?_ ?_)
      | (with_reducible refine LeO.bind ?_ (fun _ => ?_))
      | exact ih0 _ _
      | exact ih1 _ _ _ _ _
      | exact fascineref06_Same.mono _ _ _ _ _ _ _ _ _
      | exact LeO.none _
      | refine LeO.ite ?_ ?_
      | refine LeO.bind ?_ (fun _ => ?_)
theorem fascinelaw06_QueryPlaces.mono : ∀ a0 k, LeO (fascinelaw06_QueryPlaces.f k a0) (fascinelaw06_QueryPlaces.f (k + 1) a0) := by
  intro a0 k
  obtain ⟨ih0, ih1⟩ := fascinelaw06_QueryPlaces.mono_l k
  unfold fascinelaw06_QueryPlaces.f
  repeat' first
      | (with_reducible exact ih0 _ _)
      | (with_reducible exact ih1 _ _ _ _ _)
      | (with_reducible exact fascineref06_Same.mono _ _ _ _ _ _ _ _ _)
      | (with_reducible exact LeO.refl _)
      | (with_reducible exact LeO.none _)
      | (with_reducible refine LeO.ite ?_ ?_)
      | (with_reducible refine LeO.bind ?_ (fun _ => ?_))
      | exact ih0 _ _
      | exact ih1 _ _ _ _ _
      | exact fascineref06_Same.mono _ _ _ _ _ _ _ _ _
      | exact LeO.none _
      | refine LeO.ite ?_ ?_
      | refine LeO.bind ?_ (fun _ => ?_)
set_option maxHeartbeats 8000000 in
set_option maxRecDepth 100000 in
theorem fascinelaw06_QueryPlaces.calls (k : Nat) (a0 : ByteArray) (r : Bool) (w : World) (hT : tabs w) (h : fascinelaw06_QueryPlaces.f k a0 = some r) (hr_ : r = true) :
    Calls Tryd.prog 4 #[.string a0] w fun e w' => e = .returned (.bool r) ∧ Below w.heap.size w w' := by
  have HR_ := Aside0.mk hr_
  clear hr_
  have hu25 := Tryd.underlying25
  have HT := Aside0.mk hT
  clear hT
  have HB := Aside0.mk (Below.refl w.heap.size w)
  have H : ((fascinelaw06_awake.f).bind fun t119 => (if t119 = true then (fascinelaw06_QueryPlaces.j0 k a0 (decide ((a0.size : Int) > 500))) else (fascinelaw06_QueryPlaces.j0 k a0 true))) = some r := h
  clear h
  have HC2 := Aside0.mk H
  clear H
  go_enter Tryd.func4, Tryd.ntmps4
  go_upto_region 1 with (fail)
  go_cut [15] (fun v15 wc => ∃ (kq : Nat) (x15_1 : Bool), v15 = .bool x15_1 ∧ Aside0 (fascinelaw06_QueryPlaces.j0 kq a0 x15_1 = some r) ∧ Aside0 (kq ≤ k) ∧ Aside0 (Below w.heap.size w wc))
  case first =>
    have H := HC2.out
    clear HC2
    replace H := Option.bind_eq_some_iff.mp H
    obtain ⟨t119, A30, H⟩ := H
    replace H : (if t119 = true then (fascinelaw06_QueryPlaces.j0 k a0 (decide ((a0.size : Int) > 500))) else (fascinelaw06_QueryPlaces.j0 k a0 true)) = some r := H
    have A3 := Aside0.mk A30
    clear A30
    by_cases c4 : t119 = true
    · subst c4
      have H1 : (fascinelaw06_QueryPlaces.j0 k a0 (decide ((a0.size : Int) > 500))) = some r := by rw [if_pos rfl] at H; exact H
      clear H
      have H := H1
      clear H1
      have H' := Aside0.mk H
      clear H
      go_wp2_with (first | ((with_reducible refine gate_callee (f := 8) rfl ?_); refine goesL_ (some 9) rfl rfl Tryd.func8 (by kernel_rfl) rfl #[] rfl (by (try simp only [List.map_toArray, List.map_cons, List.map_nil]); first | done | rfl | (simp only [List.length_drop, List.length_take]; rfl)) ?_; (with_reducible refine (fascinelaw06_awake.calls  true _ ?side1 A3.out).mono ?_); (case side1 => first | exact HT.out | exact tabs_below HT.out (by repeat (first | (with_reducible first | exact HB.out | apply below_alloc | apply pw_below_drewN | apply below_drew1) | exact HB.out))); rintro e w5 ⟨rfl, hb⟩; refine ⟨_, rfl, ?_⟩; have n0_ := Aside0.mk (below_step (by repeat (first | (with_reducible first | exact HB.out | apply below_alloc | apply pw_below_drewN | apply below_drew1) | exact HB.out)) hb); clear HB; have HB := n0_; clear n0_; (try clear hb); (try clear hb2); (try clear hk); (try clear hi)))
      go_meet
      case rel => exact ⟨_, (decide ((a0.size : Int) > 500)), (by first | rfl | (simp; done) | (simp [*]; done)), H', ⟨by first | omega | exact Nat.le_refl _⟩, ⟨by repeat (first | (with_reducible first | exact HB.out | apply below_alloc | apply pw_below_drewN | apply below_drew1) | exact HB.out)⟩⟩
    · replace c4 := Bool.eq_false_iff.mpr c4
      subst c4
      have H1 : (fascinelaw06_QueryPlaces.j0 k a0 true) = some r := by rw [if_neg (show ¬ (false = true) by decide)] at H; exact H
      clear H
      have H := H1
      clear H1
      have H' := Aside0.mk H
      clear H
      go_wp2_with (first | ((with_reducible refine gate_callee (f := 8) rfl ?_); refine goesL_ (some 9) rfl rfl Tryd.func8 (by kernel_rfl) rfl #[] rfl (by (try simp only [List.map_toArray, List.map_cons, List.map_nil]); first | done | rfl | (simp only [List.length_drop, List.length_take]; rfl)) ?_; (with_reducible refine (fascinelaw06_awake.calls  false _ ?side1 A3.out).mono ?_); (case side1 => first | exact HT.out | exact tabs_below HT.out (by repeat (first | (with_reducible first | exact HB.out | apply below_alloc | apply pw_below_drewN | apply below_drew1) | exact HB.out))); rintro e w6 ⟨rfl, hb⟩; refine ⟨_, rfl, ?_⟩; have n0_ := Aside0.mk (below_step (by repeat (first | (with_reducible first | exact HB.out | apply below_alloc | apply pw_below_drewN | apply below_drew1) | exact HB.out)) hb); clear HB; have HB := n0_; clear n0_; (try clear hb); (try clear hb2); (try clear hk); (try clear hi)))
      go_meet
      case rel => exact ⟨_, (true), (by first | rfl | (simp; done) | (simp [*]; done)), H', ⟨by first | omega | exact Nat.le_refl _⟩, ⟨by repeat (first | (with_reducible first | exact HB.out | apply below_alloc | apply pw_below_drewN | apply below_drew1) | exact HB.out)⟩⟩
  case rest =>
    clear HC2
    try clear p2
    try clear c4
    obtain ⟨kq, x15_1, rfl, HA, HJ1, HB⟩ := hcut
    cases kq with
    | zero => exact absurd HA.out (by simp [fascinelaw06_QueryPlaces.j0])
    | succ kj1 =>
      have H := HA.out
      clear HA
      simp only [fascinelaw06_QueryPlaces.j0] at H
      by_cases c7 : x15_1 = true
      · subst c7
        have H1 : ((fascinelaw06_awake.f).bind fun t120 => (some t120)) = some r := by rw [if_pos rfl] at H; exact H
        clear H
        have H := H1
        clear H1
        replace H := Option.bind_eq_some_iff.mp H
        obtain ⟨t120, A80, H⟩ := H
        replace H : (some t120) = some r := H
        have A8 := Aside0.mk A80
        clear A80
        obtain rfl := Option.some.inj H
        go_wp2_with (first | ((with_reducible refine gate_callee (f := 8) rfl ?_); refine goesL_ (some 16) rfl rfl Tryd.func8 (by kernel_rfl) rfl #[] rfl (by (try simp only [List.map_toArray, List.map_cons, List.map_nil]); first | done | rfl | (simp only [List.length_drop, List.length_take]; rfl)) ?_; (with_reducible refine (fascinelaw06_awake.calls  t120 _ ?side1 A8.out).mono ?_); (case side1 => first | exact HT.out | exact tabs_below HT.out (by repeat (first | (with_reducible first | exact HB.out | apply below_alloc | apply pw_below_drewN | apply below_drew1) | exact HB.out))); rintro e w9 ⟨rfl, hb⟩; refine ⟨_, rfl, ?_⟩; have n0_ := Aside0.mk (below_step (by repeat (first | (with_reducible first | exact HB.out | apply below_alloc | apply pw_below_drewN | apply below_drew1) | exact HB.out)) hb); clear HB; have HB := n0_; clear n0_; (try clear hb); (try clear hb2); (try clear hk); (try clear hi)))
        go_ret
        exact ⟨by first | rfl | (simp [errW_none, errW_some] <;> rfl) | (simp [*, errW_none, errW_some] <;> rfl), by repeat (first | (with_reducible first | exact HB.out | apply below_alloc | apply pw_below_drewN | apply below_drew1) | exact HB.out)⟩
      · replace c7 := Bool.eq_false_iff.mpr c7
        subst c7
        have H1 : ((query_Parse.f a0).bind fun bt121 => (if 2 + a0.size ≤ 9223372036854775807 then (if 2 + a0.size + 1 ≤ 9223372036854775807 then ((query_Parse.f (((⟨#[32, 32]⟩ : ByteArray) ++ a0) ++ (⟨#[32]⟩ : ByteArray))).bind fun bt130 => (if bt121.2.2.2.2.2 = bt130.2.2.2.2.2 then ((fascineref06_Same.f kj1 bt130.1 bt130.2.1 bt130.2.2.1 bt130.2.2.2.1 bt121.1 bt121.2.1 bt121.2.2.1 bt121.2.2.2.1).bind fun t139 => (fascinelaw06_QueryPlaces.j1 kj1 a0 bt121.2.2.2.2.1 bt121.2.2.2.2.2 bt130.2.2.2.2.1 (!t139))) else (fascinelaw06_QueryPlaces.j1 kj1 a0 bt121.2.2.2.2.1 bt121.2.2.2.2.2 bt130.2.2.2.2.1 true))) else (none)) else (none))) = some r := by rw [if_neg (show ¬ (false = true) by decide)] at H; exact H
        clear H
        have H := H1
        clear H1
        replace H := Option.bind_eq_some_iff.mp H
        obtain ⟨⟨t121, t122, t123, t124, t127, t128⟩, A100, H⟩ := H
        replace H : (if 2 + a0.size ≤ 9223372036854775807 then (if 2 + a0.size + 1 ≤ 9223372036854775807 then ((query_Parse.f (((⟨#[32, 32]⟩ : ByteArray) ++ a0) ++ (⟨#[32]⟩ : ByteArray))).bind fun bt130 => (if t128 = bt130.2.2.2.2.2 then ((fascineref06_Same.f kj1 bt130.1 bt130.2.1 bt130.2.2.1 bt130.2.2.2.1 t121 t122 t123 t124).bind fun t139 => (fascinelaw06_QueryPlaces.j1 kj1 a0 t127 t128 bt130.2.2.2.2.1 (!t139))) else (fascinelaw06_QueryPlaces.j1 kj1 a0 t127 t128 bt130.2.2.2.2.1 true))) else (none)) else (none)) = some r := H
        have A10 := Aside0.mk A100
        clear A100
        by_cases c11 : 2 + a0.size ≤ 9223372036854775807
        · rw [if_pos c11] at H
          have c11b0 := eq_true c11
          have c11b1 : decide (2 + a0.size ≤ 9223372036854775807) = true := decide_eq_true c11
          try have c11b2 : (9223372036854775807 < 2 + a0.size) = False := eq_false (Nat.not_lt.2 c11)
          by_cases c12 : 2 + a0.size + 1 ≤ 9223372036854775807
          · rw [if_pos c12] at H
            have c12b0 := eq_true c12
            have c12b1 : decide (2 + a0.size + 1 ≤ 9223372036854775807) = true := decide_eq_true c12
            try have c12b2 : (9223372036854775807 < 2 + a0.size + 1) = False := eq_false (Nat.not_lt.2 c12)
            replace H := Option.bind_eq_some_iff.mp H
            obtain ⟨⟨t130, t131, t132, t133, t136, t137⟩, A130, H⟩ := H
            replace H : (if t128 = t137 then ((fascineref06_Same.f kj1 t130 t131 t132 t133 t121 t122 t123 t124).bind fun t139 => (fascinelaw06_QueryPlaces.j1 kj1 a0 t127 t128 t136 (!t139))) else (fascinelaw06_QueryPlaces.j1 kj1 a0 t127 t128 t136 true)) = some r := H
            have A13 := Aside0.mk A130
            clear A130
            have HC14 := Aside0.mk H
            clear H
            go_upto_region 5 with (first | ((with_reducible refine gate_callee (f := 9) rfl ?_); refine goesL_ (some 19) rfl rfl Tryd.func9 (by kernel_rfl) rfl #[.string a0] rfl (by (try simp only [List.map_toArray, List.map_cons, List.map_nil]); first | done | rfl | (simp only [List.length_drop, List.length_take]; rfl)) ?_; (with_reducible refine (query_Parse.calls a0 t121 t122 t123 t124 t127 t128 _ ?side1 A10.out).mono ?_); (case side1 => first | exact HT.out | exact tabs_below HT.out (by repeat (first | (with_reducible first | exact HB.out | apply below_alloc | apply pw_below_drewN | apply below_drew1) | exact HB.out))); rintro e w15 ⟨v125, rfl, ho0, hb⟩; refine ⟨_, rfl, ?_⟩; have n0_ := Aside0.mk (Kd.V_lower (Kd.V_mono (ok' := fun k_ => True) ho0 (fun k_ hk_ => trivial)) (below_size (by repeat (first | (with_reducible first | exact HB.out | apply below_alloc | apply pw_below_drewN | apply below_drew1) | exact HB.out)))); have n1_ := Aside0.mk (below_step (by repeat (first | (with_reducible first | exact HB.out | apply below_alloc | apply pw_below_drewN | apply below_drew1) | exact HB.out)) hb); clear HB; have HO126 := n0_; have HB := n1_; clear n0_ n1_; (try clear hb); (try clear hb2); (try clear hk); (try clear hi); (try clear ho0)) | ((with_reducible refine gate_dst (N := 3) rfl ?_); (try (refine gate_guard (by rfl) ?_; dsimp only)); refine box_event ?hg (N := 3) ?hd (cs := #[.int .u8 0, .string (⟨#[]⟩ : ByteArray), .int .i64 0, .slice none 0 0]) (t := 25) ?hr ?_; (case hd => rfl); (case hg => rfl); (case hr => first | (go_simp; done) | (go_simp; rfl)); intro gb129 hg w16 hbox hb; have n0_ := Aside0.mk (Kd.V_below (Kd.V_elderB (by (with_reducible repeat (first | apply Kd.V_alloc | apply Kd.V_drewN | apply Kd.V_drew)); exact HO126.out) gb129 (Nat.le_of_eq hg.symm)) hb); have n1_ := Aside0.mk (below_step (by repeat (first | (with_reducible first | exact HB.out | apply below_alloc | apply pw_below_drewN | apply below_drew1) | exact HB.out)) hb); have n2_ := Aside0.mk (hbox); have n3_ := Aside0.mk ((by rw [hg]; exact (below_size (by repeat (first | (with_reducible first | exact HB.out | apply below_alloc | apply pw_below_drewN | apply below_drew1) | exact HB.out))) : w.heap.size ≤ gb129)); have n4_ := Aside0.mk ((by rw [hg]; exact (below_size (by repeat (first | (with_reducible first | exact HB.out | apply below_alloc | apply pw_below_drewN | apply below_drew1) | exact HB.out))) : w.heap.size ≤ gb129)); clear HO126; clear HB; have HO126 := n0_; have HB := n1_; have BK129 := n2_; have GW129 := n3_; have GE129 := n4_; clear n0_ n1_ n2_ n3_ n4_; clear hb hbox hg; have hcz17_0 : w16.cell? ⟨gb129, 0, none⟩ = some (.int .u8 0) := (blk_cell BK129.out 0).trans rfl; have hcz17_1 : w16.cell? ⟨gb129, 1, none⟩ = some (.string (⟨#[]⟩ : ByteArray)) := (blk_cell BK129.out 1).trans rfl; have hcz17_2 : w16.cell? ⟨gb129, 2, none⟩ = some (.int .i64 0) := (blk_cell BK129.out 2).trans rfl; have hcz17_3 : w16.cell? ⟨gb129, 3, none⟩ = some (.slice none 0 0) := (blk_cell BK129.out 3).trans rfl; have hfz17_0 := blk_frozen BK129.out 0; have hfz17_1 := blk_frozen BK129.out 1; have hfz17_2 := blk_frozen BK129.out 2; have hfz17_3 := blk_frozen BK129.out 3; obtain ⟨Ao18, co18, eo18⟩ := Kd.V_slice HO126.out; subst eo18) | ((with_reducible refine gate_callee (f := 9) rfl ?_); refine goesL_ (some 27) rfl rfl Tryd.func9 (by kernel_rfl) rfl #[.string (((⟨#[32, 32]⟩ : ByteArray) ++ a0) ++ (⟨#[32]⟩ : ByteArray))] rfl (by (try simp only [List.map_toArray, List.map_cons, List.map_nil]); first | done | rfl | (simp only [List.length_drop, List.length_take]; rfl)) ?_; (with_reducible refine (query_Parse.calls (((⟨#[32, 32]⟩ : ByteArray) ++ a0) ++ (⟨#[32]⟩ : ByteArray)) t130 t131 t132 t133 t136 t137 _ ?side1 A13.out).mono ?_); (case side1 => first | exact HT.out | exact tabs_below HT.out (by repeat (first | (with_reducible first | exact HB.out | apply below_alloc | apply pw_below_drewN | apply below_drew1 | refine below_set ?_ GE129.out) | exact HB.out))); rintro e w19 ⟨v134, rfl, ho0, hb⟩; refine ⟨_, rfl, ?_⟩; have n0_ := Aside0.mk (Kd.V_below (by (with_reducible repeat (first | apply Kd.V_alloc | apply Kd.V_drewN | apply Kd.V_drew)); exact (Kd.V_mono (Kd.V_far (p := ⟨gb129, 3, none⟩) (Kd.V_far (p := ⟨gb129, 2, none⟩) (Kd.V_far (p := ⟨gb129, 1, none⟩) (Kd.V_far (p := ⟨gb129, 0, none⟩) (Kd.V_mono HO126.out (fun k_ hk => (⟨hk, hk.2⟩ : _ ∧ k_ ≠ gb129))) (fun _ hk => hk.2) (.int .u8 t121)) (fun _ hk => hk.2) (.string t122)) (fun _ hk => hk.2) (.int .i64 t123)) (fun _ hk => hk.2) (.slice Ao18 t124.length co18)) (fun _ h_ => h_.1))) hb); have n1_ := Aside0.mk (Kd.V_lower (Kd.V_mono (ok' := fun k_ => k_ ≠ gb129) ho0 (fun k_ hk_ => (Kd.freshB (g := gb129) (o := .cells #[.int .u8 t121, .string t122, .int .i64 t123, .slice Ao18 t124.length co18] 25 (0, 0)) (by (with_reducible repeat (first | refine blk_drewN ?_ _ | refine blk_drew ?_ | refine blk_alloc ?_ _)); refine blk_put (cs := #[.int .u8 t121, .string t122, .int .i64 t123, .slice none 0 0]) ?_ 3 _ rfl; (with_reducible repeat (first | refine blk_drewN ?_ _ | refine blk_drew ?_ | refine blk_alloc ?_ _)); refine blk_put (cs := #[.int .u8 t121, .string t122, .int .i64 0, .slice none 0 0]) ?_ 2 _ rfl; (with_reducible repeat (first | refine blk_drewN ?_ _ | refine blk_drew ?_ | refine blk_alloc ?_ _)); refine blk_put (cs := #[.int .u8 t121, .string (⟨#[]⟩ : ByteArray), .int .i64 0, .slice none 0 0]) ?_ 1 _ rfl; (with_reducible repeat (first | refine blk_drewN ?_ _ | refine blk_drew ?_ | refine blk_alloc ?_ _)); refine blk_put (cs := #[.int .u8 0, .string (⟨#[]⟩ : ByteArray), .int .i64 0, .slice none 0 0]) ?_ 0 _ rfl; (with_reducible repeat (first | refine blk_drewN ?_ _ | refine blk_drew ?_ | refine blk_alloc ?_ _)); exact BK129.out) k_ hk_))) (below_size (by repeat (first | (with_reducible first | exact HB.out | apply below_alloc | apply pw_below_drewN | apply below_drew1 | refine below_set ?_ GE129.out) | exact HB.out)))); have n2_ := Aside0.mk (blk_below (g := gb129) (o := .cells #[.int .u8 t121, .string t122, .int .i64 t123, .slice Ao18 t124.length co18] 25 (0, 0)) (by (with_reducible repeat (first | refine blk_drewN ?_ _ | refine blk_drew ?_ | refine blk_alloc ?_ _)); refine blk_put (cs := #[.int .u8 t121, .string t122, .int .i64 t123, .slice none 0 0]) ?_ 3 _ rfl; (with_reducible repeat (first | refine blk_drewN ?_ _ | refine blk_drew ?_ | refine blk_alloc ?_ _)); refine blk_put (cs := #[.int .u8 t121, .string t122, .int .i64 0, .slice none 0 0]) ?_ 2 _ rfl; (with_reducible repeat (first | refine blk_drewN ?_ _ | refine blk_drew ?_ | refine blk_alloc ?_ _)); refine blk_put (cs := #[.int .u8 t121, .string (⟨#[]⟩ : ByteArray), .int .i64 0, .slice none 0 0]) ?_ 1 _ rfl; (with_reducible repeat (first | refine blk_drewN ?_ _ | refine blk_drew ?_ | refine blk_alloc ?_ _)); refine blk_put (cs := #[.int .u8 0, .string (⟨#[]⟩ : ByteArray), .int .i64 0, .slice none 0 0]) ?_ 0 _ rfl; (with_reducible repeat (first | refine blk_drewN ?_ _ | refine blk_drew ?_ | refine blk_alloc ?_ _)); exact BK129.out) hb); have n3_ := Aside0.mk (below_step (by repeat (first | (with_reducible first | exact HB.out | apply below_alloc | apply pw_below_drewN | apply below_drew1 | refine below_set ?_ GE129.out) | exact HB.out)) hb); clear HO126; clear BK129; clear HB; have HO126 := n0_; have HO135 := n1_; have BK129 := n2_; have HB := n3_; clear n0_ n1_ n2_ n3_; (try clear hb); (try clear hb2); (try clear hk); (try clear hi); (try clear ho0)) | ((with_reducible refine gate_dst (N := 6) rfl ?_); (try (refine gate_guard (by rfl) ?_; dsimp only)); refine box_event ?hg (N := 6) ?hd (cs := #[.int .u8 0, .string (⟨#[]⟩ : ByteArray), .int .i64 0, .slice none 0 0]) (t := 25) ?hr ?_; (case hd => rfl); (case hg => rfl); (case hr => first | (go_simp; done) | (go_simp; rfl)); intro gb138 hg w20 hbox hb; have n0_ := Aside0.mk (Kd.V_below (Kd.V_elderB (by (with_reducible repeat (first | apply Kd.V_alloc | apply Kd.V_drewN | apply Kd.V_drew)); exact HO126.out) gb138 (Nat.le_of_eq hg.symm)) hb); have n1_ := Aside0.mk (Kd.V_below (Kd.V_elderB (by (with_reducible repeat (first | apply Kd.V_alloc | apply Kd.V_drewN | apply Kd.V_drew)); exact HO135.out) gb138 (Nat.le_of_eq hg.symm)) hb); have n2_ := Aside0.mk (blk_below (g := gb129) (o := .cells #[.int .u8 t121, .string t122, .int .i64 t123, .slice Ao18 t124.length co18] 25 (0, 0)) (by (with_reducible repeat (first | refine blk_drewN ?_ _ | refine blk_drew ?_ | refine blk_alloc ?_ _)); exact BK129.out) hb); have n3_ := Aside0.mk (below_step (by repeat (first | (with_reducible first | exact HB.out | apply below_alloc | apply pw_below_drewN | apply below_drew1 | refine below_set ?_ GE129.out) | exact HB.out)) hb); have n4_ := Aside0.mk (hbox); have n5_ := Aside0.mk ((by rw [hg]; exact (below_size (by repeat (first | (with_reducible first | exact HB.out | apply below_alloc | apply pw_below_drewN | apply below_drew1 | refine below_set ?_ GE129.out) | exact HB.out))) : w.heap.size ≤ gb138)); have n6_ := Aside0.mk ((by rw [hg]; exact (below_size (by repeat (first | (with_reducible first | exact HB.out | apply below_alloc | apply pw_below_drewN | apply below_drew1 | refine below_set ?_ GE129.out) | exact HB.out))) : w.heap.size ≤ gb138)); have n7_ := Aside0.mk ((by rw [hg]; exact Nat.ne_of_lt (blk_lt (g := gb129) (o := .cells #[.int .u8 t121, .string t122, .int .i64 t123, .slice Ao18 t124.length co18] 25 (0, 0)) (by (with_reducible repeat (first | refine blk_drewN ?_ _ | refine blk_drew ?_ | refine blk_alloc ?_ _)); exact BK129.out)) : gb129 ≠ gb138)); have n8_ := Aside0.mk ((by rw [hg]; exact Nat.ne_of_gt (blk_lt (g := gb129) (o := .cells #[.int .u8 t121, .string t122, .int .i64 t123, .slice Ao18 t124.length co18] 25 (0, 0)) (by (with_reducible repeat (first | refine blk_drewN ?_ _ | refine blk_drew ?_ | refine blk_alloc ?_ _)); exact BK129.out)) : gb138 ≠ gb129)); clear HO126; clear HO135; clear BK129; clear HB; have HO126 := n0_; have HO135 := n1_; have BK129 := n2_; have HB := n3_; have BK138 := n4_; have GW138 := n5_; have GE138 := n6_; have NB129_138 := n7_; have NB138_129 := n8_; clear n0_ n1_ n2_ n3_ n4_ n5_ n6_ n7_ n8_; clear hb hbox hg; have hnb21 := NB138_129.out; have hnc21 := NB129_138.out; have hcz22_0 : w20.cell? ⟨gb138, 0, none⟩ = some (.int .u8 0) := (blk_cell BK138.out 0).trans rfl; have hcz22_1 : w20.cell? ⟨gb138, 1, none⟩ = some (.string (⟨#[]⟩ : ByteArray)) := (blk_cell BK138.out 1).trans rfl; have hcz22_2 : w20.cell? ⟨gb138, 2, none⟩ = some (.int .i64 0) := (blk_cell BK138.out 2).trans rfl; have hcz22_3 : w20.cell? ⟨gb138, 3, none⟩ = some (.slice none 0 0) := (blk_cell BK138.out 3).trans rfl; have hfz22_0 := blk_frozen BK138.out 0; have hfz22_1 := blk_frozen BK138.out 1; have hfz22_2 := blk_frozen BK138.out 2; have hfz22_3 := blk_frozen BK138.out 3; obtain ⟨Ao23, co23, eo23⟩ := Kd.V_slice HO135.out; subst eo23))
            (try simp only [Act.put, List.setIfInBounds_toArray, List.set_cons_zero, List.set_cons_succ])
            go_cut [39] (fun v39 wc => ∃ (kq : Nat) (x39_13 : Bool), v39 = .bool x39_13 ∧ Aside0 (fascinelaw06_QueryPlaces.j1 kq a0 t127 t128 t136 x39_13 = some r) ∧ Aside0 (kq ≤ kj1) ∧ Aside0 (Kd.V k25 25 wc w.heap.size (fun k_ => k_ ≠ gb129 ∧ k_ ≠ gb138) (.slice Ao18 t124.length co18) t124) ∧ Aside0 (Kd.V k25 25 wc w.heap.size (fun k_ => k_ ≠ gb129 ∧ k_ ≠ gb138) (.slice Ao23 t133.length co23) t133) ∧ Aside0 (wc.heap[gb129]? = some (.cells #[.int .u8 t121, .string t122, .int .i64 t123, (.slice Ao18 t124.length co18)] 25 (0, 0))) ∧ Aside0 (wc.heap[gb138]? = some (.cells #[.int .u8 t130, .string t131, .int .i64 t132, (.slice Ao23 t133.length co23)] 25 (0, 0))) ∧ Aside0 (Below w.heap.size w wc))
            case first =>
              have H := HC14.out
              clear HC14
              by_cases c24 : t128 = t137
              · rw [if_pos c24] at H
                have c24b0 : (t128 == t137) = true := beq_iff_eq.mpr c24
                have c24b1 : (t128 != t137) = false := bne_eq_false_iff_eq.mpr c24
                clear c24
                (first | rw [c24b0] | (simp only [i64_w, i32_w]; rw [c24b0]) | skip)
                replace H := Option.bind_eq_some_iff.mp H
                obtain ⟨t139, A250, H⟩ := H
                replace H : (fascinelaw06_QueryPlaces.j1 kj1 a0 t127 t128 t136 (!t139)) = some r := H
                have A25 := Aside0.mk A250
                clear A250
                have H' := Aside0.mk H
                clear H
                have hnb26 := NB138_129.out
                have hnc26 := NB129_138.out
                have hcz27_0 : w20.cell? ⟨gb138, 0, none⟩ = some (.int .u8 0) := (blk_cell BK138.out 0).trans rfl
                have hcz27_1 : w20.cell? ⟨gb138, 1, none⟩ = some (.string (⟨#[]⟩ : ByteArray)) := (blk_cell BK138.out 1).trans rfl
                have hcz27_2 : w20.cell? ⟨gb138, 2, none⟩ = some (.int .i64 0) := (blk_cell BK138.out 2).trans rfl
                have hcz27_3 : w20.cell? ⟨gb138, 3, none⟩ = some (.slice none 0 0) := (blk_cell BK138.out 3).trans rfl
                have hfz27_0 := blk_frozen BK138.out 0
                have hfz27_1 := blk_frozen BK138.out 1
                have hfz27_2 := blk_frozen BK138.out 2
                have hfz27_3 := blk_frozen BK138.out 3
                have hcz28_0 : w20.cell? ⟨gb129, 0, none⟩ = some (.int .u8 t121) := (blk_cell BK129.out 0).trans rfl
                have hcz28_1 : w20.cell? ⟨gb129, 1, none⟩ = some (.string t122) := (blk_cell BK129.out 1).trans rfl
                have hcz28_2 : w20.cell? ⟨gb129, 2, none⟩ = some (.int .i64 t123) := (blk_cell BK129.out 2).trans rfl
                have hcz28_3 : w20.cell? ⟨gb129, 3, none⟩ = some (.slice Ao18 t124.length co18) := (blk_cell BK129.out 3).trans rfl
                have hfz28_0 := blk_frozen BK129.out 0
                have hfz28_1 := blk_frozen BK129.out 1
                have hfz28_2 := blk_frozen BK129.out 2
                have hfz28_3 := blk_frozen BK129.out 3
                go_wp2_with (first | (go_at_call 11; (with_reducible refine (fascineref06_Same.calls kj1 t130 t131 t132 _ _ t133 t121 t122 t123 _ _ t124 t139 _ ?side1 ?side2 ?side3 ?side4 A25.out).mono ?_); (case side1 => refine (Kd.V_reads' (e := 25) (base := w.heap.size) (ok := fun k_ => (k_ ≠ gb129 ∧ k_ ≠ gb138)) (n := t133.length) (c := co23) ?_).2.2; exact (by (with_reducible repeat (first | apply Kd.V_alloc | apply Kd.V_drewN | apply Kd.V_drew)); exact (Kd.V_mono (Kd.V_far (p := ⟨gb138, 3, none⟩) (Kd.V_far (p := ⟨gb138, 2, none⟩) (Kd.V_far (p := ⟨gb138, 1, none⟩) (Kd.V_far (p := ⟨gb138, 0, none⟩) (Kd.V_mono HO135.out (fun k_ hk => (⟨hk, hk.2⟩ : _ ∧ k_ ≠ gb138))) (fun _ hk => hk.2) (.int .u8 t130)) (fun _ hk => hk.2) (.string t131)) (fun _ hk => hk.2) (.int .i64 t132)) (fun _ hk => hk.2) (.slice Ao23 t133.length co23)) (fun _ h_ => h_.1)))); (case side2 => exact (Kd.V_reads' HO135.out).2.1); (case side3 => refine (Kd.V_reads' (e := 25) (base := w.heap.size) (ok := fun k_ => ((True ∧ k_ ≠ gb129) ∧ k_ ≠ gb138)) (n := t124.length) (c := co18) ?_).2.2; exact (by (with_reducible repeat (first | apply Kd.V_alloc | apply Kd.V_drewN | apply Kd.V_drew)); exact (Kd.V_mono (Kd.V_far (p := ⟨gb138, 3, none⟩) (Kd.V_far (p := ⟨gb138, 2, none⟩) (Kd.V_far (p := ⟨gb138, 1, none⟩) (Kd.V_far (p := ⟨gb138, 0, none⟩) (Kd.V_mono HO126.out (fun k_ hk => (⟨hk, hk.2⟩ : _ ∧ k_ ≠ gb138))) (fun _ hk => hk.2) (.int .u8 t130)) (fun _ hk => hk.2) (.string t131)) (fun _ hk => hk.2) (.int .i64 t132)) (fun _ hk => hk.2) (.slice Ao23 t133.length co23)) (fun _ h_ => h_.1)))); (case side4 => exact (Kd.V_reads' HO126.out).2.1); rintro e w29 ⟨rfl, hb⟩; have n0_ := Aside0.mk (Kd.V_below (by (with_reducible repeat (first | apply Kd.V_alloc | apply Kd.V_drewN | apply Kd.V_drew)); exact (Kd.V_mono (Kd.V_far (p := ⟨gb138, 3, none⟩) (Kd.V_far (p := ⟨gb138, 2, none⟩) (Kd.V_far (p := ⟨gb138, 1, none⟩) (Kd.V_far (p := ⟨gb138, 0, none⟩) (Kd.V_mono HO126.out (fun k_ hk => (⟨hk, hk.2⟩ : _ ∧ k_ ≠ gb138))) (fun _ hk => hk.2) (.int .u8 t130)) (fun _ hk => hk.2) (.string t131)) (fun _ hk => hk.2) (.int .i64 t132)) (fun _ hk => hk.2) (.slice Ao23 t133.length co23)) (fun _ h_ => h_.1))) hb); have n1_ := Aside0.mk (Kd.V_below (by (with_reducible repeat (first | apply Kd.V_alloc | apply Kd.V_drewN | apply Kd.V_drew)); exact (Kd.V_mono (Kd.V_far (p := ⟨gb138, 3, none⟩) (Kd.V_far (p := ⟨gb138, 2, none⟩) (Kd.V_far (p := ⟨gb138, 1, none⟩) (Kd.V_far (p := ⟨gb138, 0, none⟩) (Kd.V_mono HO135.out (fun k_ hk => (⟨hk, hk.2⟩ : _ ∧ k_ ≠ gb138))) (fun _ hk => hk.2) (.int .u8 t130)) (fun _ hk => hk.2) (.string t131)) (fun _ hk => hk.2) (.int .i64 t132)) (fun _ hk => hk.2) (.slice Ao23 t133.length co23)) (fun _ h_ => h_.1))) hb); have n2_ := Aside0.mk (blk_below (g := gb129) (o := .cells #[.int .u8 t121, .string t122, .int .i64 t123, .slice Ao18 t124.length co18] 25 (0, 0)) (by (with_reducible repeat (first | refine blk_drewN ?_ _ | refine blk_drew ?_ | refine blk_alloc ?_ _)); refine blk_far ?_ NB129_138.out _; (with_reducible repeat (first | refine blk_drewN ?_ _ | refine blk_drew ?_ | refine blk_alloc ?_ _)); refine blk_far ?_ NB129_138.out _; (with_reducible repeat (first | refine blk_drewN ?_ _ | refine blk_drew ?_ | refine blk_alloc ?_ _)); refine blk_far ?_ NB129_138.out _; (with_reducible repeat (first | refine blk_drewN ?_ _ | refine blk_drew ?_ | refine blk_alloc ?_ _)); refine blk_far ?_ NB129_138.out _; (with_reducible repeat (first | refine blk_drewN ?_ _ | refine blk_drew ?_ | refine blk_alloc ?_ _)); exact BK129.out) hb); have n3_ := Aside0.mk (blk_below (g := gb138) (o := .cells #[.int .u8 t130, .string t131, .int .i64 t132, .slice Ao23 t133.length co23] 25 (0, 0)) (by (with_reducible repeat (first | refine blk_drewN ?_ _ | refine blk_drew ?_ | refine blk_alloc ?_ _)); refine blk_put (cs := #[.int .u8 t130, .string t131, .int .i64 t132, .slice none 0 0]) ?_ 3 _ rfl; (with_reducible repeat (first | refine blk_drewN ?_ _ | refine blk_drew ?_ | refine blk_alloc ?_ _)); refine blk_put (cs := #[.int .u8 t130, .string t131, .int .i64 0, .slice none 0 0]) ?_ 2 _ rfl; (with_reducible repeat (first | refine blk_drewN ?_ _ | refine blk_drew ?_ | refine blk_alloc ?_ _)); refine blk_put (cs := #[.int .u8 t130, .string (⟨#[]⟩ : ByteArray), .int .i64 0, .slice none 0 0]) ?_ 1 _ rfl; (with_reducible repeat (first | refine blk_drewN ?_ _ | refine blk_drew ?_ | refine blk_alloc ?_ _)); refine blk_put (cs := #[.int .u8 0, .string (⟨#[]⟩ : ByteArray), .int .i64 0, .slice none 0 0]) ?_ 0 _ rfl; (with_reducible repeat (first | refine blk_drewN ?_ _ | refine blk_drew ?_ | refine blk_alloc ?_ _)); exact BK138.out) hb); have n4_ := Aside0.mk (below_step (by repeat (first | (with_reducible first | exact HB.out | apply below_alloc | apply pw_below_drewN | apply below_drew1 | refine below_set ?_ GE129.out | refine below_set ?_ GE138.out) | exact HB.out)) hb); clear HO126; clear HO135; clear BK129; clear BK138; clear HB; have HO126 := n0_; have HO135 := n1_; have BK129 := n2_; have BK138 := n3_; have HB := n4_; clear n0_ n1_ n2_ n3_ n4_; (try clear hb); (try clear hb2); (try clear hk); (try clear hi)))
                go_meet
                case rel => exact ⟨_, (!t139), (by first | rfl | (simp; done) | (simp [*]; done)), H', ⟨by have := HJ1.out; first | omega | exact Nat.le_refl _⟩, ⟨by (with_reducible repeat (first | apply Kd.V_alloc | apply Kd.V_drewN | apply Kd.V_drew)); exact Kd.V_mono HO126.out (fun _ hk => ⟨hk.1.2, hk.2⟩)⟩, ⟨by (with_reducible repeat (first | apply Kd.V_alloc | apply Kd.V_drewN | apply Kd.V_drew)); exact HO135.out⟩, ⟨by (with_reducible repeat (first | refine blk_drewN ?_ _ | refine blk_drew ?_ | refine blk_alloc ?_ _)); exact BK129.out⟩, ⟨by (with_reducible repeat (first | refine blk_drewN ?_ _ | refine blk_drew ?_ | refine blk_alloc ?_ _)); exact BK138.out⟩, ⟨by repeat (first | (with_reducible first | exact HB.out | apply below_alloc | apply pw_below_drewN | apply below_drew1 | refine below_set ?_ GE129.out | refine below_set ?_ GE138.out) | exact HB.out)⟩⟩
              · rw [if_neg c24] at H
                have c24b0 : (t128 == t137) = false := beq_eq_false_iff_ne.mpr c24
                have c24b1 : (t128 != t137) = true := bne_iff_ne.mpr c24
                (first | rw [c24b0] | (simp only [i64_w, i32_w]; rw [c24b0]) | skip)
                have H' := Aside0.mk H
                clear H
                go_wp2
                go_meet
                case rel => exact ⟨_, (true), (by first | rfl | (simp; done) | (simp [*]; done)), H', ⟨by have := HJ1.out; first | omega | exact Nat.le_refl _⟩, ⟨by (with_reducible repeat (first | apply Kd.V_alloc | apply Kd.V_drewN | apply Kd.V_drew)); exact Kd.V_mono (Kd.V_far (p := ⟨gb138, 3, none⟩) (Kd.V_far (p := ⟨gb138, 2, none⟩) (Kd.V_far (p := ⟨gb138, 1, none⟩) (Kd.V_far (p := ⟨gb138, 0, none⟩) (Kd.V_mono HO126.out (fun k_ hk => (⟨hk, hk.2⟩ : _ ∧ k_ ≠ gb138))) (fun _ hk => hk.2) (.int .u8 t130)) (fun _ hk => hk.2) (.string t131)) (fun _ hk => hk.2) (.int .i64 t132)) (fun _ hk => hk.2) (.slice Ao23 t133.length co23)) (fun _ hk => ⟨hk.1.1.2, hk.1.2⟩)⟩, ⟨by (with_reducible repeat (first | apply Kd.V_alloc | apply Kd.V_drewN | apply Kd.V_drew)); exact Kd.V_mono (Kd.V_far (p := ⟨gb138, 3, none⟩) (Kd.V_far (p := ⟨gb138, 2, none⟩) (Kd.V_far (p := ⟨gb138, 1, none⟩) (Kd.V_far (p := ⟨gb138, 0, none⟩) (Kd.V_mono HO135.out (fun k_ hk => (⟨hk, hk.2⟩ : _ ∧ k_ ≠ gb138))) (fun _ hk => hk.2) (.int .u8 t130)) (fun _ hk => hk.2) (.string t131)) (fun _ hk => hk.2) (.int .i64 t132)) (fun _ hk => hk.2) (.slice Ao23 t133.length co23)) (fun _ hk => ⟨hk.1.1, hk.1.2⟩)⟩, ⟨by (with_reducible repeat (first | refine blk_drewN ?_ _ | refine blk_drew ?_ | refine blk_alloc ?_ _)); refine blk_far ?_ NB129_138.out _; (with_reducible repeat (first | refine blk_drewN ?_ _ | refine blk_drew ?_ | refine blk_alloc ?_ _)); refine blk_far ?_ NB129_138.out _; (with_reducible repeat (first | refine blk_drewN ?_ _ | refine blk_drew ?_ | refine blk_alloc ?_ _)); refine blk_far ?_ NB129_138.out _; (with_reducible repeat (first | refine blk_drewN ?_ _ | refine blk_drew ?_ | refine blk_alloc ?_ _)); refine blk_far ?_ NB129_138.out _; (with_reducible repeat (first | refine blk_drewN ?_ _ | refine blk_drew ?_ | refine blk_alloc ?_ _)); exact BK129.out⟩, ⟨by (with_reducible repeat (first | refine blk_drewN ?_ _ | refine blk_drew ?_ | refine blk_alloc ?_ _)); refine blk_put (cs := #[.int .u8 t130, .string t131, .int .i64 t132, .slice none 0 0]) ?_ 3 _ rfl; (with_reducible repeat (first | refine blk_drewN ?_ _ | refine blk_drew ?_ | refine blk_alloc ?_ _)); refine blk_put (cs := #[.int .u8 t130, .string t131, .int .i64 0, .slice none 0 0]) ?_ 2 _ rfl; (with_reducible repeat (first | refine blk_drewN ?_ _ | refine blk_drew ?_ | refine blk_alloc ?_ _)); refine blk_put (cs := #[.int .u8 t130, .string (⟨#[]⟩ : ByteArray), .int .i64 0, .slice none 0 0]) ?_ 1 _ rfl; (with_reducible repeat (first | refine blk_drewN ?_ _ | refine blk_drew ?_ | refine blk_alloc ?_ _)); refine blk_put (cs := #[.int .u8 0, .string (⟨#[]⟩ : ByteArray), .int .i64 0, .slice none 0 0]) ?_ 0 _ rfl; (with_reducible repeat (first | refine blk_drewN ?_ _ | refine blk_drew ?_ | refine blk_alloc ?_ _)); exact BK138.out⟩, ⟨by repeat (first | (with_reducible first | exact HB.out | apply below_alloc | apply pw_below_drewN | apply below_drew1 | refine below_set ?_ GE129.out | refine below_set ?_ GE138.out) | exact HB.out)⟩⟩
            case rest =>
              clear HC14
              try clear c1
              try clear c2
              try clear p2
              try clear c4
              try clear c7
              try clear c8
              try clear c9
              try clear c11
              try clear c11b0
              try clear c11b1
              try clear c11b2
              try clear c12
              try clear c12b0
              try clear c12b1
              try clear c12b2
              try clear c21
              try clear c24
              try clear c24b0
              try clear c24b1
              try clear c26
              try clear hcz17_0
              try clear hcz17_1
              try clear hcz17_2
              try clear hcz17_3
              try clear hcz22_0
              try clear hcz22_1
              try clear hcz22_2
              try clear hcz22_3
              try clear hcz27_0
              try clear hcz27_1
              try clear hcz27_2
              try clear hcz27_3
              try clear hcz28_0
              try clear hcz28_1
              try clear hcz28_2
              try clear hcz28_3
              try clear hfz17_0
              try clear hfz17_1
              try clear hfz17_2
              try clear hfz17_3
              try clear hfz22_0
              try clear hfz22_1
              try clear hfz22_2
              try clear hfz22_3
              try clear hfz27_0
              try clear hfz27_1
              try clear hfz27_2
              try clear hfz27_3
              try clear hfz28_0
              try clear hfz28_1
              try clear hfz28_2
              try clear hfz28_3
              try clear p2
              obtain ⟨kq, x39_13, rfl, HA, HJ13, HO_130003, HO_139003, BK129, BK138, HB⟩ := hcut
              cases kq with
              | zero => exact absurd HA.out (by simp [fascinelaw06_QueryPlaces.j1])
              | succ kj13 =>
                have H := HA.out
                clear HA
                simp only [fascinelaw06_QueryPlaces.j1] at H
                by_cases c30 : x39_13 = true
                · subst c30
                  have H1 : (some false) = some r := by rw [if_pos rfl] at H; exact H
                  clear H
                  have H := H1
                  clear H1
                  exact absurd (HR_.out.symm.trans (Option.some.inj H).symm) (by decide)
                · replace c30 := Bool.eq_false_iff.mpr c30
                  subst c30
                  have H1 : (if t128 = 0 then (if t127 = 0 then (some (t136 == 0)) else (some false)) else (if t127 ≥ 0 then (if t127 ≤ (a0.size : Int) then (if t136 = (wrap64 (t127 + 2)) then (some true) else (if t127 = (a0.size : Int) then (some (t136 == (wrap64 (t127 + 3)))) else (some false))) else (some false)) else (some false))) = some r := by rw [if_neg (show ¬ (false = true) by decide)] at H; exact H
                  clear H
                  have H := H1
                  clear H1
                  by_cases c31 : t128 = 0
                  · rw [if_pos c31] at H
                    have c31b0 : (t128 == 0) = true := beq_iff_eq.mpr c31
                    have c31b1 : (t128 != 0) = false := bne_eq_false_iff_eq.mpr c31
                    clear c31
                    by_cases c32 : t127 = 0
                    · rw [if_pos c32] at H
                      have c32b0 : (t127 == 0) = true := beq_iff_eq.mpr c32
                      have c32b1 : (t127 != 0) = false := bne_eq_false_iff_eq.mpr c32
                      clear c32
                      obtain rfl := Option.some.inj H
                      go_wp2
                      go_ret
                      exact ⟨by first | rfl | (simp [errW_none, errW_some] <;> rfl) | (simp [*, errW_none, errW_some] <;> rfl), by repeat (first | (with_reducible first | exact HB.out | apply below_alloc | apply pw_below_drewN | apply below_drew1 | refine below_set ?_ GE129.out | refine below_set ?_ GE138.out) | exact HB.out)⟩
                    · rw [if_neg c32] at H
                      have c32b0 : (t127 == 0) = false := beq_eq_false_iff_ne.mpr c32
                      have c32b1 : (t127 != 0) = true := bne_iff_ne.mpr c32
                      exact absurd (HR_.out.symm.trans (Option.some.inj H).symm) (by decide)
                  · rw [if_neg c31] at H
                    have c31b0 : (t128 == 0) = false := beq_eq_false_iff_ne.mpr c31
                    have c31b1 : (t128 != 0) = true := bne_iff_ne.mpr c31
                    by_cases c33 : t127 ≥ 0
                    · rw [if_pos c33] at H
                      have c33b0 : decide (0 ≤ t127) = true := decide_eq_true c33
                      clear c33
                      by_cases c34 : t127 ≤ (a0.size : Int)
                      · rw [if_pos c34] at H
                        have c34b0 : decide (t127 ≤ (a0.size : Int)) = true := decide_eq_true c34
                        clear c34
                        by_cases c35 : t136 = (wrap64 (t127 + 2))
                        · rw [if_pos c35] at H
                          have c35b0 : (t136 == (wrap64 (t127 + 2))) = true := beq_iff_eq.mpr c35
                          have c35b1 : (t136 != (wrap64 (t127 + 2))) = false := bne_eq_false_iff_eq.mpr c35
                          clear c35
                          obtain rfl := Option.some.inj H
                          go_wp2
                          go_ret
                          exact ⟨by first | rfl | (simp [errW_none, errW_some] <;> rfl) | (simp [*, errW_none, errW_some] <;> rfl), by repeat (first | (with_reducible first | exact HB.out | apply below_alloc | apply pw_below_drewN | apply below_drew1 | refine below_set ?_ GE129.out | refine below_set ?_ GE138.out) | exact HB.out)⟩
                        · rw [if_neg c35] at H
                          have c35b0 : (t136 == (wrap64 (t127 + 2))) = false := beq_eq_false_iff_ne.mpr c35
                          have c35b1 : (t136 != (wrap64 (t127 + 2))) = true := bne_iff_ne.mpr c35
                          by_cases c36 : t127 = (a0.size : Int)
                          · rw [if_pos c36] at H
                            have c36b0 : (t127 == (a0.size : Int)) = true := beq_iff_eq.mpr c36
                            have c36b1 : (t127 != (a0.size : Int)) = false := bne_eq_false_iff_eq.mpr c36
                            clear c36
                            obtain rfl := Option.some.inj H
                            go_wp2
                            go_ret
                            exact ⟨by first | rfl | (simp [errW_none, errW_some] <;> rfl) | (simp [*, errW_none, errW_some] <;> rfl), by repeat (first | (with_reducible first | exact HB.out | apply below_alloc | apply pw_below_drewN | apply below_drew1 | refine below_set ?_ GE129.out | refine below_set ?_ GE138.out) | exact HB.out)⟩
                          · rw [if_neg c36] at H
                            have c36b0 : (t127 == (a0.size : Int)) = false := beq_eq_false_iff_ne.mpr c36
                            have c36b1 : (t127 != (a0.size : Int)) = true := bne_iff_ne.mpr c36
                            exact absurd (HR_.out.symm.trans (Option.some.inj H).symm) (by decide)
                      · rw [if_neg c34] at H
                        have c34b0 : decide (t127 ≤ (a0.size : Int)) = false := decide_eq_false c34
                        clear c34
                        exact absurd (HR_.out.symm.trans (Option.some.inj H).symm) (by decide)
                    · rw [if_neg c33] at H
                      have c33b0 : decide (0 ≤ t127) = false := decide_eq_false c33
                      clear c33
                      exact absurd (HR_.out.symm.trans (Option.some.inj H).symm) (by decide)
          · rw [if_neg c12] at H
            exact absurd H (by simp)
        · rw [if_neg c11] at H
          exact absurd H (by simp)

/-- THE ONE PURE STATEMENT of fascinelaw06_QueryPlaces: yours. -/
def fascinelaw06_QueryPlaces.Pure : Prop := ∀ (a0 : ByteArray), a0.size ≤ 140737488351232 → ∃ k, fascinelaw06_QueryPlaces.f k a0 = some true
theorem fascinelaw06_QueryPlaces.walk (P : fascinelaw06_QueryPlaces.Pure) (a0 : ByteArray) (w : World) (hT : tabs w) (w0 : a0.size ≤ 140737488351232) :
    Calls Tryd.prog 4 #[.string a0] w fun e w' => e = .returned (.bool true) ∧ Below w.heap.size w w' := by
  obtain ⟨k, h⟩ := P a0 w0
  refine (fascinelaw06_QueryPlaces.calls k a0 true w hT h rfl).mono ?_
  rintro e w' ⟨rfl, hd⟩
  exact ⟨rfl, hd⟩

end Go.Proofs.YtlmmbefejmbpeaaDoor.PQueryPlaces
