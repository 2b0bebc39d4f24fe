-- WRITTEN BY A PROGRAM OF THIS SESSION (wip/patch_print.py: the kit's printer with rules of this session's own); Lean checks it.
import Derived.Test.YtpigloohccpfiaaDoorPHttpLinesx0
import Derived.Test.YtpigloohccpfiaaDoorPHttpLinesx4
namespace Go.Proofs.YtpigloohccpfiaaDoor.PHttpLines
open Go.RowKit Go.Proofs.YtpigloohccpfiaaDoorW.PrintWords Go.Proofs.YtpigloohccpfiaaDoorW.PrintLast Go.Proofs.YtpigloohccpfiaaDoorW.PrintMore
open Go.Proofs.YtpigloohccpfiaaDoor.G
attribute [local go_sem] max2_int min2_int max_two min_two max_three min_three max_four min_four   -- for this text's walks alone
set_option linter.unusedVariables false
set_option linter.unusedSimpArgs false

theorem w_two (n : Nat) (h : n + 2 ≤ 9223372036854775807) : wrap64 ((n : Int) + 2) = (n : Int) + 2 := by unfold wrap64; omega
/-! ### fascinelaw12_HttpLines: function 5 -/
mutual
def fascinelaw12_HttpLines.l0 : Nat → Int → Int → ByteArray → Int → Option (Bool)
  | 0, _, _, _, _ => none
  | k + 1, x1, x5, x6, x7 => if x7 < x5 then (if x6.size + 6 ≤ 9223372036854775807 then (fascinelaw12_HttpLines.l0 k x1 x5 (x6 ++ (⟨#[97, 58, 32, 98, 13, 10]⟩ : ByteArray)) (wrap64 (x7 + 1))) else (none)) else (if x6.size + 2 ≤ 9223372036854775807 then ((http_Read.f k (x6 ++ (⟨#[13, 10]⟩ : ByteArray))).bind fun bt166 => (if x5 > 30 then (if bt166.2.2.2.2.1 = 0 then (if bt166.2.2.2.2.2 = 431 then (fascinelaw12_HttpLines.j1 k x1) else (some false)) else (some false)) else (if bt166.2.2.2.2.1 = (wrap64 ((x6.size : Int) + 2)) then (if bt166.2.2.2.2.2 = 0 then (fascinelaw12_HttpLines.j1 k x1) else (some false)) else (some false)))) else (none))
def fascinelaw12_HttpLines.j1 : Nat → Int → Option (Bool)
  | 0, _ => none
  | k + 1, x1 => if 0 ≤ (Int.tmod (wrap64 (x1)) 3000) then (if (Int.tmod (wrap64 (x1)) 3000 : Int).toNat ≤ 281474976710656 then (fascinelaw12_HttpLines.l1 k (Int.tmod (wrap64 (x1)) 3000) (List.replicate (Int.tmod (wrap64 (x1)) 3000 : Int).toNat 0) 0) else (none)) else (none)
def fascinelaw12_HttpLines.l1 : Nat → Int → List Int → Int → Option (Bool)
  | 0, _, _, _ => none
  | k + 1, x11, x12, x13 => if x13 < x11 then (if 0 ≤ x13 then (if x13 < (x12.length : Int) then (fascinelaw12_HttpLines.l1 k x11 (x12.set (x13 : Int).toNat 98) (wrap64 (x13 + 1))) else (none)) else (none)) else (if 33 + (strOfNums x12).size ≤ 9223372036854775807 then (if 33 + (strOfNums x12).size + 4 ≤ 9223372036854775807 then ((http_Read.f k (((⟨#[71, 69, 84, 32, 47, 116, 97, 98, 108, 101, 32, 72, 84, 84, 80, 47, 49, 46, 49, 13, 10, 72, 111, 115, 116, 58, 32, 120, 13, 10, 97, 58, 32]⟩ : ByteArray) ++ (strOfNums x12)) ++ (⟨#[13, 10, 13, 10]⟩ : ByteArray))).bind fun bt177 => (if ((((⟨#[71, 69, 84, 32, 47, 116, 97, 98, 108, 101, 32, 72, 84, 84, 80, 47, 49, 46, 49, 13, 10, 72, 111, 115, 116, 58, 32, 120, 13, 10, 97, 58, 32]⟩ : ByteArray) ++ (strOfNums x12)) ++ (⟨#[13, 10, 13, 10]⟩ : ByteArray)).size : Int) > 2048 then (if bt177.2.2.2.2.1 = 0 then (some (bt177.2.2.2.2.2 == 431)) else (some false)) else (if bt177.2.2.2.2.1 = ((((⟨#[71, 69, 84, 32, 47, 116, 97, 98, 108, 101, 32, 72, 84, 84, 80, 47, 49, 46, 49, 13, 10, 72, 111, 115, 116, 58, 32, 120, 13, 10, 97, 58, 32]⟩ : ByteArray) ++ (strOfNums x12)) ++ (⟨#[13, 10, 13, 10]⟩ : ByteArray)).size : Int) then (some (bt177.2.2.2.2.2 == 0)) else (some false)))) else (none)) else (none))
end
def fascinelaw12_HttpLines.f (k : Nat) (a0 : Int) (a1 : Int) : Option (Bool) := (fascinelaw12_awake.f k).bind fun t165 => (if t165 = true then (fascinelaw12_HttpLines.l0 k a1 (Int.tmod (wrap64 (a0)) 40) (⟨#[71, 69, 84, 32, 47, 116, 97, 98, 108, 101, 32, 72, 84, 84, 80, 47, 49, 46, 49, 13, 10, 72, 111, 115, 116, 58, 32, 120, 13, 10]⟩ : ByteArray) 0) else (some false))
theorem fascinelaw12_HttpLines.mono_l : ∀ k, (∀ y0 y1 y2 y3, LeO (fascinelaw12_HttpLines.l0 k y0 y1 y2 y3) (fascinelaw12_HttpLines.l0 (k + 1) y0 y1 y2 y3)) ∧ (∀ y0, LeO (fascinelaw12_HttpLines.j1 k y0) (fascinelaw12_HttpLines.j1 (k + 1) y0)) ∧ (∀ y0 y1 y2, LeO (fascinelaw12_HttpLines.l1 k y0 y1 y2) (fascinelaw12_HttpLines.l1 (k + 1) y0 y1 y2))
  | 0 => ⟨fun _ _ _ _ r h => by simp [fascinelaw12_HttpLines.l0] at h, fun _ r h => by simp [fascinelaw12_HttpLines.j1] at h, fun _ _ _ r h => by simp [fascinelaw12_HttpLines.l1] at h⟩
  | k + 1 => by
    obtain ⟨ih0, ih1, ih2⟩ := fascinelaw12_HttpLines.mono_l k
    refine ⟨?_, ?_, ?_⟩
    · intro y0 y1 y2 y3
      unfold fascinelaw12_HttpLines.l0
      repeat' first
      | (with_reducible exact ih0 _ _ _ _)
      | (with_reducible exact ih1 _)
      | (with_reducible exact ih2 _ _ _)
      | (with_reducible exact fascinelaw12_awake.mono _)
      | (with_reducible exact http_Read.mono _ _)
      | (with_reducible exact LeO.refl _)
      | (with_reducible exact LeO.none _)
      | (with_reducible refine LeO.ite ?_ ?_)
      | (with_reducible refine LeO.bind ?_ (fun _ => ?_))
      | exact ih0 _ _ _ _
      | exact ih1 _
      | exact ih2 _ _ _
      | exact fascinelaw12_awake.mono _
      | exact http_Read.mono _ _
      | exact LeO.none _
      | refine LeO.ite ?_ ?_
      | refine LeO.bind ?_ (fun _ => ?_)
    · intro y0
      unfold fascinelaw12_HttpLines.j1
      repeat' first
      | (with_reducible exact ih0 _ _ _ _)
      | (with_reducible exact ih1 _)
      | (with_reducible exact ih2 _ _ _)
      | (with_reducible exact fascinelaw12_awake.mono _)
      | (with_reducible exact http_Read.mono _ _)
      | (with_reducible exact LeO.refl _)
      | (with_reducible exact LeO.none _)
      | (with_reducible refine LeO.ite ?_ ?_)
      | (with_reducible refine LeO.bind ?_ (fun _ => ?_))
      | exact ih0 _ _ _ _
      | exact ih1 _
      | exact ih2 _ _ _
      | exact fascinelaw12_awake.mono _
      | exact http_Read.mono _ _
      | exact LeO.none _
      | refine LeO.ite ?_ ?_
      | refine LeO.bind ?_ (fun _ => ?_)
    · intro y0 y1 y2
      unfold fascinelaw12_HttpLines.l1
      repeat' first
      | (with_reducible exact ih0 _ _ _ _)
      | (with_reducible exact ih1 _)
      | (with_reducible exact ih2 _ _ _)
      | (with_reducible exact fascinelaw12_awake.mono _)
      | (with_reducible exact http_Read.mono _ _)
      | (with_reducible exact LeO.refl _)
      | (with_reducible exact LeO.none _)
      | (with_reducible refine LeO.ite ?_ ?_)
      | (with_reducible refine LeO.bind ?_ (fun _ => ?_))
      | exact ih0 _ _ _ _
      | exact ih1 _
      | exact ih2 _ _ _
      | exact fascinelaw12_awake.mono _
      | exact http_Read.mono _ _
      | exact LeO.none _
      | refine LeO.ite ?_ ?_
      | refine LeO.bind ?_ (fun _ => ?_)
theorem fascinelaw12_HttpLines.mono : ∀ a0 a1 k, LeO (fascinelaw12_HttpLines.f k a0 a1) (fascinelaw12_HttpLines.f (k + 1) a0 a1) := by
  intro a0 a1 k
  obtain ⟨ih0, ih1, ih2⟩ := fascinelaw12_HttpLines.mono_l k
  unfold fascinelaw12_HttpLines.f
  repeat' first
      | (with_reducible exact ih0 _ _ _ _)
      | (with_reducible exact ih1 _)
      | (with_reducible exact ih2 _ _ _)
      | (with_reducible exact fascinelaw12_awake.mono _)
      | (with_reducible exact http_Read.mono _ _)
      | (with_reducible exact LeO.refl _)
      | (with_reducible exact LeO.none _)
      | (with_reducible refine LeO.ite ?_ ?_)
      | (with_reducible refine LeO.bind ?_ (fun _ => ?_))
      | exact ih0 _ _ _ _
      | exact ih1 _
      | exact ih2 _ _ _
      | exact fascinelaw12_awake.mono _
      | exact http_Read.mono _ _
      | exact LeO.none _
      | refine LeO.ite ?_ ?_
      | refine LeO.bind ?_ (fun _ => ?_)
set_option maxHeartbeats 8000000 in
set_option maxRecDepth 100000 in
theorem fascinelaw12_HttpLines.calls (k : Nat) (a0 : Int) (a1 : Int) (r : Bool) (w : World) (hT : tabs w) (h : fascinelaw12_HttpLines.f k a0 a1 = some r) (hr_ : r = true) :
    Calls Tryd.prog 5 #[.int .u8 a0, .int .u16 a1] w fun e w' => e = .returned (.bool r) ∧ Below w.heap.size w w' := by
  have HR_ := Aside0.mk hr_
  clear hr_
  have hu24 := Tryd.underlying24
  have HT := Aside0.mk hT
  clear hT
  have HB := Aside0.mk (Below.refl w.heap.size w)
  have H : ((fascinelaw12_awake.f k).bind fun t165 => (if t165 = true then (fascinelaw12_HttpLines.l0 k a1 (Int.tmod (wrap64 (a0)) 40) (⟨#[71, 69, 84, 32, 47, 116, 97, 98, 108, 101, 32, 72, 84, 84, 80, 47, 49, 46, 49, 13, 10, 72, 111, 115, 116, 58, 32, 120, 13, 10]⟩ : ByteArray) 0) else (some false))) = some r := h
  clear h
  replace H := Option.bind_eq_some_iff.mp H
  obtain ⟨t165, A30, H⟩ := H
  replace H : (if t165 = true then (fascinelaw12_HttpLines.l0 k a1 (Int.tmod (wrap64 (a0)) 40) (⟨#[71, 69, 84, 32, 47, 116, 97, 98, 108, 101, 32, 72, 84, 84, 80, 47, 49, 46, 49, 13, 10, 72, 111, 115, 116, 58, 32, 120, 13, 10]⟩ : ByteArray) 0) else (some false)) = some r := H
  have A3 := Aside0.mk A30
  clear A30
  by_cases c4 : t165 = true
  · subst c4
    have H1 : (fascinelaw12_HttpLines.l0 k a1 (Int.tmod (wrap64 (a0)) 40) (⟨#[71, 69, 84, 32, 47, 116, 97, 98, 108, 101, 32, 72, 84, 84, 80, 47, 49, 46, 49, 13, 10, 72, 111, 115, 116, 58, 32, 120, 13, 10]⟩ : ByteArray) 0) = some r := by rw [if_pos rfl] at H; exact H
    clear H
    have H := H1
    clear H1
    have H' := Aside0.mk H
    clear H
    go_enter Tryd.func5, Tryd.ntmps5
    go_wp2_with (first | ((with_reducible refine gate_callee (f := 9) rfl ?_); refine goesL_ (some 15) rfl rfl Tryd.func9 (by kernel_rfl) rfl #[] rfl (by (try simp only [List.map_toArray, List.map_cons, List.map_nil]); first | done | rfl | (simp only [List.length_drop, List.length_take]; rfl)) ?_; (with_reducible refine (fascinelaw12_awake.calls k  true _ ?side1 A3.out).mono ?_); (case side1 => first | exact HT.out | exact tabs_below HT.out (by repeat (first | (with_reducible first | exact HB.out | apply below_alloc | apply pw_below_drewN | apply below_drew1) | exact HB.out))); rintro e w5 ⟨rfl, hb⟩; refine ⟨_, rfl, ?_⟩; have n0_ := Aside0.mk (below_step (by repeat (first | (with_reducible first | exact HB.out | apply below_alloc | apply pw_below_drewN | apply below_drew1) | exact HB.out)) hb); clear HB; have HB := n0_; clear n0_; (try clear hb); (try clear hb2); (try clear hk); (try clear hi)))
    go_loopg [6, 7] k (fun kq v6 v7 w' => ∃ (x6_1 : ByteArray) (x7_1 : Int), v6 = .string x6_1 ∧ v7 = .int .i64 x7_1 ∧ Aside0 (fascinelaw12_HttpLines.l0 kq a1 (Int.tmod (wrap64 (a0)) 40) x6_1 x7_1 = some r) ∧ Aside0 (kq ≤ k) ∧ Aside0 (Below w.heap.size w w'))
    case atStart => exact ⟨((⟨#[71, 69, 84, 32, 47, 116, 97, 98, 108, 101, 32, 72, 84, 84, 80, 47, 49, 46, 49, 13, 10, 72, 111, 115, 116, 58, 32, 120, 13, 10]⟩ : ByteArray)), (0), (by first | rfl | (simp; done) | (simp [*]; done)), (by first | rfl | (simp; done) | (simp [*]; done)), H', ⟨Nat.le_refl _⟩, ⟨by repeat (first | (with_reducible first | exact HB.out | apply below_alloc | apply pw_below_drewN | apply below_drew1) | exact HB.out)⟩⟩
    case round =>
      clear H'
      try clear p2
      try clear c4
      try clear c5
      obtain ⟨x6_1, x7_1, rfl, rfl, HA, HK1, HB⟩ := hrel
      cases gk with
      | zero => exact absurd HA.out (by simp [fascinelaw12_HttpLines.l0])
      | succ k1 =>
        have H := HA.out
        clear HA
        simp only [fascinelaw12_HttpLines.l0] at H
        by_cases c6 : x7_1 < (Int.tmod (wrap64 (a0)) 40)
        · rw [if_pos c6] at H
          have c6b0 : decide (x7_1 < (Int.tmod (wrap64 (a0)) 40)) = true := decide_eq_true c6
          clear c6
          by_cases c7 : x6_1.size + 6 ≤ 9223372036854775807
          · rw [if_pos c7] at H
            have c7b0 := eq_true c7
            have c7b1 : decide (x6_1.size + 6 ≤ 9223372036854775807) = true := decide_eq_true c7
            try have c7b2 : (9223372036854775807 < x6_1.size + 6) = False := eq_false (Nat.not_lt.2 c7)
            have H' := Aside0.mk H
            clear H
            go_wp2
            go_roundg k1
            case measure => have := HK1.out; omega
            case rel => exact ⟨(x6_1 ++ (⟨#[97, 58, 32, 98, 13, 10]⟩ : ByteArray)), (wrap64 (x7_1 + 1)), (by first | rfl | (simp; done) | (simp [*]; done)), (by first | rfl | (simp; done) | (simp [*]; done)), H', ⟨by have := HK1.out; omega⟩, ⟨by repeat (first | (with_reducible first | exact HB.out | apply below_alloc | apply pw_below_drewN | apply below_drew1) | exact HB.out)⟩⟩
          · rw [if_neg c7] at H
            exact absurd H (by simp)
        · rw [if_neg c6] at H
          have c6b0 : decide (x7_1 < (Int.tmod (wrap64 (a0)) 40)) = false := decide_eq_false c6
          clear c6
          by_cases c8 : x6_1.size + 2 ≤ 9223372036854775807
          · rw [if_pos c8] at H
            have c8b0 := eq_true c8
            have c8b1 : decide (x6_1.size + 2 ≤ 9223372036854775807) = true := decide_eq_true c8
            try have c8b2 : (9223372036854775807 < x6_1.size + 2) = False := eq_false (Nat.not_lt.2 c8)
            replace H := Option.bind_eq_some_iff.mp H
            obtain ⟨⟨t166, t167, t168, t169, t170, t171⟩, A90, H⟩ := H
            replace H : (if (Int.tmod (wrap64 (a0)) 40) > 30 then (if t170 = 0 then (if t171 = 431 then (fascinelaw12_HttpLines.j1 k1 a1) else (some false)) else (some false)) else (if t170 = (wrap64 ((x6_1.size : Int) + 2)) then (if t171 = 0 then (fascinelaw12_HttpLines.j1 k1 a1) else (some false)) else (some false))) = some r := H
            have A9 := Aside0.mk A90
            clear A90
            have HC10 := Aside0.mk H
            clear H
            go_upto_if 35 with (first | ((with_reducible refine gate_callee (f := 10) rfl ?_); refine goesL_ (some 30) rfl rfl Tryd.func10 (by kernel_rfl) rfl #[.string (x6_1 ++ (⟨#[13, 10]⟩ : ByteArray))] rfl (by (try simp only [List.map_toArray, List.map_cons, List.map_nil]); first | done | rfl | (simp only [List.length_drop, List.length_take]; rfl)) ?_; (with_reducible refine (http_Read.calls k1 (x6_1 ++ (⟨#[13, 10]⟩ : ByteArray)) t166 t167 t168 t169 t170 t171 _ ?side1 A9.out).mono ?_); (case side1 => first | exact HT.out | exact tabs_below HT.out (by repeat (first | (with_reducible first | exact HB.out | apply below_alloc | apply pw_below_drewN | apply below_drew1) | exact HB.out))); rintro e w11 ⟨rfl, hb⟩; refine ⟨_, rfl, ?_⟩; have n0_ := Aside0.mk (below_step (by repeat (first | (with_reducible first | exact HB.out | apply below_alloc | apply pw_below_drewN | apply below_drew1) | exact HB.out)) hb); clear HB; have HB := n0_; clear n0_; (try clear hb); (try clear hb2); (try clear hk); (try clear hi)) | ((with_reducible refine gate_dst (N := 8) rfl ?_); refine box_event ?hg (N := 8) ?hd (cs := #[.string (⟨#[]⟩ : ByteArray), .string (⟨#[]⟩ : ByteArray), .string (⟨#[]⟩ : ByteArray), .bool false]) (t := 24) ?hr ?_; (case hd => rfl); (case hg => rfl); (case hr => first | (go_simp; done) | (go_simp; rfl)); intro gb172 hg w12 hbox hb; have n0_ := Aside0.mk (below_step (by repeat (first | (with_reducible first | exact HB.out | apply below_alloc | apply pw_below_drewN | apply below_drew1) | exact HB.out)) hb); have n1_ := Aside0.mk (hbox); have n2_ := Aside0.mk ((by rw [hg]; exact (below_size (by repeat (first | (with_reducible first | exact HB.out | apply below_alloc | apply pw_below_drewN | apply below_drew1) | exact HB.out))) : w.heap.size ≤ gb172)); have n3_ := Aside0.mk ((by rw [hg]; exact (below_size (by repeat (first | (with_reducible first | exact HB.out | apply below_alloc | apply pw_below_drewN | apply below_drew1) | exact HB.out))) : w.heap.size ≤ gb172)); clear HB; have HB := n0_; have BK172 := n1_; have GW172 := n2_; have GE172 := n3_; clear n0_ n1_ n2_ n3_; clear hb hbox hg; have hcz13_0 : w12.cell? ⟨gb172, 0, none⟩ = some (.string (⟨#[]⟩ : ByteArray)) := (blk_cell BK172.out 0).trans rfl; have hcz13_1 : w12.cell? ⟨gb172, 1, none⟩ = some (.string (⟨#[]⟩ : ByteArray)) := (blk_cell BK172.out 1).trans rfl; have hcz13_2 : w12.cell? ⟨gb172, 2, none⟩ = some (.string (⟨#[]⟩ : ByteArray)) := (blk_cell BK172.out 2).trans rfl; have hcz13_3 : w12.cell? ⟨gb172, 3, none⟩ = some (.bool false) := (blk_cell BK172.out 3).trans rfl; have hfz13_0 := blk_frozen BK172.out 0; have hfz13_1 := blk_frozen BK172.out 1; have hfz13_2 := blk_frozen BK172.out 2; have hfz13_3 := blk_frozen BK172.out 3))
            (try simp only [Act.put, List.setIfInBounds_toArray, List.set_cons_zero, List.set_cons_succ])
            go_cut [] (fun wc => ∃ (kq : Nat), Aside0 (fascinelaw12_HttpLines.j1 kq a1 = some r) ∧ Aside0 (kq ≤ k1) ∧ Aside0 (wc.heap[gb172]? = some (.cells #[.string t166, .string t167, .string t168, .bool t169] 24 (0, 0))) ∧ Aside0 (Below w.heap.size w wc))
            case first =>
              have H := HC10.out
              clear HC10
              by_cases c14 : (Int.tmod (wrap64 (a0)) 40) > 30
              · rw [if_pos c14] at H
                have c14b0 : decide (30 < (Int.tmod (wrap64 (a0)) 40)) = true := decide_eq_true c14
                clear c14
                (first | rw [c14b0] | (simp only [i64_w, i32_w]; rw [c14b0]) | skip)
                by_cases c15 : t170 = 0
                · rw [if_pos c15] at H
                  have c15b0 : (t170 == 0) = true := beq_iff_eq.mpr c15
                  have c15b1 : (t170 != 0) = false := bne_eq_false_iff_eq.mpr c15
                  clear c15
                  by_cases c16 : t171 = 431
                  · rw [if_pos c16] at H
                    have c16b0 : (t171 == 431) = true := beq_iff_eq.mpr c16
                    have c16b1 : (t171 != 431) = false := bne_eq_false_iff_eq.mpr c16
                    clear c16
                    have H' := Aside0.mk H
                    clear H
                    go_wp2
                    go_meet
                    case rel => exact ⟨_, H', ⟨by have := HK1.out; first | omega | exact Nat.le_refl _⟩, ⟨by (with_reducible repeat (first | refine blk_drewN ?_ _ | refine blk_drew ?_ | refine blk_alloc ?_ _)); refine blk_put (cs := #[.string t166, .string t167, .string t168, .bool false]) ?_ 3 _ rfl; (with_reducible repeat (first | refine blk_drewN ?_ _ | refine blk_drew ?_ | refine blk_alloc ?_ _)); refine blk_put (cs := #[.string t166, .string t167, .string (⟨#[]⟩ : ByteArray), .bool false]) ?_ 2 _ rfl; (with_reducible repeat (first | refine blk_drewN ?_ _ | refine blk_drew ?_ | refine blk_alloc ?_ _)); refine blk_put (cs := #[.string t166, .string (⟨#[]⟩ : ByteArray), .string (⟨#[]⟩ : ByteArray), .bool false]) ?_ 1 _ rfl; (with_reducible repeat (first | refine blk_drewN ?_ _ | refine blk_drew ?_ | refine blk_alloc ?_ _)); refine blk_put (cs := #[.string (⟨#[]⟩ : ByteArray), .string (⟨#[]⟩ : ByteArray), .string (⟨#[]⟩ : ByteArray), .bool false]) ?_ 0 _ rfl; (with_reducible repeat (first | refine blk_drewN ?_ _ | refine blk_drew ?_ | refine blk_alloc ?_ _)); exact BK172.out⟩, ⟨by repeat (first | (with_reducible first | exact HB.out | apply below_alloc | apply pw_below_drewN | apply below_drew1 | refine below_set ?_ GE172.out) | exact HB.out)⟩⟩
                  · rw [if_neg c16] at H
                    have c16b0 : (t171 == 431) = false := beq_eq_false_iff_ne.mpr c16
                    have c16b1 : (t171 != 431) = true := bne_iff_ne.mpr c16
                    exact absurd (HR_.out.symm.trans (Option.some.inj H).symm) (by decide)
                · rw [if_neg c15] at H
                  have c15b0 : (t170 == 0) = false := beq_eq_false_iff_ne.mpr c15
                  have c15b1 : (t170 != 0) = true := bne_iff_ne.mpr c15
                  exact absurd (HR_.out.symm.trans (Option.some.inj H).symm) (by decide)
              · rw [if_neg c14] at H
                have c14b0 : decide (30 < (Int.tmod (wrap64 (a0)) 40)) = false := decide_eq_false c14
                clear c14
                (first | rw [c14b0] | (simp only [i64_w, i32_w]; rw [c14b0]) | skip)
                by_cases c17 : t170 = (wrap64 ((x6_1.size : Int) + 2))
                · rw [if_pos c17] at H
                  have c17b0 : (t170 == (wrap64 ((x6_1.size : Int) + 2))) = true := beq_iff_eq.mpr c17
                  have c17b1 : (t170 != (wrap64 ((x6_1.size : Int) + 2))) = false := bne_eq_false_iff_eq.mpr c17
                  have c17z0 : (t170 = (x6_1.size : Int) + 2) = True := eq_true (by rw [c17]; exact (w_two _ (by assumption)))
                  have c17z1 : decide (t170 = (x6_1.size : Int) + 2) = true := by simp only [c17z0, decide_true, decide_false]
                  have c17z2 : (t170 == (x6_1.size : Int) + 2) = true := beq_iff_eq.2 (of_eq_true c17z0)
                  clear c17
                  by_cases c18 : t171 = 0
                  · rw [if_pos c18] at H
                    have c18b0 : (t171 == 0) = true := beq_iff_eq.mpr c18
                    have c18b1 : (t171 != 0) = false := bne_eq_false_iff_eq.mpr c18
                    clear c18
                    have H' := Aside0.mk H
                    clear H
                    go_wp2
                    go_meet
                    case rel => exact ⟨_, H', ⟨by have := HK1.out; first | omega | exact Nat.le_refl _⟩, ⟨by (with_reducible repeat (first | refine blk_drewN ?_ _ | refine blk_drew ?_ | refine blk_alloc ?_ _)); refine blk_put (cs := #[.string t166, .string t167, .string t168, .bool false]) ?_ 3 _ rfl; (with_reducible repeat (first | refine blk_drewN ?_ _ | refine blk_drew ?_ | refine blk_alloc ?_ _)); refine blk_put (cs := #[.string t166, .string t167, .string (⟨#[]⟩ : ByteArray), .bool false]) ?_ 2 _ rfl; (with_reducible repeat (first | refine blk_drewN ?_ _ | refine blk_drew ?_ | refine blk_alloc ?_ _)); refine blk_put (cs := #[.string t166, .string (⟨#[]⟩ : ByteArray), .string (⟨#[]⟩ : ByteArray), .bool false]) ?_ 1 _ rfl; (with_reducible repeat (first | refine blk_drewN ?_ _ | refine blk_drew ?_ | refine blk_alloc ?_ _)); refine blk_put (cs := #[.string (⟨#[]⟩ : ByteArray), .string (⟨#[]⟩ : ByteArray), .string (⟨#[]⟩ : ByteArray), .bool false]) ?_ 0 _ rfl; (with_reducible repeat (first | refine blk_drewN ?_ _ | refine blk_drew ?_ | refine blk_alloc ?_ _)); exact BK172.out⟩, ⟨by repeat (first | (with_reducible first | exact HB.out | apply below_alloc | apply pw_below_drewN | apply below_drew1 | refine below_set ?_ GE172.out) | exact HB.out)⟩⟩
                  · rw [if_neg c18] at H
                    have c18b0 : (t171 == 0) = false := beq_eq_false_iff_ne.mpr c18
                    have c18b1 : (t171 != 0) = true := bne_iff_ne.mpr c18
                    exact absurd (HR_.out.symm.trans (Option.some.inj H).symm) (by decide)
                · rw [if_neg c17] at H
                  have c17b0 : (t170 == (wrap64 ((x6_1.size : Int) + 2))) = false := beq_eq_false_iff_ne.mpr c17
                  have c17b1 : (t170 != (wrap64 ((x6_1.size : Int) + 2))) = true := bne_iff_ne.mpr c17
                  have c17z0 : (t170 = (x6_1.size : Int) + 2) = False := eq_false (by rw [(w_two _ (by assumption)).symm]; exact c17)
                  have c17z1 : decide (t170 = (x6_1.size : Int) + 2) = false := by simp only [c17z0, decide_true, decide_false]
                  have c17z2 : (t170 == (x6_1.size : Int) + 2) = false := beq_eq_false_iff_ne.2 (of_eq_false c17z0)
                  exact absurd (HR_.out.symm.trans (Option.some.inj H).symm) (by decide)
            case rest =>
              clear HC10
              try clear c1
              try clear p2
              try clear c4
              try clear c5
              try clear c6
              try clear c6b0
              try clear p6
              try clear c7
              try clear c7b0
              try clear c7b1
              try clear c7b2
              try clear c8
              try clear c8b0
              try clear c8b1
              try clear c8b2
              try clear c9
              try clear c10
              try clear c14
              try clear c14b0
              try clear c15
              try clear c15b0
              try clear c15b1
              try clear c16
              try clear c16b0
              try clear c16b1
              try clear c17
              try clear c17b0
              try clear c17b1
              try clear c18
              try clear c18b0
              try clear c18b1
              try clear hcz13_0
              try clear hcz13_1
              try clear hcz13_2
              try clear hcz13_3
              try clear hfz13_0
              try clear hfz13_1
              try clear hfz13_2
              try clear hfz13_3
              try clear p2
              obtain ⟨kq, HA, HJ9, BK172, HB⟩ := hcut
              cases kq with
              | zero => exact absurd HA.out (by simp [fascinelaw12_HttpLines.j1])
              | succ kj9 =>
                have H := HA.out
                clear HA
                simp only [fascinelaw12_HttpLines.j1] at H
                obtain ⟨ji19, hji19⟩ : ∃ j_ : Int, (Int.tmod (wrap64 (a1)) 3000) = j_ := ⟨_, rfl⟩
                replace H : (if 0 ≤ (ji19) then (if (ji19 : Int).toNat ≤ 281474976710656 then (fascinelaw12_HttpLines.l1 kj9 ji19 (List.replicate (ji19 : Int).toNat 0) 0) else (none)) else (none)) = some r := by first | (rw [hji19] at H; exact H) | (simp only [hji19] at H ⊢; exact H)
                by_cases c20 : 0 ≤ (ji19)
                · rw [if_pos c20] at H
                  have c20b0 := eq_true c20
                  have c20b1 : decide (0 ≤ (ji19)) = true := decide_eq_true c20
                  clear c20
                  by_cases c21 : (ji19 : Int).toNat ≤ 281474976710656
                  · rw [if_pos c21] at H
                    have c21b0 := eq_true c21
                    have c21b1 : decide ((ji19 : Int).toNat ≤ 281474976710656) = true := decide_eq_true c21
                    clear c21
                    obtain ⟨y173, hy173⟩ : ∃ y_ : List Int, y_ = (List.replicate (ji19 : Int).toNat 0) := ⟨_, rfl⟩
                    replace H : (fascinelaw12_HttpLines.l1 kj9 ji19 y173 0) = some r := by first | (rw [hy173]; with_reducible exact H) | (have H2_ := (Option.bind_some _ _).symm.trans H; rw [hy173]; with_reducible exact H2_) | (have H2_ := (Option.bind_some _ _).symm.trans H; with_reducible exact H2_) | with_reducible exact H | (rw [hy173]; exact H) | exact H
                    have Ny173 := Aside0.mk hy173
                    clear hy173
                    have H' := Aside0.mk H
                    clear H
                    go_wp2_with (first | ((with_reducible refine gate_dst (N := 55) rfl ?_); refine Kd.R_make (Kd.int .u8) _ 5 rfl (N := 55) rfl 31 _ _ rfl ji19 rfl rfl Tryd.underlying31 (.int .u8 0) 1 info5 rfl (by decide) (by omega) 0 (ok := fun _ => True) (okp := fun _ => True) rfl (fun _ hk => hk) trivial (of_decide_eq_true (by first | (with_reducible assumption) | assumption)) (Nat.le_trans (Nat.mul_le_mul_right _ (of_decide_eq_true (by first | (with_reducible assumption) | assumption) : ji19.toNat ≤ 281474976710656)) (by omega)) (Below.refl _ _) (Nat.le_refl _) ?_; intro v174 w22 ho23 hb hg_ hnew_; clear hg_ hnew_; (first | rw [← Ny173.out] at ho23 | (simp only [Int.reduceToNat] at ho23; rw [← Ny173.out] at ho23)); have n0_ := Aside0.mk (Kd.R_lower ho23 (below_size (by repeat (first | (with_reducible first | exact HB.out | apply below_alloc | apply pw_below_drewN | apply below_drew1 | refine below_set ?_ GE172.out) | exact HB.out)))); have n1_ := Aside0.mk (blk_below (g := gb172) (o := .cells #[.string t166, .string t167, .string t168, .bool t169] 24 (0, 0)) (by (with_reducible repeat (first | refine blk_drewN ?_ _ | refine blk_drew ?_ | refine blk_alloc ?_ _)); exact BK172.out) hb); have n2_ := Aside0.mk (below_step (by repeat (first | (with_reducible first | exact HB.out | apply below_alloc | apply pw_below_drewN | apply below_drew1 | refine below_set ?_ GE172.out) | exact HB.out)) hb); clear BK172; clear HB; have HO175 := n0_; have BK172 := n1_; have HB := n2_; clear n0_ n1_ n2_; clear hb ho23))
                    go_loopg [13] kj9 (fun kq v13 w' => ∃ (x12_3 : List Int) (x13_3 : Int), v13 = .int .i64 x13_3 ∧ Aside0 (fascinelaw12_HttpLines.l1 kq ji19 x12_3 x13_3 = some r) ∧ Aside0 (kq ≤ kj9) ∧ Aside0 (Kd.R (Kd.int .u8) 5 w' w.heap.size (fun _ => True) v174 x12_3) ∧ Aside0 (w'.heap[gb172]? = some (.cells #[.string t166, .string t167, .string t168, .bool t169] 24 (0, 0))) ∧ Aside0 (Below w.heap.size w w'))
                    case atStart => exact ⟨(y173), (0), (by first | rfl | (simp; done) | (simp [*]; done)), H', ⟨Nat.le_refl _⟩, ⟨by (with_reducible repeat (first | apply Kd.R_alloc | apply Kd.R_drewN | apply Kd.R_drew)); exact HO175.out⟩, ⟨by (with_reducible repeat (first | refine blk_drewN ?_ _ | refine blk_drew ?_ | refine blk_alloc ?_ _)); exact BK172.out⟩, ⟨by repeat (first | (with_reducible first | exact HB.out | apply below_alloc | apply pw_below_drewN | apply below_drew1 | refine below_set ?_ GE172.out) | exact HB.out)⟩⟩
                    case round =>
                      clear H'
                      try clear c1
                      try clear c2
                      try clear p2
                      try clear c4
                      try clear c5
                      try clear c6
                      try clear c6b0
                      try clear p6
                      try clear c7
                      try clear c7b0
                      try clear c7b1
                      try clear c7b2
                      try clear c8
                      try clear c8b0
                      try clear c8b1
                      try clear c8b2
                      try clear c9
                      try clear c10
                      try clear c14
                      try clear c14b0
                      try clear c15
                      try clear c15b0
                      try clear c15b1
                      try clear c16
                      try clear c16b0
                      try clear c16b1
                      try clear c17
                      try clear c17b0
                      try clear c17b1
                      try clear c18
                      try clear c18b0
                      try clear c18b1
                      try clear c20
                      try clear c20b0
                      try clear c20b1
                      try clear c21
                      try clear c21b0
                      try clear c21b1
                      try clear hcz13_0
                      try clear hcz13_1
                      try clear hcz13_2
                      try clear hcz13_3
                      try clear hfz13_0
                      try clear hfz13_1
                      try clear hfz13_2
                      try clear hfz13_3
                      try clear p2
                      try clear p6
                      obtain ⟨x12_3, x13_3, rfl, HA, HK3, HO_12, BK172, HB⟩ := hrel
                      cases gk with
                      | zero => exact absurd HA.out (by simp [fascinelaw12_HttpLines.l1])
                      | succ k3 =>
                        have H := HA.out
                        clear HA
                        simp only [fascinelaw12_HttpLines.l1] at H
                        by_cases c24 : x13_3 < ji19
                        · rw [if_pos c24] at H
                          have c24b0 : decide (x13_3 < ji19) = true := decide_eq_true c24
                          clear c24
                          by_cases c25 : 0 ≤ x13_3
                          · rw [if_pos c25] at H
                            have c25b0 : decide (0 ≤ x13_3) = true := decide_eq_true c25
                            clear c25
                            by_cases c26 : x13_3 < (x12_3.length : Int)
                            · rw [if_pos c26] at H
                              have c26b0 : decide (x13_3 < (x12_3.length : Int)) = true := decide_eq_true c26
                              clear c26
                              obtain ⟨y176, hy176⟩ : ∃ y_ : List Int, y_ = (x12_3.set (x13_3 : Int).toNat 98) := ⟨_, rfl⟩
                              replace H : (fascinelaw12_HttpLines.l1 k3 ji19 y176 (wrap64 (x13_3 + 1))) = some r := by first | (rw [hy176]; with_reducible exact H) | (have H2_ := (Option.bind_some _ _).symm.trans H; rw [hy176]; with_reducible exact H2_) | (have H2_ := (Option.bind_some _ _).symm.trans H; with_reducible exact H2_) | with_reducible exact H | (rw [hy176]; exact H) | exact H
                              have Ny176 := Aside0.mk hy176
                              clear hy176
                              have H' := Aside0.mk H
                              clear H
                              have p27 : 0 ≤ (x13_3 : Int) := of_decide_eq_true (by first | (with_reducible assumption) | assumption)
                              have q27 : (x13_3 : Int) < ((x12_3.length : Int) : Int) := of_decide_eq_true (by first | (with_reducible assumption) | assumption)
                              obtain ⟨go27, co27, eo27, gb27, gl27, cl27, HG27⟩ := Kd.R_form HO_12.out (by omega)
                              (first | cases eo27 | (injection eo27 with ea_ en_ ec_; (first | subst ea_ | (injection ea_ with ea_; subst ea_)); subst ec_; clear en_))
                              have GB27 := Aside0.mk gb27
                              have GG27 := Aside0.mk HG27
                              clear gb27 gl27 HG27
                              obtain ⟨hx27_0, hf27_0⟩ := Kd.R_celln 0 HO_12.out (x13_3 : Int) p27 q27
                              replace p27 := eq_true p27
                              replace q27 := eq_true q27
                              have HP28 := Kd.R_putg HO_12.out (x13_3 : Int) 98
                              go_wp2_with (first | ((with_reducible refine gate_store (t := 5) (p := 63) rfl ?_); refine store_event (t := 5) (p := 63) (v := ?vo_w29) (w1 := (wr.setCell ⟨go27, (x13_3 : Int).toNat, none⟩ (.int .u8 98))) ?hg ?ho ?hn ?hr ?_; (case ho => rfl); (case hg => rfl); (case hn => rfl); (case hr => first | (go_simp; done) | (go_simp; rfl)); intro w29 hw; have hg : wr.grownBy w29 (some go27) := (by rw [hw]; exact HP28.2); have hp_ : Kd.R (Kd.int .u8) 5 w29 w.heap.size (fun _ => True) (.slice (some ⟨go27, 0, none⟩) x12_3.length co27) y176 := (by rw [hw, Ny176.out]; exact HP28.1); clear HP28; have n0_ := Aside0.mk (hp_); have n1_ := Aside0.mk (blk_grown (g := gb172) (o := .cells #[.string t166, .string t167, .string t168, .bool t169] 24 (0, 0)) (by (with_reducible repeat (first | refine blk_drewN ?_ _ | refine blk_drew ?_ | refine blk_alloc ?_ _)); exact BK172.out) hg (Kd.R_ne HO_12.out BK172.out (by decide))); have n2_ := Aside0.mk ((by rw [hw]; exact below_set (HB.out) GB27.out : Below w.heap.size w w29)); clear HO_12; clear BK172; clear HB; have HO_12 := n0_; have BK172 := n1_; have HB := n2_; clear n0_ n1_ n2_; clear hg hw hp_))
                              go_roundg k3
                              case measure => have := HK1.out; have := HJ9.out; have := HK3.out; omega
                              case rel => exact ⟨(y176), (wrap64 (x13_3 + 1)), (by first | rfl | (simp; done) | (simp [*]; done)), H', ⟨by have := HK1.out; have := HJ9.out; have := HK3.out; omega⟩, ⟨by (with_reducible repeat (first | apply Kd.R_alloc | apply Kd.R_drewN | apply Kd.R_drew)); exact HO_12.out⟩, ⟨by (with_reducible repeat (first | refine blk_drewN ?_ _ | refine blk_drew ?_ | refine blk_alloc ?_ _)); exact BK172.out⟩, ⟨by repeat (first | (with_reducible first | exact HB.out | apply below_alloc | apply pw_below_drewN | apply below_drew1 | refine below_set ?_ GE172.out) | exact HB.out)⟩⟩
                            · rw [if_neg c26] at H
                              exact absurd H (by simp)
                          · rw [if_neg c25] at H
                            exact absurd H (by simp)
                        · rw [if_neg c24] at H
                          have c24b0 : decide (x13_3 < ji19) = false := decide_eq_false c24
                          clear c24
                          by_cases c30 : 33 + (strOfNums x12_3).size ≤ 9223372036854775807
                          · rw [if_pos c30] at H
                            have c30b0 := eq_true c30
                            have c30b1 : decide (33 + (strOfNums x12_3).size ≤ 9223372036854775807) = true := decide_eq_true c30
                            try have c30b2 : (9223372036854775807 < 33 + (strOfNums x12_3).size) = False := eq_false (Nat.not_lt.2 c30)
                            by_cases c31 : 33 + (strOfNums x12_3).size + 4 ≤ 9223372036854775807
                            · rw [if_pos c31] at H
                              have c31b0 := eq_true c31
                              have c31b1 : decide (33 + (strOfNums x12_3).size + 4 ≤ 9223372036854775807) = true := decide_eq_true c31
                              try have c31b2 : (9223372036854775807 < 33 + (strOfNums x12_3).size + 4) = False := eq_false (Nat.not_lt.2 c31)
                              replace H := Option.bind_eq_some_iff.mp H
                              obtain ⟨⟨t177, t178, t179, t180, t181, t182⟩, A320, H⟩ := H
                              replace H : (if ((((⟨#[71, 69, 84, 32, 47, 116, 97, 98, 108, 101, 32, 72, 84, 84, 80, 47, 49, 46, 49, 13, 10, 72, 111, 115, 116, 58, 32, 120, 13, 10, 97, 58, 32]⟩ : ByteArray) ++ (strOfNums x12_3)) ++ (⟨#[13, 10, 13, 10]⟩ : ByteArray)).size : Int) > 2048 then (if t181 = 0 then (some (t182 == 431)) else (some false)) else (if t181 = ((((⟨#[71, 69, 84, 32, 47, 116, 97, 98, 108, 101, 32, 72, 84, 84, 80, 47, 49, 46, 49, 13, 10, 72, 111, 115, 116, 58, 32, 120, 13, 10, 97, 58, 32]⟩ : ByteArray) ++ (strOfNums x12_3)) ++ (⟨#[13, 10, 13, 10]⟩ : ByteArray)).size : Int) then (some (t182 == 0)) else (some false))) = some r := H
                              have A32 := Aside0.mk A320
                              clear A320
                              have hz_ : Unit → ((((⟨#[71, 69, 84, 32, 47, 116, 97, 98, 108, 101, 32, 72, 84, 84, 80, 47, 49, 46, 49, 13, 10, 72, 111, 115, 116, 58, 32, 120, 13, 10, 97, 58, 32]⟩ : ByteArray) ++ (strOfNums x12_3)) ++ (⟨#[13, 10, 13, 10]⟩ : ByteArray)).size : Int) = 33 + ((strOfNums x12_3).size : Int) + 4 := fun _ => by
                                rw [ByteArray.size_append, ByteArray.size_append]; show ((33 + (strOfNums x12_3).size + 4 : Nat) : Int) = _; omega
                              by_cases c33 : ((((⟨#[71, 69, 84, 32, 47, 116, 97, 98, 108, 101, 32, 72, 84, 84, 80, 47, 49, 46, 49, 13, 10, 72, 111, 115, 116, 58, 32, 120, 13, 10, 97, 58, 32]⟩ : ByteArray) ++ (strOfNums x12_3)) ++ (⟨#[13, 10, 13, 10]⟩ : ByteArray)).size : Int) > 2048
                              · rw [if_pos c33] at H
                                have c33b0 : decide (2048 < ((((⟨#[71, 69, 84, 32, 47, 116, 97, 98, 108, 101, 32, 72, 84, 84, 80, 47, 49, 46, 49, 13, 10, 72, 111, 115, 116, 58, 32, 120, 13, 10, 97, 58, 32]⟩ : ByteArray) ++ (strOfNums x12_3)) ++ (⟨#[13, 10, 13, 10]⟩ : ByteArray)).size : Int)) = true := decide_eq_true c33
                                have c33y0 : (2048 < 33 + ((strOfNums x12_3).size : Int) + 4) = True := eq_true (by rw [← hz_ ()]; exact c33)
                                have c33y1 : decide (2048 < 33 + ((strOfNums x12_3).size : Int) + 4) = true := by simp only [c33y0, decide_true, decide_false]
                                have c33y2 : (33 + ((strOfNums x12_3).size : Int) + 4 ≤ 2048) = False := eq_false (Int.not_le.2 (of_eq_true c33y0))
                                have c33b1 : decide (2048 < (((⟨#[71, 69, 84, 32, 47, 116, 97, 98, 108, 101, 32, 72, 84, 84, 80, 47, 49, 46, 49, 13, 10, 72, 111, 115, 116, 58, 32, 120, 13, 10, 97, 58, 32]⟩ : ByteArray) ++ (strOfNums x12_3)) ++ (⟨#[13, 10, 13, 10]⟩ : ByteArray)).size) = true := decide_eq_true (by omega)
                                clear c33
                                by_cases c34 : t181 = 0
                                · rw [if_pos c34] at H
                                  have c34b0 : (t181 == 0) = true := beq_iff_eq.mpr c34
                                  have c34b1 : (t181 != 0) = false := bne_eq_false_iff_eq.mpr c34
                                  clear c34
                                  obtain rfl := Option.some.inj H
                                  have hcv35 := own_string (P := Tryd.prog) Tryd.underlying31 Tryd.underlying5 Tryd.underlying9 (Kd.own_of_R HO_12.out)
                                  have hcq36 := fun (nq_ : Nat) => own_string (P := Tryd.prog) Tryd.underlying31 Tryd.underlying5 Tryd.underlying9 (Kd.own_of_R (Kd.R_drewN HO_12.out nq_))
                                  go_wp2_with (first | ((with_reducible refine gate_callee (f := 10) rfl ?_); refine goesL_ (some 70) rfl rfl Tryd.func10 (by kernel_rfl) rfl #[.string (((⟨#[71, 69, 84, 32, 47, 116, 97, 98, 108, 101, 32, 72, 84, 84, 80, 47, 49, 46, 49, 13, 10, 72, 111, 115, 116, 58, 32, 120, 13, 10, 97, 58, 32]⟩ : ByteArray) ++ (strOfNums x12_3)) ++ (⟨#[13, 10, 13, 10]⟩ : ByteArray))] rfl (by (try simp only [List.map_toArray, List.map_cons, List.map_nil]); first | done | rfl | (simp only [List.length_drop, List.length_take]; rfl)) ?_; (with_reducible refine (http_Read.calls k3 (((⟨#[71, 69, 84, 32, 47, 116, 97, 98, 108, 101, 32, 72, 84, 84, 80, 47, 49, 46, 49, 13, 10, 72, 111, 115, 116, 58, 32, 120, 13, 10, 97, 58, 32]⟩ : ByteArray) ++ (strOfNums x12_3)) ++ (⟨#[13, 10, 13, 10]⟩ : ByteArray)) t177 t178 t179 t180 t181 t182 _ ?side1 A32.out).mono ?_); (case side1 => first | exact HT.out | exact tabs_below HT.out (by repeat (first | (with_reducible first | exact HB.out | apply below_alloc | apply pw_below_drewN | apply below_drew1 | refine below_set ?_ GE172.out) | exact HB.out))); rintro e w37 ⟨rfl, hb⟩; refine ⟨_, rfl, ?_⟩; have n0_ := Aside0.mk (Kd.R_below (by (with_reducible repeat (first | apply Kd.R_alloc | apply Kd.R_drewN | apply Kd.R_drew)); exact HO_12.out) hb); have n1_ := Aside0.mk (blk_below (g := gb172) (o := .cells #[.string t166, .string t167, .string t168, .bool t169] 24 (0, 0)) (by (with_reducible repeat (first | refine blk_drewN ?_ _ | refine blk_drew ?_ | refine blk_alloc ?_ _)); exact BK172.out) hb); have n2_ := Aside0.mk (below_step (by repeat (first | (with_reducible first | exact HB.out | apply below_alloc | apply pw_below_drewN | apply below_drew1 | refine below_set ?_ GE172.out) | exact HB.out)) hb); clear HO_12; clear BK172; clear HB; have HO_12 := n0_; have BK172 := n1_; have HB := n2_; clear n0_ n1_ n2_; (try clear hb); (try clear hb2); (try clear hk); (try clear hi)))
                                  go_ret
                                  exact ⟨by first | rfl | (simp [errW_none, errW_some] <;> rfl) | (simp only [← hji19]; first | rfl | (simp [errW_none, errW_some] <;> rfl)) | (simp [*, errW_none, errW_some] <;> rfl), by repeat (first | (with_reducible first | exact HB.out | apply below_alloc | apply pw_below_drewN | apply below_drew1 | refine below_set ?_ GE172.out) | exact HB.out)⟩
                                · rw [if_neg c34] at H
                                  have c34b0 : (t181 == 0) = false := beq_eq_false_iff_ne.mpr c34
                                  have c34b1 : (t181 != 0) = true := bne_iff_ne.mpr c34
                                  exact absurd (HR_.out.symm.trans (Option.some.inj H).symm) (by decide)
                              · rw [if_neg c33] at H
                                have c33b0 : decide (2048 < ((((⟨#[71, 69, 84, 32, 47, 116, 97, 98, 108, 101, 32, 72, 84, 84, 80, 47, 49, 46, 49, 13, 10, 72, 111, 115, 116, 58, 32, 120, 13, 10, 97, 58, 32]⟩ : ByteArray) ++ (strOfNums x12_3)) ++ (⟨#[13, 10, 13, 10]⟩ : ByteArray)).size : Int)) = false := decide_eq_false c33
                                have c33y0 : (2048 < 33 + ((strOfNums x12_3).size : Int) + 4) = False := eq_false (by rw [← hz_ ()]; exact c33)
                                have c33y1 : decide (2048 < 33 + ((strOfNums x12_3).size : Int) + 4) = false := by simp only [c33y0, decide_true, decide_false]
                                have c33y2 : (33 + ((strOfNums x12_3).size : Int) + 4 ≤ 2048) = True := eq_true (Int.not_lt.1 (of_eq_false c33y0))
                                have c33b1 : decide (2048 < (((⟨#[71, 69, 84, 32, 47, 116, 97, 98, 108, 101, 32, 72, 84, 84, 80, 47, 49, 46, 49, 13, 10, 72, 111, 115, 116, 58, 32, 120, 13, 10, 97, 58, 32]⟩ : ByteArray) ++ (strOfNums x12_3)) ++ (⟨#[13, 10, 13, 10]⟩ : ByteArray)).size) = false := decide_eq_false (by omega)
                                clear c33
                                by_cases c38 : t181 = ((((⟨#[71, 69, 84, 32, 47, 116, 97, 98, 108, 101, 32, 72, 84, 84, 80, 47, 49, 46, 49, 13, 10, 72, 111, 115, 116, 58, 32, 120, 13, 10, 97, 58, 32]⟩ : ByteArray) ++ (strOfNums x12_3)) ++ (⟨#[13, 10, 13, 10]⟩ : ByteArray)).size : Int)
                                · rw [if_pos c38] at H
                                  have c38b0 : (t181 == ((((⟨#[71, 69, 84, 32, 47, 116, 97, 98, 108, 101, 32, 72, 84, 84, 80, 47, 49, 46, 49, 13, 10, 72, 111, 115, 116, 58, 32, 120, 13, 10, 97, 58, 32]⟩ : ByteArray) ++ (strOfNums x12_3)) ++ (⟨#[13, 10, 13, 10]⟩ : ByteArray)).size : Int)) = true := beq_iff_eq.mpr c38
                                  have c38y0 : (t181 = 33 + ((strOfNums x12_3).size : Int) + 4) = True := eq_true (by rw [← hz_ ()]; exact c38)
                                  have c38y1 : decide (t181 = 33 + ((strOfNums x12_3).size : Int) + 4) = true := by simp only [c38y0, decide_true, decide_false]
                                  have c38y2 : (t181 == 33 + ((strOfNums x12_3).size : Int) + 4) = true := beq_iff_eq.2 (of_eq_true c38y0)
                                  have c38b1 : (t181 != ((((⟨#[71, 69, 84, 32, 47, 116, 97, 98, 108, 101, 32, 72, 84, 84, 80, 47, 49, 46, 49, 13, 10, 72, 111, 115, 116, 58, 32, 120, 13, 10, 97, 58, 32]⟩ : ByteArray) ++ (strOfNums x12_3)) ++ (⟨#[13, 10, 13, 10]⟩ : ByteArray)).size : Int)) = false := bne_eq_false_iff_eq.mpr c38
                                  clear c38
                                  obtain rfl := Option.some.inj H
                                  have hcv39 := own_string (P := Tryd.prog) Tryd.underlying31 Tryd.underlying5 Tryd.underlying9 (Kd.own_of_R HO_12.out)
                                  have hcq40 := fun (nq_ : Nat) => own_string (P := Tryd.prog) Tryd.underlying31 Tryd.underlying5 Tryd.underlying9 (Kd.own_of_R (Kd.R_drewN HO_12.out nq_))
                                  go_wp2_with (first | ((with_reducible refine gate_callee (f := 10) rfl ?_); refine goesL_ (some 70) rfl rfl Tryd.func10 (by kernel_rfl) rfl #[.string (((⟨#[71, 69, 84, 32, 47, 116, 97, 98, 108, 101, 32, 72, 84, 84, 80, 47, 49, 46, 49, 13, 10, 72, 111, 115, 116, 58, 32, 120, 13, 10, 97, 58, 32]⟩ : ByteArray) ++ (strOfNums x12_3)) ++ (⟨#[13, 10, 13, 10]⟩ : ByteArray))] rfl (by (try simp only [List.map_toArray, List.map_cons, List.map_nil]); first | done | rfl | (simp only [List.length_drop, List.length_take]; rfl)) ?_; (with_reducible refine (http_Read.calls k3 (((⟨#[71, 69, 84, 32, 47, 116, 97, 98, 108, 101, 32, 72, 84, 84, 80, 47, 49, 46, 49, 13, 10, 72, 111, 115, 116, 58, 32, 120, 13, 10, 97, 58, 32]⟩ : ByteArray) ++ (strOfNums x12_3)) ++ (⟨#[13, 10, 13, 10]⟩ : ByteArray)) t177 t178 t179 t180 t181 t182 _ ?side1 A32.out).mono ?_); (case side1 => first | exact HT.out | exact tabs_below HT.out (by repeat (first | (with_reducible first | exact HB.out | apply below_alloc | apply pw_below_drewN | apply below_drew1 | refine below_set ?_ GE172.out) | exact HB.out))); rintro e w41 ⟨rfl, hb⟩; refine ⟨_, rfl, ?_⟩; have n0_ := Aside0.mk (Kd.R_below (by (with_reducible repeat (first | apply Kd.R_alloc | apply Kd.R_drewN | apply Kd.R_drew)); exact HO_12.out) hb); have n1_ := Aside0.mk (blk_below (g := gb172) (o := .cells #[.string t166, .string t167, .string t168, .bool t169] 24 (0, 0)) (by (with_reducible repeat (first | refine blk_drewN ?_ _ | refine blk_drew ?_ | refine blk_alloc ?_ _)); exact BK172.out) hb); have n2_ := Aside0.mk (below_step (by repeat (first | (with_reducible first | exact HB.out | apply below_alloc | apply pw_below_drewN | apply below_drew1 | refine below_set ?_ GE172.out) | exact HB.out)) hb); clear HO_12; clear BK172; clear HB; have HO_12 := n0_; have BK172 := n1_; have HB := n2_; clear n0_ n1_ n2_; (try clear hb); (try clear hb2); (try clear hk); (try clear hi)))
                                  go_ret
                                  exact ⟨by first | rfl | (simp [errW_none, errW_some] <;> rfl) | (simp only [← hji19]; first | rfl | (simp [errW_none, errW_some] <;> rfl)) | (simp [*, errW_none, errW_some] <;> rfl), by repeat (first | (with_reducible first | exact HB.out | apply below_alloc | apply pw_below_drewN | apply below_drew1 | refine below_set ?_ GE172.out) | exact HB.out)⟩
                                · rw [if_neg c38] at H
                                  have c38b0 : (t181 == ((((⟨#[71, 69, 84, 32, 47, 116, 97, 98, 108, 101, 32, 72, 84, 84, 80, 47, 49, 46, 49, 13, 10, 72, 111, 115, 116, 58, 32, 120, 13, 10, 97, 58, 32]⟩ : ByteArray) ++ (strOfNums x12_3)) ++ (⟨#[13, 10, 13, 10]⟩ : ByteArray)).size : Int)) = false := beq_eq_false_iff_ne.mpr c38
                                  have c38y0 : (t181 = 33 + ((strOfNums x12_3).size : Int) + 4) = False := eq_false (by rw [← hz_ ()]; exact c38)
                                  have c38y1 : decide (t181 = 33 + ((strOfNums x12_3).size : Int) + 4) = false := by simp only [c38y0, decide_true, decide_false]
                                  have c38y2 : (t181 == 33 + ((strOfNums x12_3).size : Int) + 4) = false := beq_eq_false_iff_ne.2 (of_eq_false c38y0)
                                  have c38b1 : (t181 != ((((⟨#[71, 69, 84, 32, 47, 116, 97, 98, 108, 101, 32, 72, 84, 84, 80, 47, 49, 46, 49, 13, 10, 72, 111, 115, 116, 58, 32, 120, 13, 10, 97, 58, 32]⟩ : ByteArray) ++ (strOfNums x12_3)) ++ (⟨#[13, 10, 13, 10]⟩ : ByteArray)).size : Int)) = true := bne_iff_ne.mpr c38
                                  exact absurd (HR_.out.symm.trans (Option.some.inj H).symm) (by decide)
                            · rw [if_neg c31] at H
                              exact absurd H (by simp)
                          · rw [if_neg c30] at H
                            exact absurd H (by simp)
                  · rw [if_neg c21] at H
                    exact absurd H (by simp)
                · rw [if_neg c20] at H
                  exact absurd H (by simp)
          · rw [if_neg c8] at H
            exact absurd H (by simp)
  · replace c4 := Bool.eq_false_iff.mpr c4
    subst c4
    have H1 : (some false) = some r := by rw [if_neg (show ¬ (false = true) by decide)] at H; exact H
    clear H
    have H := H1
    clear H1
    exact absurd (HR_.out.symm.trans (Option.some.inj H).symm) (by decide)

/-- THE ONE PURE STATEMENT of fascinelaw12_HttpLines: yours. -/
def fascinelaw12_HttpLines.Pure : Prop := ∀ (a0 : Int) (a1 : Int), (Lit.int .u8 a0).wf = true → (Lit.int .u16 a1).wf = true → ∃ k, fascinelaw12_HttpLines.f k a0 a1 = some true
theorem fascinelaw12_HttpLines.walk (P : fascinelaw12_HttpLines.Pure) (a0 : Int) (a1 : Int) (w : World) (hT : tabs w) (w0 : (Lit.int .u8 a0).wf = true) (w1 : (Lit.int .u16 a1).wf = true) :
    Calls Tryd.prog 5 #[.int .u8 a0, .int .u16 a1] w fun e w' => e = .returned (.bool true) ∧ Below w.heap.size w w' := by
  obtain ⟨k, h⟩ := P a0 a1 w0 w1
  refine (fascinelaw12_HttpLines.calls k a0 a1 true w hT h rfl).mono ?_
  rintro e w' ⟨rfl, hd⟩
  exact ⟨rfl, hd⟩

end Go.Proofs.YtpigloohccpfiaaDoor.PHttpLines
-- TWO MORE
-- JOINED
