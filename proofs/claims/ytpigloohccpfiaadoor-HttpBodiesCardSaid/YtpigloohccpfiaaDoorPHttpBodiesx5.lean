-- WRITTEN BY A PROGRAM OF THIS SESSION (wip/patch_print.py: the kit's printer with rules of this session's own); Lean checks it.
import Derived.Test.YtpigloohccpfiaaDoorPHttpBodiesx0
import Derived.Test.YtpigloohccpfiaaDoorPHttpBodiesx4
namespace Go.Proofs.YtpigloohccpfiaaDoor.PHttpBodies
open Go.RowKit Go.Proofs.YtpigloohccpfiaaDoorW.PrintWords Go.Proofs.YtpigloohccpfiaaDoorW.PrintLast Go.Proofs.YtpigloohccpfiaaDoorW.PrintMore
open Go.Proofs.YtpigloohccpfiaaDoor.G
attribute [local go_sem] max2_int min2_int max_two min_two max_three min_three max_four min_four   -- for this text's walks alone
set_option linter.unusedVariables false
set_option linter.unusedSimpArgs false

/-! ### fascinelaw12_HttpBodies: function 6 -/
def fascinelaw12_HttpBodies.j0 : Nat → Int → ByteArray → Bool → Option (Bool)
  | 0, _, _, _ => none
  | k + 1, x0, x1, x20 => if x20 = true then ((fascinelaw12_awake.f k).bind fun t173 => (some t173)) else ((fascineref12_Dec.f k (Int.tmod (wrap64 (x0)) 10000)).bind fun t174 => (if 46 + t174.size ≤ 9223372036854775807 then (if 46 + t174.size + 4 ≤ 9223372036854775807 then ((http_Read.f k (((⟨#[80, 79, 83, 84, 32, 47, 100, 111, 99, 115, 32, 72, 84, 84, 80, 47, 49, 46, 49, 13, 10, 72, 111, 115, 116, 58, 32, 120, 13, 10, 67, 111, 110, 116, 101, 110, 116, 45, 76, 101, 110, 103, 116, 104, 58, 32]⟩ : ByteArray) ++ t174) ++ (⟨#[13, 10, 13, 10]⟩ : ByteArray))).bind fun bt175 => (if (Int.tmod (wrap64 (x0)) 10000) > 8192 then (if bt175.2.2.2.2.1 = 0 then (some (bt175.2.2.2.2.2 == 413)) else (some false)) else (if 0 ≤ (Int.tmod (wrap64 (x0)) 10000) then (if (Int.tmod (wrap64 (x0)) 10000 : Int).toNat ≤ 281474976710656 then ((some (List.replicate (Int.tmod (wrap64 (x0)) 10000 : Int).toNat 0 : List Int)).bind fun y182 => (if 46 + t174.size + 4 + (strOfNums y182).size ≤ 9223372036854775807 then (if 46 + t174.size + 4 + (strOfNums y182).size + x1.size ≤ 9223372036854775807 then ((http_Read.f k (((((⟨#[80, 79, 83, 84, 32, 47, 100, 111, 99, 115, 32, 72, 84, 84, 80, 47, 49, 46, 49, 13, 10, 72, 111, 115, 116, 58, 32, 120, 13, 10, 67, 111, 110, 116, 101, 110, 116, 45, 76, 101, 110, 103, 116, 104, 58, 32]⟩ : ByteArray) ++ t174) ++ (⟨#[13, 10, 13, 10]⟩ : ByteArray)) ++ (strOfNums y182)) ++ x1)).bind fun bt185 => (if bt175.2.2.2.2.2 = 0 then (if ((decide (bt175.2.2.2.2.1 > 0)) == ((Int.tmod (wrap64 (x0)) 10000) == 0)) = true then (if bt185.2.2.2.2.2 = 0 then (if bt185.2.2.2.2.1 = (wrap64 (((((⟨#[80, 79, 83, 84, 32, 47, 100, 111, 99, 115, 32, 72, 84, 84, 80, 47, 49, 46, 49, 13, 10, 72, 111, 115, 116, 58, 32, 120, 13, 10, 67, 111, 110, 116, 101, 110, 116, 45, 76, 101, 110, 103, 116, 104, 58, 32]⟩ : ByteArray) ++ t174) ++ (⟨#[13, 10, 13, 10]⟩ : ByteArray)).size : Int) + (Int.tmod (wrap64 (x0)) 10000))) then (some (bt185.2.2.1.toList == (strOfNums y182).toList)) else (some false)) else (some false)) else (some false)) else (some false))) else (none)) else (none))) else (none)) else (none)))) else (none)) else (none)))
def fascinelaw12_HttpBodies.f (k : Nat) (a0 : Int) (a1 : ByteArray) : Option (Bool) := (fascinelaw12_awake.f k).bind fun t172 => (if t172 = true then (fascinelaw12_HttpBodies.j0 k a0 a1 (decide ((a1.size : Int) > 1000))) else (fascinelaw12_HttpBodies.j0 k a0 a1 true))
theorem fascinelaw12_HttpBodies.mono_l : ∀ k, (∀ y0 y1 y2, LeO (fascinelaw12_HttpBodies.j0 k y0 y1 y2) (fascinelaw12_HttpBodies.j0 (k + 1) y0 y1 y2))
  | 0 => fun _ _ _ r h => by simp [fascinelaw12_HttpBodies.j0] at h
  | k + 1 => by
    have ih0 := fascinelaw12_HttpBodies.mono_l k
    · intro y0 y1 y2
      unfold fascinelaw12_HttpBodies.j0
      repeat' first
      | (with_reducible exact ih0 _ _ _)
      | (with_reducible exact fascinelaw12_awake.mono _)
      | (with_reducible exact fascineref12_Dec.mono _ _)
      | (with_reducible exact http_Read.mono _ _)
      | (with_reducible exact LeO.refl _)
      | (with_reducible exact LeO.none _)
      | (with_reducible refine LeO.ite ?_ ?_)
      | (with_reducible refine LeO.bind ?_ (fun _ => ?_))
      | exact ih0 _ _ _
      | exact fascinelaw12_awake.mono _
      | exact fascineref12_Dec.mono _ _
      | exact http_Read.mono _ _
      | exact LeO.none _
      | refine LeO.ite ?_ ?_
      | refine LeO.bind ?_ (fun _ => ?_)
theorem fascinelaw12_HttpBodies.mono : ∀ a0 a1 k, LeO (fascinelaw12_HttpBodies.f k a0 a1) (fascinelaw12_HttpBodies.f (k + 1) a0 a1) := by
  intro a0 a1 k
  have ih0 := fascinelaw12_HttpBodies.mono_l k
  unfold fascinelaw12_HttpBodies.f
  repeat' first
      | (with_reducible exact ih0 _ _ _)
      | (with_reducible exact fascinelaw12_awake.mono _)
      | (with_reducible exact fascineref12_Dec.mono _ _)
      | (with_reducible exact http_Read.mono _ _)
      | (with_reducible exact LeO.refl _)
      | (with_reducible exact LeO.none _)
      | (with_reducible refine LeO.ite ?_ ?_)
      | (with_reducible refine LeO.bind ?_ (fun _ => ?_))
      | exact ih0 _ _ _
      | exact fascinelaw12_awake.mono _
      | exact fascineref12_Dec.mono _ _
      | exact http_Read.mono _ _
      | exact LeO.none _
      | refine LeO.ite ?_ ?_
      | refine LeO.bind ?_ (fun _ => ?_)
set_option maxHeartbeats 8000000 in
set_option maxRecDepth 100000 in
theorem fascinelaw12_HttpBodies.calls (k : Nat) (a0 : Int) (a1 : ByteArray) (r : Bool) (w : World) (hT : tabs w) (h : fascinelaw12_HttpBodies.f k a0 a1 = some r) (hr_ : r = true) :
    Calls Tryd.prog 6 #[.int .u16 a0, .string a1] w fun e w' => e = .returned (.bool r) ∧ Below w.heap.size w w' := by
  have HR_ := Aside0.mk hr_
  clear hr_
  have hu24 := Tryd.underlying24
  have HT := Aside0.mk hT
  clear hT
  have HB := Aside0.mk (Below.refl w.heap.size w)
  have H : ((fascinelaw12_awake.f k).bind fun t172 => (if t172 = true then (fascinelaw12_HttpBodies.j0 k a0 a1 (decide ((a1.size : Int) > 1000))) else (fascinelaw12_HttpBodies.j0 k a0 a1 true))) = some r := h
  clear h
  have HC3 := Aside0.mk H
  clear H
  go_enter Tryd.func6, Tryd.ntmps6
  go_upto_region 1 with (fail)
  go_cut [20] (fun v20 wc => ∃ (kq : Nat) (x20_2 : Bool), v20 = .bool x20_2 ∧ Aside0 (fascinelaw12_HttpBodies.j0 kq a0 a1 x20_2 = some r) ∧ Aside0 (kq ≤ k) ∧ Aside0 (Below w.heap.size w wc))
  case first =>
    have H := HC3.out
    clear HC3
    replace H := Option.bind_eq_some_iff.mp H
    obtain ⟨t172, A40, H⟩ := H
    replace H : (if t172 = true then (fascinelaw12_HttpBodies.j0 k a0 a1 (decide ((a1.size : Int) > 1000))) else (fascinelaw12_HttpBodies.j0 k a0 a1 true)) = some r := H
    have A4 := Aside0.mk A40
    clear A40
    by_cases c5 : t172 = true
    · subst c5
      have H1 : (fascinelaw12_HttpBodies.j0 k a0 a1 (decide ((a1.size : Int) > 1000))) = some r := by rw [if_pos rfl] at H; exact H
      clear H
      have H := H1
      clear H1
      have H' := Aside0.mk H
      clear H
      go_wp2_with (first | ((with_reducible refine gate_callee (f := 9) rfl ?_); refine goesL_ (some 14) rfl rfl Tryd.func9 (by kernel_rfl) rfl #[] rfl (by (try simp only [List.map_toArray, List.map_cons, List.map_nil]); first | done | rfl | (simp only [List.length_drop, List.length_take]; rfl)) ?_; (with_reducible refine (fascinelaw12_awake.calls k  true _ ?side1 A4.out).mono ?_); (case side1 => first | exact HT.out | exact tabs_below HT.out (by repeat (first | (with_reducible first | exact HB.out | apply below_alloc | apply pw_below_drewN | apply below_drew1) | exact HB.out))); rintro e w6 ⟨rfl, hb⟩; refine ⟨_, rfl, ?_⟩; have n0_ := Aside0.mk (below_step (by repeat (first | (with_reducible first | exact HB.out | apply below_alloc | apply pw_below_drewN | apply below_drew1) | exact HB.out)) hb); clear HB; have HB := n0_; clear n0_; (try clear hb); (try clear hb2); (try clear hk); (try clear hi)))
      go_meet
      case rel => exact ⟨_, (decide ((a1.size : Int) > 1000)), (by first | rfl | (simp; done) | (simp [*]; done)), H', ⟨by first | omega | exact Nat.le_refl _⟩, ⟨by repeat (first | (with_reducible first | exact HB.out | apply below_alloc | apply pw_below_drewN | apply below_drew1) | exact HB.out)⟩⟩
    · replace c5 := Bool.eq_false_iff.mpr c5
      subst c5
      have H1 : (fascinelaw12_HttpBodies.j0 k a0 a1 true) = some r := by rw [if_neg (show ¬ (false = true) by decide)] at H; exact H
      clear H
      have H := H1
      clear H1
      have H' := Aside0.mk H
      clear H
      go_wp2_with (first | ((with_reducible refine gate_callee (f := 9) rfl ?_); refine goesL_ (some 14) rfl rfl Tryd.func9 (by kernel_rfl) rfl #[] rfl (by (try simp only [List.map_toArray, List.map_cons, List.map_nil]); first | done | rfl | (simp only [List.length_drop, List.length_take]; rfl)) ?_; (with_reducible refine (fascinelaw12_awake.calls k  false _ ?side1 A4.out).mono ?_); (case side1 => first | exact HT.out | exact tabs_below HT.out (by repeat (first | (with_reducible first | exact HB.out | apply below_alloc | apply pw_below_drewN | apply below_drew1) | exact HB.out))); rintro e w7 ⟨rfl, hb⟩; refine ⟨_, rfl, ?_⟩; have n0_ := Aside0.mk (below_step (by repeat (first | (with_reducible first | exact HB.out | apply below_alloc | apply pw_below_drewN | apply below_drew1) | exact HB.out)) hb); clear HB; have HB := n0_; clear n0_; (try clear hb); (try clear hb2); (try clear hk); (try clear hi)))
      go_meet
      case rel => exact ⟨_, (true), (by first | rfl | (simp; done) | (simp [*]; done)), H', ⟨by first | omega | exact Nat.le_refl _⟩, ⟨by repeat (first | (with_reducible first | exact HB.out | apply below_alloc | apply pw_below_drewN | apply below_drew1) | exact HB.out)⟩⟩
  case rest =>
    clear HC3
    try clear p2
    try clear c5
    try clear c6
    obtain ⟨kq, x20_2, rfl, HA, HJ2, HB⟩ := hcut
    cases kq with
    | zero => exact absurd HA.out (by simp [fascinelaw12_HttpBodies.j0])
    | succ kj2 =>
      have H := HA.out
      clear HA
      simp only [fascinelaw12_HttpBodies.j0] at H
      by_cases c8 : x20_2 = true
      · subst c8
        have H1 : ((fascinelaw12_awake.f kj2).bind fun t173 => (some t173)) = some r := by rw [if_pos rfl] at H; exact H
        clear H
        have H := H1
        clear H1
        replace H := Option.bind_eq_some_iff.mp H
        obtain ⟨t173, A90, H⟩ := H
        replace H : (some t173) = some r := H
        have A9 := Aside0.mk A90
        clear A90
        obtain rfl := Option.some.inj H
        go_wp2_with (first | ((with_reducible refine gate_callee (f := 9) rfl ?_); refine goesL_ (some 21) rfl rfl Tryd.func9 (by kernel_rfl) rfl #[] rfl (by (try simp only [List.map_toArray, List.map_cons, List.map_nil]); first | done | rfl | (simp only [List.length_drop, List.length_take]; rfl)) ?_; (with_reducible refine (fascinelaw12_awake.calls kj2  t173 _ ?side1 A9.out).mono ?_); (case side1 => first | exact HT.out | exact tabs_below HT.out (by repeat (first | (with_reducible first | exact HB.out | apply below_alloc | apply pw_below_drewN | apply below_drew1) | exact HB.out))); rintro e w10 ⟨rfl, hb⟩; refine ⟨_, rfl, ?_⟩; have n0_ := Aside0.mk (below_step (by repeat (first | (with_reducible first | exact HB.out | apply below_alloc | apply pw_below_drewN | apply below_drew1) | exact HB.out)) hb); clear HB; have HB := n0_; clear n0_; (try clear hb); (try clear hb2); (try clear hk); (try clear hi)))
        go_ret
        exact ⟨by first | rfl | (simp [errW_none, errW_some] <;> rfl) | (simp [*, errW_none, errW_some] <;> rfl), by repeat (first | (with_reducible first | exact HB.out | apply below_alloc | apply pw_below_drewN | apply below_drew1) | exact HB.out)⟩
      · replace c8 := Bool.eq_false_iff.mpr c8
        subst c8
        have H1 : ((fascineref12_Dec.f kj2 (Int.tmod (wrap64 (a0)) 10000)).bind fun t174 => (if 46 + t174.size ≤ 9223372036854775807 then (if 46 + t174.size + 4 ≤ 9223372036854775807 then ((http_Read.f kj2 (((⟨#[80, 79, 83, 84, 32, 47, 100, 111, 99, 115, 32, 72, 84, 84, 80, 47, 49, 46, 49, 13, 10, 72, 111, 115, 116, 58, 32, 120, 13, 10, 67, 111, 110, 116, 101, 110, 116, 45, 76, 101, 110, 103, 116, 104, 58, 32]⟩ : ByteArray) ++ t174) ++ (⟨#[13, 10, 13, 10]⟩ : ByteArray))).bind fun bt175 => (if (Int.tmod (wrap64 (a0)) 10000) > 8192 then (if bt175.2.2.2.2.1 = 0 then (some (bt175.2.2.2.2.2 == 413)) else (some false)) else (if 0 ≤ (Int.tmod (wrap64 (a0)) 10000) then (if (Int.tmod (wrap64 (a0)) 10000 : Int).toNat ≤ 281474976710656 then ((some (List.replicate (Int.tmod (wrap64 (a0)) 10000 : Int).toNat 0 : List Int)).bind fun y182 => (if 46 + t174.size + 4 + (strOfNums y182).size ≤ 9223372036854775807 then (if 46 + t174.size + 4 + (strOfNums y182).size + a1.size ≤ 9223372036854775807 then ((http_Read.f kj2 (((((⟨#[80, 79, 83, 84, 32, 47, 100, 111, 99, 115, 32, 72, 84, 84, 80, 47, 49, 46, 49, 13, 10, 72, 111, 115, 116, 58, 32, 120, 13, 10, 67, 111, 110, 116, 101, 110, 116, 45, 76, 101, 110, 103, 116, 104, 58, 32]⟩ : ByteArray) ++ t174) ++ (⟨#[13, 10, 13, 10]⟩ : ByteArray)) ++ (strOfNums y182)) ++ a1)).bind fun bt185 => (if bt175.2.2.2.2.2 = 0 then (if ((decide (bt175.2.2.2.2.1 > 0)) == ((Int.tmod (wrap64 (a0)) 10000) == 0)) = true then (if bt185.2.2.2.2.2 = 0 then (if bt185.2.2.2.2.1 = (wrap64 (((((⟨#[80, 79, 83, 84, 32, 47, 100, 111, 99, 115, 32, 72, 84, 84, 80, 47, 49, 46, 49, 13, 10, 72, 111, 115, 116, 58, 32, 120, 13, 10, 67, 111, 110, 116, 101, 110, 116, 45, 76, 101, 110, 103, 116, 104, 58, 32]⟩ : ByteArray) ++ t174) ++ (⟨#[13, 10, 13, 10]⟩ : ByteArray)).size : Int) + (Int.tmod (wrap64 (a0)) 10000))) then (some (bt185.2.2.1.toList == (strOfNums y182).toList)) else (some false)) else (some false)) else (some false)) else (some false))) else (none)) else (none))) else (none)) else (none)))) else (none)) else (none))) = some r := by rw [if_neg (show ¬ (false = true) by decide)] at H; exact H
        clear H
        have H := H1
        clear H1
        replace H := Option.bind_eq_some_iff.mp H
        obtain ⟨t174, A110, H⟩ := H
        replace H : (if 46 + t174.size ≤ 9223372036854775807 then (if 46 + t174.size + 4 ≤ 9223372036854775807 then ((http_Read.f kj2 (((⟨#[80, 79, 83, 84, 32, 47, 100, 111, 99, 115, 32, 72, 84, 84, 80, 47, 49, 46, 49, 13, 10, 72, 111, 115, 116, 58, 32, 120, 13, 10, 67, 111, 110, 116, 101, 110, 116, 45, 76, 101, 110, 103, 116, 104, 58, 32]⟩ : ByteArray) ++ t174) ++ (⟨#[13, 10, 13, 10]⟩ : ByteArray))).bind fun bt175 => (if (Int.tmod (wrap64 (a0)) 10000) > 8192 then (if bt175.2.2.2.2.1 = 0 then (some (bt175.2.2.2.2.2 == 413)) else (some false)) else (if 0 ≤ (Int.tmod (wrap64 (a0)) 10000) then (if (Int.tmod (wrap64 (a0)) 10000 : Int).toNat ≤ 281474976710656 then ((some (List.replicate (Int.tmod (wrap64 (a0)) 10000 : Int).toNat 0 : List Int)).bind fun y182 => (if 46 + t174.size + 4 + (strOfNums y182).size ≤ 9223372036854775807 then (if 46 + t174.size + 4 + (strOfNums y182).size + a1.size ≤ 9223372036854775807 then ((http_Read.f kj2 (((((⟨#[80, 79, 83, 84, 32, 47, 100, 111, 99, 115, 32, 72, 84, 84, 80, 47, 49, 46, 49, 13, 10, 72, 111, 115, 116, 58, 32, 120, 13, 10, 67, 111, 110, 116, 101, 110, 116, 45, 76, 101, 110, 103, 116, 104, 58, 32]⟩ : ByteArray) ++ t174) ++ (⟨#[13, 10, 13, 10]⟩ : ByteArray)) ++ (strOfNums y182)) ++ a1)).bind fun bt185 => (if bt175.2.2.2.2.2 = 0 then (if ((decide (bt175.2.2.2.2.1 > 0)) == ((Int.tmod (wrap64 (a0)) 10000) == 0)) = true then (if bt185.2.2.2.2.2 = 0 then (if bt185.2.2.2.2.1 = (wrap64 (((((⟨#[80, 79, 83, 84, 32, 47, 100, 111, 99, 115, 32, 72, 84, 84, 80, 47, 49, 46, 49, 13, 10, 72, 111, 115, 116, 58, 32, 120, 13, 10, 67, 111, 110, 116, 101, 110, 116, 45, 76, 101, 110, 103, 116, 104, 58, 32]⟩ : ByteArray) ++ t174) ++ (⟨#[13, 10, 13, 10]⟩ : ByteArray)).size : Int) + (Int.tmod (wrap64 (a0)) 10000))) then (some (bt185.2.2.1.toList == (strOfNums y182).toList)) else (some false)) else (some false)) else (some false)) else (some false))) else (none)) else (none))) else (none)) else (none)))) else (none)) else (none)) = some r := H
        have A11 := Aside0.mk A110
        clear A110
        by_cases c12 : 46 + t174.size ≤ 9223372036854775807
        · rw [if_pos c12] at H
          have c12b0 := eq_true c12
          have c12b1 : decide (46 + t174.size ≤ 9223372036854775807) = true := decide_eq_true c12
          try have c12b2 : (9223372036854775807 < 46 + t174.size) = False := eq_false (Nat.not_lt.2 c12)
          by_cases c13 : 46 + t174.size + 4 ≤ 9223372036854775807
          · rw [if_pos c13] at H
            have c13b0 := eq_true c13
            have c13b1 : decide (46 + t174.size + 4 ≤ 9223372036854775807) = true := decide_eq_true c13
            try have c13b2 : (9223372036854775807 < 46 + t174.size + 4) = False := eq_false (Nat.not_lt.2 c13)
            replace H := Option.bind_eq_some_iff.mp H
            obtain ⟨⟨t175, t176, t177, t178, t179, t180⟩, A140, H⟩ := H
            replace H : (if (Int.tmod (wrap64 (a0)) 10000) > 8192 then (if t179 = 0 then (some (t180 == 413)) else (some false)) else (if 0 ≤ (Int.tmod (wrap64 (a0)) 10000) then (if (Int.tmod (wrap64 (a0)) 10000 : Int).toNat ≤ 281474976710656 then ((some (List.replicate (Int.tmod (wrap64 (a0)) 10000 : Int).toNat 0 : List Int)).bind fun y182 => (if 46 + t174.size + 4 + (strOfNums y182).size ≤ 9223372036854775807 then (if 46 + t174.size + 4 + (strOfNums y182).size + a1.size ≤ 9223372036854775807 then ((http_Read.f kj2 (((((⟨#[80, 79, 83, 84, 32, 47, 100, 111, 99, 115, 32, 72, 84, 84, 80, 47, 49, 46, 49, 13, 10, 72, 111, 115, 116, 58, 32, 120, 13, 10, 67, 111, 110, 116, 101, 110, 116, 45, 76, 101, 110, 103, 116, 104, 58, 32]⟩ : ByteArray) ++ t174) ++ (⟨#[13, 10, 13, 10]⟩ : ByteArray)) ++ (strOfNums y182)) ++ a1)).bind fun bt185 => (if t180 = 0 then (if ((decide (t179 > 0)) == ((Int.tmod (wrap64 (a0)) 10000) == 0)) = true then (if bt185.2.2.2.2.2 = 0 then (if bt185.2.2.2.2.1 = (wrap64 (((((⟨#[80, 79, 83, 84, 32, 47, 100, 111, 99, 115, 32, 72, 84, 84, 80, 47, 49, 46, 49, 13, 10, 72, 111, 115, 116, 58, 32, 120, 13, 10, 67, 111, 110, 116, 101, 110, 116, 45, 76, 101, 110, 103, 116, 104, 58, 32]⟩ : ByteArray) ++ t174) ++ (⟨#[13, 10, 13, 10]⟩ : ByteArray)).size : Int) + (Int.tmod (wrap64 (a0)) 10000))) then (some (bt185.2.2.1.toList == (strOfNums y182).toList)) else (some false)) else (some false)) else (some false)) else (some false))) else (none)) else (none))) else (none)) else (none))) = some r := H
            have A14 := Aside0.mk A140
            clear A140
            by_cases c15 : (Int.tmod (wrap64 (a0)) 10000) > 8192
            · rw [if_pos c15] at H
              have c15b0 : decide (8192 < (Int.tmod (wrap64 (a0)) 10000)) = true := decide_eq_true c15
              clear c15
              by_cases c16 : t179 = 0
              · rw [if_pos c16] at H
                have c16b0 : (t179 == 0) = true := beq_iff_eq.mpr c16
                have c16b1 : (t179 != 0) = false := bne_eq_false_iff_eq.mpr c16
                clear c16
                obtain rfl := Option.some.inj H
                go_wp2_with (first | ((with_reducible refine gate_callee (f := 13) rfl ?_); refine goesL_ (some 26) rfl rfl Tryd.func13 (by kernel_rfl) rfl #[.int .i64 (Int.tmod (wrap64 (a0)) 10000)] rfl (by (try simp only [List.map_toArray, List.map_cons, List.map_nil]); first | done | rfl | (simp only [List.length_drop, List.length_take]; rfl)) ?_; (with_reducible refine (fascineref12_Dec.calls kj2 (Int.tmod (wrap64 (a0)) 10000) t174 _ A11.out).mono ?_); rintro e w17 ⟨rfl, hb⟩; refine ⟨_, rfl, ?_⟩; have n0_ := Aside0.mk (below_step (by repeat (first | (with_reducible first | exact HB.out | apply below_alloc | apply pw_below_drewN | apply below_drew1) | exact HB.out)) hb); clear HB; have HB := n0_; clear n0_; (try clear hb); (try clear hb2); (try clear hk); (try clear hi)) | ((with_reducible refine gate_callee (f := 10) rfl ?_); refine goesL_ (some 31) rfl rfl Tryd.func10 (by kernel_rfl) rfl #[.string (((⟨#[80, 79, 83, 84, 32, 47, 100, 111, 99, 115, 32, 72, 84, 84, 80, 47, 49, 46, 49, 13, 10, 72, 111, 115, 116, 58, 32, 120, 13, 10, 67, 111, 110, 116, 101, 110, 116, 45, 76, 101, 110, 103, 116, 104, 58, 32]⟩ : ByteArray) ++ t174) ++ (⟨#[13, 10, 13, 10]⟩ : ByteArray))] rfl (by (try simp only [List.map_toArray, List.map_cons, List.map_nil]); first | done | rfl | (simp only [List.length_drop, List.length_take]; rfl)) ?_; (with_reducible refine (http_Read.calls kj2 (((⟨#[80, 79, 83, 84, 32, 47, 100, 111, 99, 115, 32, 72, 84, 84, 80, 47, 49, 46, 49, 13, 10, 72, 111, 115, 116, 58, 32, 120, 13, 10, 67, 111, 110, 116, 101, 110, 116, 45, 76, 101, 110, 103, 116, 104, 58, 32]⟩ : ByteArray) ++ t174) ++ (⟨#[13, 10, 13, 10]⟩ : ByteArray)) t175 t176 t177 t178 t179 t180 _ ?side1 A14.out).mono ?_); (case side1 => first | exact HT.out | exact tabs_below HT.out (by repeat (first | (with_reducible first | exact HB.out | apply below_alloc | apply pw_below_drewN | apply below_drew1) | exact HB.out))); rintro e w18 ⟨rfl, hb⟩; refine ⟨_, rfl, ?_⟩; have n0_ := Aside0.mk (below_step (by repeat (first | (with_reducible first | exact HB.out | apply below_alloc | apply pw_below_drewN | apply below_drew1) | exact HB.out)) hb); clear HB; have HB := n0_; clear n0_; (try clear hb); (try clear hb2); (try clear hk); (try clear hi)) | ((with_reducible refine gate_dst (N := 7) rfl ?_); (try (refine gate_guard (by rfl) ?_; dsimp only)); refine box_event ?hg (N := 7) ?hd (cs := #[.string (⟨#[]⟩ : ByteArray), .string (⟨#[]⟩ : ByteArray), .string (⟨#[]⟩ : ByteArray), .bool false]) (t := 24) ?hr ?_; (case hd => rfl); (case hg => rfl); (case hr => first | (go_simp; done) | (go_simp; rfl)); intro gb181 hg w19 hbox hb; have n0_ := Aside0.mk (below_step (by repeat (first | (with_reducible first | exact HB.out | apply below_alloc | apply pw_below_drewN | apply below_drew1) | exact HB.out)) hb); have n1_ := Aside0.mk (hbox); have n2_ := Aside0.mk ((by rw [hg]; exact (below_size (by repeat (first | (with_reducible first | exact HB.out | apply below_alloc | apply pw_below_drewN | apply below_drew1) | exact HB.out))) : w.heap.size ≤ gb181)); have n3_ := Aside0.mk ((by rw [hg]; exact (below_size (by repeat (first | (with_reducible first | exact HB.out | apply below_alloc | apply pw_below_drewN | apply below_drew1) | exact HB.out))) : w.heap.size ≤ gb181)); clear HB; have HB := n0_; have BK181 := n1_; have GW181 := n2_; have GE181 := n3_; clear n0_ n1_ n2_ n3_; clear hb hbox hg; have hcz20_0 : w19.cell? ⟨gb181, 0, none⟩ = some (.string (⟨#[]⟩ : ByteArray)) := (blk_cell BK181.out 0).trans rfl; have hcz20_1 : w19.cell? ⟨gb181, 1, none⟩ = some (.string (⟨#[]⟩ : ByteArray)) := (blk_cell BK181.out 1).trans rfl; have hcz20_2 : w19.cell? ⟨gb181, 2, none⟩ = some (.string (⟨#[]⟩ : ByteArray)) := (blk_cell BK181.out 2).trans rfl; have hcz20_3 : w19.cell? ⟨gb181, 3, none⟩ = some (.bool false) := (blk_cell BK181.out 3).trans rfl; have hfz20_0 := blk_frozen BK181.out 0; have hfz20_1 := blk_frozen BK181.out 1; have hfz20_2 := blk_frozen BK181.out 2; have hfz20_3 := blk_frozen BK181.out 3))
                go_ret
                exact ⟨by first | rfl | (simp [errW_none, errW_some] <;> rfl) | (simp [*, errW_none, errW_some] <;> rfl), by repeat (first | (with_reducible first | exact HB.out | apply below_alloc | apply pw_below_drewN | apply below_drew1 | refine below_set ?_ GE181.out) | exact HB.out)⟩
              · rw [if_neg c16] at H
                have c16b0 : (t179 == 0) = false := beq_eq_false_iff_ne.mpr c16
                have c16b1 : (t179 != 0) = true := bne_iff_ne.mpr c16
                exact absurd (HR_.out.symm.trans (Option.some.inj H).symm) (by decide)
            · rw [if_neg c15] at H
              have c15b0 : decide (8192 < (Int.tmod (wrap64 (a0)) 10000)) = false := decide_eq_false c15
              clear c15
              obtain ⟨ji21, hji21⟩ : ∃ j_ : Int, (Int.tmod (wrap64 (a0)) 10000) = j_ := ⟨_, rfl⟩
              replace H : (if 0 ≤ (ji21) then (if (ji21 : Int).toNat ≤ 281474976710656 then ((some (List.replicate (ji21 : Int).toNat 0 : List Int)).bind fun y182 => (if 46 + t174.size + 4 + (strOfNums y182).size ≤ 9223372036854775807 then (if 46 + t174.size + 4 + (strOfNums y182).size + a1.size ≤ 9223372036854775807 then ((http_Read.f kj2 (((((⟨#[80, 79, 83, 84, 32, 47, 100, 111, 99, 115, 32, 72, 84, 84, 80, 47, 49, 46, 49, 13, 10, 72, 111, 115, 116, 58, 32, 120, 13, 10, 67, 111, 110, 116, 101, 110, 116, 45, 76, 101, 110, 103, 116, 104, 58, 32]⟩ : ByteArray) ++ t174) ++ (⟨#[13, 10, 13, 10]⟩ : ByteArray)) ++ (strOfNums y182)) ++ a1)).bind fun bt185 => (if t180 = 0 then (if ((decide (t179 > 0)) == ((ji21) == 0)) = true then (if bt185.2.2.2.2.2 = 0 then (if bt185.2.2.2.2.1 = (wrap64 (((((⟨#[80, 79, 83, 84, 32, 47, 100, 111, 99, 115, 32, 72, 84, 84, 80, 47, 49, 46, 49, 13, 10, 72, 111, 115, 116, 58, 32, 120, 13, 10, 67, 111, 110, 116, 101, 110, 116, 45, 76, 101, 110, 103, 116, 104, 58, 32]⟩ : ByteArray) ++ t174) ++ (⟨#[13, 10, 13, 10]⟩ : ByteArray)).size : Int) + (ji21))) then (some (bt185.2.2.1.toList == (strOfNums y182).toList)) else (some false)) else (some false)) else (some false)) else (some false))) else (none)) else (none))) else (none)) else (none)) = some r := by first | (rw [hji21] at H; exact H) | (simp only [hji21] at H ⊢; exact H)
              (try rw [hji21] at c15b0)
              (try rw [hji21] at A11)
              (try rw [hji21] at A14)
              by_cases c22 : 0 ≤ (ji21)
              · rw [if_pos c22] at H
                have c22b0 := eq_true c22
                have c22b1 : decide (0 ≤ (ji21)) = true := decide_eq_true c22
                clear c22
                by_cases c23 : (ji21 : Int).toNat ≤ 281474976710656
                · rw [if_pos c23] at H
                  have c23b0 := eq_true c23
                  have c23b1 : decide ((ji21 : Int).toNat ≤ 281474976710656) = true := decide_eq_true c23
                  clear c23
                  obtain ⟨y182, hy182⟩ : ∃ y_ : List Int, y_ = (List.replicate (ji21 : Int).toNat 0) := ⟨_, rfl⟩
                  replace H : (if 46 + t174.size + 4 + (strOfNums y182).size ≤ 9223372036854775807 then (if 46 + t174.size + 4 + (strOfNums y182).size + a1.size ≤ 9223372036854775807 then ((http_Read.f kj2 (((((⟨#[80, 79, 83, 84, 32, 47, 100, 111, 99, 115, 32, 72, 84, 84, 80, 47, 49, 46, 49, 13, 10, 72, 111, 115, 116, 58, 32, 120, 13, 10, 67, 111, 110, 116, 101, 110, 116, 45, 76, 101, 110, 103, 116, 104, 58, 32]⟩ : ByteArray) ++ t174) ++ (⟨#[13, 10, 13, 10]⟩ : ByteArray)) ++ (strOfNums y182)) ++ a1)).bind fun bt185 => (if t180 = 0 then (if ((decide (t179 > 0)) == ((ji21) == 0)) = true then (if bt185.2.2.2.2.2 = 0 then (if bt185.2.2.2.2.1 = (wrap64 (((((⟨#[80, 79, 83, 84, 32, 47, 100, 111, 99, 115, 32, 72, 84, 84, 80, 47, 49, 46, 49, 13, 10, 72, 111, 115, 116, 58, 32, 120, 13, 10, 67, 111, 110, 116, 101, 110, 116, 45, 76, 101, 110, 103, 116, 104, 58, 32]⟩ : ByteArray) ++ t174) ++ (⟨#[13, 10, 13, 10]⟩ : ByteArray)).size : Int) + (ji21))) then (some (bt185.2.2.1.toList == (strOfNums y182).toList)) else (some false)) else (some false)) else (some false)) else (some false))) else (none)) else (none)) = some r := by first | (rw [hy182]; with_reducible exact H) | (have H2_ := (Option.bind_some _ _).symm.trans H; rw [hy182]; with_reducible exact H2_) | (have H2_ := (Option.bind_some _ _).symm.trans H; with_reducible exact H2_) | with_reducible exact H | (rw [hy182]; exact H) | exact H
                  have Ny182 := Aside0.mk hy182
                  clear hy182
                  by_cases c24 : 46 + t174.size + 4 + (strOfNums y182).size ≤ 9223372036854775807
                  · rw [if_pos c24] at H
                    have c24b0 := eq_true c24
                    have c24b1 : decide (46 + t174.size + 4 + (strOfNums y182).size ≤ 9223372036854775807) = true := decide_eq_true c24
                    try have c24b2 : (9223372036854775807 < 46 + t174.size + 4 + (strOfNums y182).size) = False := eq_false (Nat.not_lt.2 c24)
                    by_cases c25 : 46 + t174.size + 4 + (strOfNums y182).size + a1.size ≤ 9223372036854775807
                    · rw [if_pos c25] at H
                      have c25b0 := eq_true c25
                      have c25b1 : decide (46 + t174.size + 4 + (strOfNums y182).size + a1.size ≤ 9223372036854775807) = true := decide_eq_true c25
                      try have c25b2 : (9223372036854775807 < 46 + t174.size + 4 + (strOfNums y182).size + a1.size) = False := eq_false (Nat.not_lt.2 c25)
                      replace H := Option.bind_eq_some_iff.mp H
                      obtain ⟨⟨t185, t186, t187, t188, t189, t190⟩, A260, H⟩ := H
                      replace H : (if t180 = 0 then (if ((decide (t179 > 0)) == ((ji21) == 0)) = true then (if t190 = 0 then (if t189 = (wrap64 (((((⟨#[80, 79, 83, 84, 32, 47, 100, 111, 99, 115, 32, 72, 84, 84, 80, 47, 49, 46, 49, 13, 10, 72, 111, 115, 116, 58, 32, 120, 13, 10, 67, 111, 110, 116, 101, 110, 116, 45, 76, 101, 110, 103, 116, 104, 58, 32]⟩ : ByteArray) ++ t174) ++ (⟨#[13, 10, 13, 10]⟩ : ByteArray)).size : Int) + (ji21))) then (some (t187.toList == (strOfNums y182).toList)) else (some false)) else (some false)) else (some false)) else (some false)) = some r := H
                      have A26 := Aside0.mk A260
                      clear A260
                      by_cases c27 : t180 = 0
                      · rw [if_pos c27] at H
                        have c27b0 : (t180 == 0) = true := beq_iff_eq.mpr c27
                        have c27b1 : (t180 != 0) = false := bne_eq_false_iff_eq.mpr c27
                        clear c27
                        by_cases c28 : ((decide (t179 > 0)) == ((ji21) == 0)) = true
                        · rw [if_pos c28] at H
                          have c28b0 : ((decide (t179 > 0)) == ((ji21) == 0)) = true := c28
                          (try (have c28b1 : decide ((decide (t179 > 0)) = ((ji21) == 0)) = true := by simpa using c28))
                          (try (have c28b2 : ((decide (t179 > 0)) == ((ji21) == 0)) = true := by simpa using c28))
                          clear c28
                          by_cases c29 : t190 = 0
                          · rw [if_pos c29] at H
                            have c29b0 : (t190 == 0) = true := beq_iff_eq.mpr c29
                            have c29b1 : (t190 != 0) = false := bne_eq_false_iff_eq.mpr c29
                            clear c29
                            by_cases c30 : t189 = (wrap64 (((((⟨#[80, 79, 83, 84, 32, 47, 100, 111, 99, 115, 32, 72, 84, 84, 80, 47, 49, 46, 49, 13, 10, 72, 111, 115, 116, 58, 32, 120, 13, 10, 67, 111, 110, 116, 101, 110, 116, 45, 76, 101, 110, 103, 116, 104, 58, 32]⟩ : ByteArray) ++ t174) ++ (⟨#[13, 10, 13, 10]⟩ : ByteArray)).size : Int) + (ji21)))
                            · rw [if_pos c30] at H
                              have c30b0 : (t189 == (wrap64 (((((⟨#[80, 79, 83, 84, 32, 47, 100, 111, 99, 115, 32, 72, 84, 84, 80, 47, 49, 46, 49, 13, 10, 72, 111, 115, 116, 58, 32, 120, 13, 10, 67, 111, 110, 116, 101, 110, 116, 45, 76, 101, 110, 103, 116, 104, 58, 32]⟩ : ByteArray) ++ t174) ++ (⟨#[13, 10, 13, 10]⟩ : ByteArray)).size : Int) + (ji21)))) = true := beq_iff_eq.mpr c30
                              (try (have c30b0y := c30b0; simp at c30b0y))
                              have c30b1 : (t189 != (wrap64 (((((⟨#[80, 79, 83, 84, 32, 47, 100, 111, 99, 115, 32, 72, 84, 84, 80, 47, 49, 46, 49, 13, 10, 72, 111, 115, 116, 58, 32, 120, 13, 10, 67, 111, 110, 116, 101, 110, 116, 45, 76, 101, 110, 103, 116, 104, 58, 32]⟩ : ByteArray) ++ t174) ++ (⟨#[13, 10, 13, 10]⟩ : ByteArray)).size : Int) + (ji21)))) = false := bne_eq_false_iff_eq.mpr c30
                              clear c30
                              obtain rfl := Option.some.inj H
                              go_wp2_with (first | ((with_reducible refine gate_callee (f := 13) rfl ?_); refine goesL_ (some 26) rfl rfl Tryd.func13 (by kernel_rfl) rfl #[.int .i64 ji21] rfl (by (try simp only [List.map_toArray, List.map_cons, List.map_nil]); first | done | (simp only [hji21]; rfl) | rfl | (simp only [List.length_drop, List.length_take]; rfl)) ?_; (with_reducible refine (fascineref12_Dec.calls kj2 ji21 t174 _ A11.out).mono ?_); rintro e w31 ⟨rfl, hb⟩; refine ⟨_, rfl, ?_⟩; have n0_ := Aside0.mk (below_step (by repeat (first | (with_reducible first | exact HB.out | apply below_alloc | apply pw_below_drewN | apply below_drew1) | exact HB.out)) hb); clear HB; have HB := n0_; clear n0_; (try clear hb); (try clear hb2); (try clear hk); (try clear hi)) | ((with_reducible refine gate_callee (f := 10) rfl ?_); refine goesL_ (some 31) rfl rfl Tryd.func10 (by kernel_rfl) rfl #[.string (((⟨#[80, 79, 83, 84, 32, 47, 100, 111, 99, 115, 32, 72, 84, 84, 80, 47, 49, 46, 49, 13, 10, 72, 111, 115, 116, 58, 32, 120, 13, 10, 67, 111, 110, 116, 101, 110, 116, 45, 76, 101, 110, 103, 116, 104, 58, 32]⟩ : ByteArray) ++ t174) ++ (⟨#[13, 10, 13, 10]⟩ : ByteArray))] rfl (by (try simp only [List.map_toArray, List.map_cons, List.map_nil]); first | done | rfl | (simp only [List.length_drop, List.length_take]; rfl)) ?_; (with_reducible refine (http_Read.calls kj2 (((⟨#[80, 79, 83, 84, 32, 47, 100, 111, 99, 115, 32, 72, 84, 84, 80, 47, 49, 46, 49, 13, 10, 72, 111, 115, 116, 58, 32, 120, 13, 10, 67, 111, 110, 116, 101, 110, 116, 45, 76, 101, 110, 103, 116, 104, 58, 32]⟩ : ByteArray) ++ t174) ++ (⟨#[13, 10, 13, 10]⟩ : ByteArray)) t175 t176 t177 t178 t179 t180 _ ?side1 A14.out).mono ?_); (case side1 => first | exact HT.out | exact tabs_below HT.out (by repeat (first | (with_reducible first | exact HB.out | apply below_alloc | apply pw_below_drewN | apply below_drew1) | exact HB.out))); rintro e w32 ⟨rfl, hb⟩; refine ⟨_, rfl, ?_⟩; have n0_ := Aside0.mk (below_step (by repeat (first | (with_reducible first | exact HB.out | apply below_alloc | apply pw_below_drewN | apply below_drew1) | exact HB.out)) hb); clear HB; have HB := n0_; clear n0_; (try clear hb); (try clear hb2); (try clear hk); (try clear hi)) | ((with_reducible refine gate_dst (N := 7) rfl ?_); (try (refine gate_guard (by rfl) ?_; dsimp only)); refine box_event ?hg (N := 7) ?hd (cs := #[.string (⟨#[]⟩ : ByteArray), .string (⟨#[]⟩ : ByteArray), .string (⟨#[]⟩ : ByteArray), .bool false]) (t := 24) ?hr ?_; (case hd => rfl); (case hg => rfl); (case hr => first | (go_simp; done) | (go_simp; rfl)); intro gb181 hg w33 hbox hb; have n0_ := Aside0.mk (below_step (by repeat (first | (with_reducible first | exact HB.out | apply below_alloc | apply pw_below_drewN | apply below_drew1) | exact HB.out)) hb); have n1_ := Aside0.mk (hbox); have n2_ := Aside0.mk ((by rw [hg]; exact (below_size (by repeat (first | (with_reducible first | exact HB.out | apply below_alloc | apply pw_below_drewN | apply below_drew1) | exact HB.out))) : w.heap.size ≤ gb181)); have n3_ := Aside0.mk ((by rw [hg]; exact (below_size (by repeat (first | (with_reducible first | exact HB.out | apply below_alloc | apply pw_below_drewN | apply below_drew1) | exact HB.out))) : w.heap.size ≤ gb181)); clear HB; have HB := n0_; have BK181 := n1_; have GW181 := n2_; have GE181 := n3_; clear n0_ n1_ n2_ n3_; clear hb hbox hg; have hcz34_0 : w33.cell? ⟨gb181, 0, none⟩ = some (.string (⟨#[]⟩ : ByteArray)) := (blk_cell BK181.out 0).trans rfl; have hcz34_1 : w33.cell? ⟨gb181, 1, none⟩ = some (.string (⟨#[]⟩ : ByteArray)) := (blk_cell BK181.out 1).trans rfl; have hcz34_2 : w33.cell? ⟨gb181, 2, none⟩ = some (.string (⟨#[]⟩ : ByteArray)) := (blk_cell BK181.out 2).trans rfl; have hcz34_3 : w33.cell? ⟨gb181, 3, none⟩ = some (.bool false) := (blk_cell BK181.out 3).trans rfl; have hfz34_0 := blk_frozen BK181.out 0; have hfz34_1 := blk_frozen BK181.out 1; have hfz34_2 := blk_frozen BK181.out 2; have hfz34_3 := blk_frozen BK181.out 3) | ((with_reducible refine gate_dst (N := 44) rfl ?_); (try (refine gate_guard (by rfl) ?_; dsimp only)); refine Kd.R_make (Kd.int .u8) _ 5 rfl (N := 44) rfl 31 _ _ rfl ji21 rfl rfl Tryd.underlying31 (.int .u8 0) 1 info5 rfl (by decide) (by omega) 0 (ok := fun _ => True) (okp := fun _ => True) rfl (fun _ hk => hk) trivial (of_decide_eq_true (by first | (with_reducible assumption) | assumption)) (Nat.le_trans (Nat.mul_le_mul_right _ (of_decide_eq_true (by first | (with_reducible assumption) | assumption) : ji21.toNat ≤ 281474976710656)) (by omega)) (Below.refl _ _) (Nat.le_refl _) ?_; intro v183 w35 ho36 hb hg_ hnew_; clear hg_ hnew_; (first | rw [← Ny182.out] at ho36 | (simp only [Int.reduceToNat] at ho36; rw [← Ny182.out] at ho36)); have n0_ := Aside0.mk (Kd.R_lower ho36 (below_size (by repeat (first | (with_reducible first | exact HB.out | apply below_alloc | apply pw_below_drewN | apply below_drew1 | refine below_set ?_ GE181.out) | exact HB.out)))); have n1_ := Aside0.mk (blk_below (g := gb181) (o := .cells #[.string t175, .string t176, .string t177, .bool t178] 24 (0, 0)) (by (with_reducible repeat (first | refine blk_drewN ?_ _ | refine blk_drew ?_ | refine blk_alloc ?_ _)); refine blk_put (cs := #[.string t175, .string t176, .string t177, .bool false]) ?_ 3 _ rfl; (with_reducible repeat (first | refine blk_drewN ?_ _ | refine blk_drew ?_ | refine blk_alloc ?_ _)); refine blk_put (cs := #[.string t175, .string t176, .string (⟨#[]⟩ : ByteArray), .bool false]) ?_ 2 _ rfl; (with_reducible repeat (first | refine blk_drewN ?_ _ | refine blk_drew ?_ | refine blk_alloc ?_ _)); refine blk_put (cs := #[.string t175, .string (⟨#[]⟩ : ByteArray), .string (⟨#[]⟩ : ByteArray), .bool false]) ?_ 1 _ rfl; (with_reducible repeat (first | refine blk_drewN ?_ _ | refine blk_drew ?_ | refine blk_alloc ?_ _)); refine blk_put (cs := #[.string (⟨#[]⟩ : ByteArray), .string (⟨#[]⟩ : ByteArray), .string (⟨#[]⟩ : ByteArray), .bool false]) ?_ 0 _ rfl; (with_reducible repeat (first | refine blk_drewN ?_ _ | refine blk_drew ?_ | refine blk_alloc ?_ _)); exact BK181.out) hb); have n2_ := Aside0.mk (below_step (by repeat (first | (with_reducible first | exact HB.out | apply below_alloc | apply pw_below_drewN | apply below_drew1 | refine below_set ?_ GE181.out) | exact HB.out)) hb); clear BK181; clear HB; have HO184 := n0_; have BK181 := n1_; have HB := n2_; clear n0_ n1_ n2_; clear hb ho36; have hcv37 := own_string (P := Tryd.prog) Tryd.underlying31 Tryd.underlying5 Tryd.underlying9 (Kd.own_of_R HO184.out); have hcq38 := fun (nq_ : Nat) => own_string (P := Tryd.prog) Tryd.underlying31 Tryd.underlying5 Tryd.underlying9 (Kd.own_of_R (Kd.R_drewN HO184.out nq_))) | ((with_reducible refine gate_callee (f := 10) rfl ?_); refine goesL_ (some 52) rfl rfl Tryd.func10 (by kernel_rfl) rfl #[.string (((((⟨#[80, 79, 83, 84, 32, 47, 100, 111, 99, 115, 32, 72, 84, 84, 80, 47, 49, 46, 49, 13, 10, 72, 111, 115, 116, 58, 32, 120, 13, 10, 67, 111, 110, 116, 101, 110, 116, 45, 76, 101, 110, 103, 116, 104, 58, 32]⟩ : ByteArray) ++ t174) ++ (⟨#[13, 10, 13, 10]⟩ : ByteArray)) ++ (strOfNums y182)) ++ a1)] rfl (by (try simp only [List.map_toArray, List.map_cons, List.map_nil]); first | done | rfl | (simp only [List.length_drop, List.length_take]; rfl)) ?_; (with_reducible refine (http_Read.calls kj2 (((((⟨#[80, 79, 83, 84, 32, 47, 100, 111, 99, 115, 32, 72, 84, 84, 80, 47, 49, 46, 49, 13, 10, 72, 111, 115, 116, 58, 32, 120, 13, 10, 67, 111, 110, 116, 101, 110, 116, 45, 76, 101, 110, 103, 116, 104, 58, 32]⟩ : ByteArray) ++ t174) ++ (⟨#[13, 10, 13, 10]⟩ : ByteArray)) ++ (strOfNums y182)) ++ a1) t185 t186 t187 t188 t189 t190 _ ?side1 A26.out).mono ?_); (case side1 => first | exact HT.out | exact tabs_below HT.out (by repeat (first | (with_reducible first | exact HB.out | apply below_alloc | apply pw_below_drewN | apply below_drew1 | refine below_set ?_ GE181.out) | exact HB.out))); rintro e w39 ⟨rfl, hb⟩; refine ⟨_, rfl, ?_⟩; have n0_ := Aside0.mk (Kd.R_below (by (with_reducible repeat (first | apply Kd.R_alloc | apply Kd.R_drewN | apply Kd.R_drew)); exact HO184.out) hb); have n1_ := Aside0.mk (blk_below (g := gb181) (o := .cells #[.string t175, .string t176, .string t177, .bool t178] 24 (0, 0)) (by (with_reducible repeat (first | refine blk_drewN ?_ _ | refine blk_drew ?_ | refine blk_alloc ?_ _)); exact BK181.out) hb); have n2_ := Aside0.mk (below_step (by repeat (first | (with_reducible first | exact HB.out | apply below_alloc | apply pw_below_drewN | apply below_drew1 | refine below_set ?_ GE181.out) | exact HB.out)) hb); clear HO184; clear BK181; clear HB; have HO184 := n0_; have BK181 := n1_; have HB := n2_; clear n0_ n1_ n2_; (try clear hb); (try clear hb2); (try clear hk); (try clear hi)) | ((with_reducible refine gate_dst (N := 11) rfl ?_); (try (refine gate_guard (by rfl) ?_; dsimp only)); refine box_event ?hg (N := 11) ?hd (cs := #[.string (⟨#[]⟩ : ByteArray), .string (⟨#[]⟩ : ByteArray), .string (⟨#[]⟩ : ByteArray), .bool false]) (t := 24) ?hr ?_; (case hd => rfl); (case hg => rfl); (case hr => first | (go_simp; done) | (go_simp; rfl)); intro gb191 hg w40 hbox hb; have n0_ := Aside0.mk (Kd.R_below (by (with_reducible repeat (first | apply Kd.R_alloc | apply Kd.R_drewN | apply Kd.R_drew)); exact HO184.out) hb); have n1_ := Aside0.mk (blk_below (g := gb181) (o := .cells #[.string t175, .string t176, .string t177, .bool t178] 24 (0, 0)) (by (with_reducible repeat (first | refine blk_drewN ?_ _ | refine blk_drew ?_ | refine blk_alloc ?_ _)); exact BK181.out) hb); have n2_ := Aside0.mk (below_step (by repeat (first | (with_reducible first | exact HB.out | apply below_alloc | apply pw_below_drewN | apply below_drew1 | refine below_set ?_ GE181.out) | exact HB.out)) hb); have n3_ := Aside0.mk (hbox); have n4_ := Aside0.mk ((by rw [hg]; exact (below_size (by repeat (first | (with_reducible first | exact HB.out | apply below_alloc | apply pw_below_drewN | apply below_drew1 | refine below_set ?_ GE181.out) | exact HB.out))) : w.heap.size ≤ gb191)); have n5_ := Aside0.mk ((by rw [hg]; exact (below_size (by repeat (first | (with_reducible first | exact HB.out | apply below_alloc | apply pw_below_drewN | apply below_drew1 | refine below_set ?_ GE181.out) | exact HB.out))) : w.heap.size ≤ gb191)); have n6_ := Aside0.mk ((by rw [hg]; exact Nat.ne_of_lt (blk_lt (g := gb181) (o := .cells #[.string t175, .string t176, .string t177, .bool t178] 24 (0, 0)) (by (with_reducible repeat (first | refine blk_drewN ?_ _ | refine blk_drew ?_ | refine blk_alloc ?_ _)); exact BK181.out)) : gb181 ≠ gb191)); have n7_ := Aside0.mk ((by rw [hg]; exact Nat.ne_of_gt (blk_lt (g := gb181) (o := .cells #[.string t175, .string t176, .string t177, .bool t178] 24 (0, 0)) (by (with_reducible repeat (first | refine blk_drewN ?_ _ | refine blk_drew ?_ | refine blk_alloc ?_ _)); exact BK181.out)) : gb191 ≠ gb181)); clear HO184; clear BK181; clear HB; have HO184 := n0_; have BK181 := n1_; have HB := n2_; have BK191 := n3_; have GW191 := n4_; have GE191 := n5_; have NB181_191 := n6_; have NB191_181 := n7_; clear n0_ n1_ n2_ n3_ n4_ n5_ n6_ n7_; clear hb hbox hg; have hnb41 := NB191_181.out; have hnc41 := NB181_191.out; have hcz42_0 : w40.cell? ⟨gb191, 0, none⟩ = some (.string (⟨#[]⟩ : ByteArray)) := (blk_cell BK191.out 0).trans rfl; have hcz42_1 : w40.cell? ⟨gb191, 1, none⟩ = some (.string (⟨#[]⟩ : ByteArray)) := (blk_cell BK191.out 1).trans rfl; have hcz42_2 : w40.cell? ⟨gb191, 2, none⟩ = some (.string (⟨#[]⟩ : ByteArray)) := (blk_cell BK191.out 2).trans rfl; have hcz42_3 : w40.cell? ⟨gb191, 3, none⟩ = some (.bool false) := (blk_cell BK191.out 3).trans rfl; have hfz42_0 := blk_frozen BK191.out 0; have hfz42_1 := blk_frozen BK191.out 1; have hfz42_2 := blk_frozen BK191.out 2; have hfz42_3 := blk_frozen BK191.out 3))
                              go_ret
                              exact ⟨by first | rfl | (simp [errW_none, errW_some] <;> rfl) | (simp only [← hji21]; first | rfl | (simp [errW_none, errW_some] <;> rfl)) | (simp [*, errW_none, errW_some] <;> rfl), by repeat (first | (with_reducible first | exact HB.out | apply below_alloc | apply pw_below_drewN | apply below_drew1 | refine below_set ?_ GE181.out | refine below_set ?_ GE191.out) | exact HB.out)⟩
                            · rw [if_neg c30] at H
                              have c30b0 : (t189 == (wrap64 (((((⟨#[80, 79, 83, 84, 32, 47, 100, 111, 99, 115, 32, 72, 84, 84, 80, 47, 49, 46, 49, 13, 10, 72, 111, 115, 116, 58, 32, 120, 13, 10, 67, 111, 110, 116, 101, 110, 116, 45, 76, 101, 110, 103, 116, 104, 58, 32]⟩ : ByteArray) ++ t174) ++ (⟨#[13, 10, 13, 10]⟩ : ByteArray)).size : Int) + (ji21)))) = false := beq_eq_false_iff_ne.mpr c30
                              (try (have c30b0y := c30b0; simp at c30b0y))
                              have c30b1 : (t189 != (wrap64 (((((⟨#[80, 79, 83, 84, 32, 47, 100, 111, 99, 115, 32, 72, 84, 84, 80, 47, 49, 46, 49, 13, 10, 72, 111, 115, 116, 58, 32, 120, 13, 10, 67, 111, 110, 116, 101, 110, 116, 45, 76, 101, 110, 103, 116, 104, 58, 32]⟩ : ByteArray) ++ t174) ++ (⟨#[13, 10, 13, 10]⟩ : ByteArray)).size : Int) + (ji21)))) = true := bne_iff_ne.mpr c30
                              exact absurd (HR_.out.symm.trans (Option.some.inj H).symm) (by decide)
                          · rw [if_neg c29] at H
                            have c29b0 : (t190 == 0) = false := beq_eq_false_iff_ne.mpr c29
                            have c29b1 : (t190 != 0) = true := bne_iff_ne.mpr c29
                            exact absurd (HR_.out.symm.trans (Option.some.inj H).symm) (by decide)
                        · rw [if_neg c28] at H
                          have c28b0 : ((decide (t179 > 0)) == ((ji21) == 0)) = false := (by first | exact Bool.eq_false_iff.mpr c28 | simpa using c28)
                          (try (have c28b1 : decide ((decide (t179 > 0)) = ((ji21) == 0)) = false := by simpa using c28))
                          (try (have c28b2 : ((decide (t179 > 0)) == ((ji21) == 0)) = false := by simpa using c28))
                          (try (have c28b3 : ¬ ((decide (t179 > 0)) = ((ji21) == 0)) := by simpa using c28))
                          clear c28
                          exact absurd (HR_.out.symm.trans (Option.some.inj H).symm) (by decide)
                      · rw [if_neg c27] at H
                        have c27b0 : (t180 == 0) = false := beq_eq_false_iff_ne.mpr c27
                        have c27b1 : (t180 != 0) = true := bne_iff_ne.mpr c27
                        exact absurd (HR_.out.symm.trans (Option.some.inj H).symm) (by decide)
                    · rw [if_neg c25] at H
                      exact absurd H (by simp)
                  · rw [if_neg c24] at H
                    exact absurd H (by simp)
                · rw [if_neg c23] at H
                  exact absurd H (by simp)
              · rw [if_neg c22] at H
                exact absurd H (by simp)
          · rw [if_neg c13] at H
            exact absurd H (by simp)
        · rw [if_neg c12] at H
          exact absurd H (by simp)

/-- THE ONE PURE STATEMENT of fascinelaw12_HttpBodies: yours. -/
def fascinelaw12_HttpBodies.Pure : Prop := ∀ (a0 : Int) (a1 : ByteArray), (Lit.int .u16 a0).wf = true → a1.size ≤ 140737488351232 → ∃ k, fascinelaw12_HttpBodies.f k a0 a1 = some true
theorem fascinelaw12_HttpBodies.walk (P : fascinelaw12_HttpBodies.Pure) (a0 : Int) (a1 : ByteArray) (w : World) (hT : tabs w) (w0 : (Lit.int .u16 a0).wf = true) (w1 : a1.size ≤ 140737488351232) :
    Calls Tryd.prog 6 #[.int .u16 a0, .string a1] w fun e w' => e = .returned (.bool true) ∧ Below w.heap.size w w' := by
  obtain ⟨k, h⟩ := P a0 a1 w0 w1
  refine (fascinelaw12_HttpBodies.calls k a0 a1 true w hT h rfl).mono ?_
  rintro e w' ⟨rfl, hd⟩
  exact ⟨rfl, hd⟩

end Go.Proofs.YtpigloohccpfiaaDoor.PHttpBodies
-- JOINED
