-- WRITTEN BY A PROGRAM OF THIS SESSION (wip/patch_print.py: the kit's printer with rules of this session's own); Lean checks it.
import Derived.Test.YtlmmbefejmbpeaaDoorPQueryDeepx0
import Derived.Test.YtlmmbefejmbpeaaDoorPQueryDeepx1
import Derived.Test.YtlmmbefejmbpeaaDoorPQueryDeepx2
namespace Go.Proofs.YtlmmbefejmbpeaaDoor.PQueryDeep
open Go.RowKit Go.Proofs.YtlmmbefejmbpeaaDoorW.PrintWords Go.Proofs.YtlmmbefejmbpeaaDoorW.PrintLast Go.Proofs.YtlmmbefejmbpeaaDoorW.PrintMore Go.Proofs.YtlmmbefejmbpeaaDoor.PQry0 Go.Proofs.YtlmmbefejmbpeaaDoor.G  
attribute [local go_sem] max2_int min2_int max_two min_two max_three min_three max_four min_four   -- for this text's walks alone
set_option linter.unusedVariables false
set_option linter.unusedSimpArgs false

/-! ### fascinelaw06_brackets: function 14 -/
def fascinelaw06_brackets.l0 : Nat → Int → Bool → ByteArray → ByteArray → Int → Option (ByteArray)
  | 0, _, _, _, _, _ => none
  | k + 1, x0, x1, x5, x6, x7 => if x7 < x0 then (if x1 = true then (if x5.size + 4 ≤ 9223372036854775807 then (fascinelaw06_brackets.l0 k x0 x1 (x5 ++ (⟨#[78, 79, 84, 32]⟩ : ByteArray)) x6 (wrap64 (x7 + 1))) else (none)) else (if x5.size + 1 ≤ 9223372036854775807 then (if x6.size + 1 ≤ 9223372036854775807 then (fascinelaw06_brackets.l0 k x0 x1 (x5 ++ (⟨#[40]⟩ : ByteArray)) (x6 ++ (⟨#[41]⟩ : ByteArray)) (wrap64 (x7 + 1))) else (none)) else (none))) else (if x5.size + 1 ≤ 9223372036854775807 then (if x5.size + 1 + x6.size ≤ 9223372036854775807 then (some ((x5 ++ (⟨#[120]⟩ : ByteArray)) ++ x6)) else (none)) else (none))
def fascinelaw06_brackets.f (k : Nat) (a0 : Int) (a1 : Bool) : Option (ByteArray) := fascinelaw06_brackets.l0 k a0 a1 (⟨#[]⟩ : ByteArray) (⟨#[]⟩ : ByteArray) 0
theorem fascinelaw06_brackets.mono_l : ∀ k, (∀ y0 y1 y2 y3 y4, LeO (fascinelaw06_brackets.l0 k y0 y1 y2 y3 y4) (fascinelaw06_brackets.l0 (k + 1) y0 y1 y2 y3 y4))
  | 0 => fun _ _ _ _ _ r h => by simp [fascinelaw06_brackets.l0] at h
  | k + 1 => by
    have ih0 := fascinelaw06_brackets.mono_l k
    · intro y0 y1 y2 y3 y4
      unfold fascinelaw06_brackets.l0
      repeat' first
      | (with_reducible exact ih0 _ _ _ _ _)
      | (with_reducible exact LeO.refl _)
      | (with_reducible exact LeO.none _)
      | (with_reducible refine LeO.ite ?_ ?_)
      | (with_reducible refine LeO.bind ?_ (fun _ => ?_))
      | exact ih0 _ _ _ _ _
      | exact LeO.none _
      | refine LeO.ite ?_ ?_
      | refine LeO.bind ?_ (fun _ => ?_)
theorem fascinelaw06_brackets.mono : ∀ a0 a1 k, LeO (fascinelaw06_brackets.f k a0 a1) (fascinelaw06_brackets.f (k + 1) a0 a1) := by
  intro a0 a1 k
  have ih0 := fascinelaw06_brackets.mono_l k
  unfold fascinelaw06_brackets.f
  repeat' first
      | (with_reducible exact ih0 _ _ _ _ _)
      | (with_reducible exact LeO.refl _)
      | (with_reducible exact LeO.none _)
      | (with_reducible refine LeO.ite ?_ ?_)
      | (with_reducible refine LeO.bind ?_ (fun _ => ?_))
      | exact ih0 _ _ _ _ _
      | exact LeO.none _
      | refine LeO.ite ?_ ?_
      | refine LeO.bind ?_ (fun _ => ?_)
set_option maxHeartbeats 8000000 in
set_option maxRecDepth 100000 in
theorem fascinelaw06_brackets.calls (k : Nat) (a0 : Int) (a1 : Bool) (r : ByteArray) (w : World) (h : fascinelaw06_brackets.f k a0 a1 = some r) :
    Calls Tryd.prog 14 #[.int .i64 a0, .bool a1] w fun e w' => e = .returned (.string r) ∧ Drawn0 w w' := by
  have H : (fascinelaw06_brackets.l0 k a0 a1 (⟨#[]⟩ : ByteArray) (⟨#[]⟩ : ByteArray) 0) = some r := h
  clear h
  have H' := Aside0.mk H
  clear H
  go_enter Tryd.func14, Tryd.ntmps14
  go_wp2
  go_loopg [5, 6, 7] k (fun kq v5 v6 v7 w' => ∃ (x5_1 : ByteArray) (x6_1 : ByteArray) (x7_1 : Int), v5 = .string x5_1 ∧ v6 = .string x6_1 ∧ v7 = .int .i64 x7_1 ∧ Aside0 (fascinelaw06_brackets.l0 kq a0 a1 x5_1 x6_1 x7_1 = some r) ∧ Aside0 (kq ≤ k) ∧ Drawn0 w w')
  case atStart => exact ⟨((⟨#[]⟩ : ByteArray)), ((⟨#[]⟩ : ByteArray)), (0), (by first | rfl | (simp; done) | (simp [*]; done)), (by first | rfl | (simp; done) | (simp [*]; done)), (by first | rfl | (simp; done) | (simp [*]; done)), H', ⟨Nat.le_refl _⟩, by repeat (first | exact Drawn0.refl _ | apply Drawn0.step)⟩
  case round =>
    clear H'
    try clear c1
    try clear p2
    obtain ⟨x5_1, x6_1, x7_1, rfl, rfl, rfl, HA, HK1, ⟨m1, rfl⟩⟩ := hrel
    cases gk with
    | zero => exact absurd HA.out (by simp [fascinelaw06_brackets.l0])
    | succ k1 =>
      have H := HA.out
      clear HA
      simp only [fascinelaw06_brackets.l0] at H
      by_cases c3 : x7_1 < a0
      · rw [if_pos c3] at H
        have c3b0 : decide (x7_1 < a0) = true := decide_eq_true c3
        clear c3
        by_cases c4 : a1 = true
        · subst c4
          have H1 : (if x5_1.size + 4 ≤ 9223372036854775807 then (fascinelaw06_brackets.l0 k1 a0 true (x5_1 ++ (⟨#[78, 79, 84, 32]⟩ : ByteArray)) x6_1 (wrap64 (x7_1 + 1))) else (none)) = some r := by rw [if_pos rfl] at H; exact H
          clear H
          have H := H1
          clear H1
          by_cases c5 : x5_1.size + 4 ≤ 9223372036854775807
          · rw [if_pos c5] at H
            have c5b0 := eq_true c5
            have c5b1 : decide (x5_1.size + 4 ≤ 9223372036854775807) = true := decide_eq_true c5
            try have c5b2 : (9223372036854775807 < x5_1.size + 4) = False := eq_false (Nat.not_lt.2 c5)
            have H' := Aside0.mk H
            clear H
            go_wp2
            go_roundg k1
            case measure => have := HK1.out; omega
            case rel => exact ⟨(x5_1 ++ (⟨#[78, 79, 84, 32]⟩ : ByteArray)), (x6_1), (wrap64 (x7_1 + 1)), (by first | rfl | (simp; done) | (simp [*]; done)), (by first | rfl | (simp; done) | (simp [*]; done)), (by first | rfl | (simp; done) | (simp [*]; done)), H', ⟨by have := HK1.out; omega⟩, by repeat (first | exact Drawn0.refl _ | apply Drawn0.step)⟩
          · rw [if_neg c5] at H
            exact absurd H (by simp)
        · replace c4 := Bool.eq_false_iff.mpr c4
          subst c4
          have H1 : (if x5_1.size + 1 ≤ 9223372036854775807 then (if x6_1.size + 1 ≤ 9223372036854775807 then (fascinelaw06_brackets.l0 k1 a0 false (x5_1 ++ (⟨#[40]⟩ : ByteArray)) (x6_1 ++ (⟨#[41]⟩ : ByteArray)) (wrap64 (x7_1 + 1))) else (none)) else (none)) = some r := by rw [if_neg (show ¬ (false = true) by decide)] at H; exact H
          clear H
          have H := H1
          clear H1
          by_cases c6 : x5_1.size + 1 ≤ 9223372036854775807
          · rw [if_pos c6] at H
            have c6b0 := eq_true c6
            have c6b1 : decide (x5_1.size + 1 ≤ 9223372036854775807) = true := decide_eq_true c6
            try have c6b2 : (9223372036854775807 < x5_1.size + 1) = False := eq_false (Nat.not_lt.2 c6)
            by_cases c7 : x6_1.size + 1 ≤ 9223372036854775807
            · rw [if_pos c7] at H
              have c7b0 := eq_true c7
              have c7b1 : decide (x6_1.size + 1 ≤ 9223372036854775807) = true := decide_eq_true c7
              try have c7b2 : (9223372036854775807 < x6_1.size + 1) = False := eq_false (Nat.not_lt.2 c7)
              have H' := Aside0.mk H
              clear H
              go_wp2
              go_roundg k1
              case measure => have := HK1.out; omega
              case rel => exact ⟨(x5_1 ++ (⟨#[40]⟩ : ByteArray)), (x6_1 ++ (⟨#[41]⟩ : ByteArray)), (wrap64 (x7_1 + 1)), (by first | rfl | (simp; done) | (simp [*]; done)), (by first | rfl | (simp; done) | (simp [*]; done)), (by first | rfl | (simp; done) | (simp [*]; done)), H', ⟨by have := HK1.out; omega⟩, by repeat (first | exact Drawn0.refl _ | apply Drawn0.step)⟩
            · rw [if_neg c7] at H
              exact absurd H (by simp)
          · rw [if_neg c6] at H
            exact absurd H (by simp)
      · rw [if_neg c3] at H
        have c3b0 : decide (x7_1 < a0) = false := decide_eq_false c3
        clear c3
        by_cases c8 : x5_1.size + 1 ≤ 9223372036854775807
        · rw [if_pos c8] at H
          have c8b0 := eq_true c8
          have c8b1 : decide (x5_1.size + 1 ≤ 9223372036854775807) = true := decide_eq_true c8
          try have c8b2 : (9223372036854775807 < x5_1.size + 1) = False := eq_false (Nat.not_lt.2 c8)
          by_cases c9 : x5_1.size + 1 + x6_1.size ≤ 9223372036854775807
          · rw [if_pos c9] at H
            have c9b0 := eq_true c9
            have c9b1 : decide (x5_1.size + 1 + x6_1.size ≤ 9223372036854775807) = true := decide_eq_true c9
            try have c9b2 : (9223372036854775807 < x5_1.size + 1 + x6_1.size) = False := eq_false (Nat.not_lt.2 c9)
            obtain rfl := Option.some.inj H
            go_wp2
            go_ret
            exact ⟨by first | rfl | (simp; done) | (simp [*]; done), by repeat (first | exact Drawn0.refl _ | apply Drawn0.step)⟩
          · rw [if_neg c9] at H
            exact absurd H (by simp)
        · rw [if_neg c8] at H
          exact absurd H (by simp)

/-! ### fascinelaw06_QueryDeep: function 6 -/
def fascinelaw06_QueryDeep.l0 : Nat → Int → Int → Int → Int → ByteArray → Int → List (S25) → Option (Bool)
  | 0, _, _, _, _, _, _, _ => none
  | k + 1, x5, x8, x9, x130000, x130001, x130002, x130003 => if x9 < x5 then (if x130000 = 5 then (if (x130003.length : Int) = 1 then (if 0 < (x130003.length : Int) then (fascinelaw06_QueryDeep.l0 k x5 x8 (wrap64 (x9 + 1)) ((rd_T25 x130003 0).f0) ((rd_T25 x130003 0).f1) ((rd_T25 x130003 0).f2) ((rd_T25 x130003 0).f3)) else (none)) else (some false)) else (some false)) else (if x8 = 0 then ((fascineref06_Same.f k x130000 x130001 x130002 x130003 1 (⟨#[120]⟩ : ByteArray) 0 ([] : List (S25))).bind fun t131 => (some t131)) else (some false))
def fascinelaw06_QueryDeep.f (k : Nat) (a0 : Int) (a1 : Bool) : Option (Bool) := (fascinelaw06_awake.f).bind fun t119 => (if t119 = true then ((fascinelaw06_brackets.f k (Int.tmod (wrap64 (a0)) 40) a1).bind fun t120 => ((query_Parse.f t120).bind fun bt121 => (if (Int.tmod (wrap64 (a0)) 40) > 16 then (if a1 = true then (if bt121.2.2.2.2.2 = 7 then (some (bt121.2.2.2.2.1 == 64)) else (some false)) else (if bt121.2.2.2.2.2 = 7 then (some (bt121.2.2.2.2.1 == 16)) else (some false))) else (if a1 = true then (fascinelaw06_QueryDeep.l0 k (Int.tmod (wrap64 (a0)) 40) bt121.2.2.2.2.2 0 bt121.1 bt121.2.1 bt121.2.2.1 bt121.2.2.2.1) else (if bt121.2.2.2.2.2 = 0 then (some (bt121.1 == 1)) else (some false)))))) else (some false))
theorem fascinelaw06_QueryDeep.mono_l : ∀ k, (∀ y0 y1 y2 y3 y4 y5 y6, LeO (fascinelaw06_QueryDeep.l0 k y0 y1 y2 y3 y4 y5 y6) (fascinelaw06_QueryDeep.l0 (k + 1) y0 y1 y2 y3 y4 y5 y6))
  | 0 => fun _ _ _ _ _ _ _ r h => by simp [fascinelaw06_QueryDeep.l0] at h
  | k + 1 => by
    have ih0 := fascinelaw06_QueryDeep.mono_l k
    · intro y0 y1 y2 y3 y4 y5 y6
      unfold fascinelaw06_QueryDeep.l0
      repeat' first
      | (with_reducible exact ih0 _ _ _ _ _ _ _)
      | (with_reducible exact fascinelaw06_brackets.mono _ _ _)
      | (with_reducible exact fascineref06_Same.mono _ _ _ _ _ _ _ _ _)
      | (with_reducible exact LeO.refl _)
      | (with_reducible exact LeO.none _)
      | (with_reducible refine LeO.ite ?_ ?_)
      | (with_reducible refine LeO.bind ?_ (fun _ => ?_))
      | exact ih0 _ _ _ _ _ _ _
      | exact fascinelaw06_brackets.mono _ _ _
      | exact fascineref06_Same.mono _ _ _ _ _ _ _ _ _
      | exact LeO.none _
      | refine LeO.ite ?_ ?_
      | refine LeO.bind ?_ (fun _ => ?_)
theorem fascinelaw06_QueryDeep.mono : ∀ a0 a1 k, LeO (fascinelaw06_QueryDeep.f k a0 a1) (fascinelaw06_QueryDeep.f (k + 1) a0 a1) := by
  intro a0 a1 k
  have ih0 := fascinelaw06_QueryDeep.mono_l k
  unfold fascinelaw06_QueryDeep.f
  repeat' first
      | (with_reducible exact ih0 _ _ _ _ _ _ _)
      | (with_reducible exact fascinelaw06_brackets.mono _ _ _)
      | (with_reducible exact fascineref06_Same.mono _ _ _ _ _ _ _ _ _)
      | (with_reducible exact LeO.refl _)
      | (with_reducible exact LeO.none _)
      | (with_reducible refine LeO.ite ?_ ?_)
      | (with_reducible refine LeO.bind ?_ (fun _ => ?_))
      | exact ih0 _ _ _ _ _ _ _
      | exact fascinelaw06_brackets.mono _ _ _
      | exact fascineref06_Same.mono _ _ _ _ _ _ _ _ _
      | exact LeO.none _
      | refine LeO.ite ?_ ?_
      | refine LeO.bind ?_ (fun _ => ?_)
set_option maxHeartbeats 8000000 in
set_option maxRecDepth 100000 in
theorem fascinelaw06_QueryDeep.calls (k : Nat) (a0 : Int) (a1 : Bool) (r : Bool) (w : World) (hT : tabs w) (h : fascinelaw06_QueryDeep.f k a0 a1 = some r) (hr_ : r = true) :
    Calls Tryd.prog 6 #[.int .u8 a0, .bool a1] w fun e w' => e = .returned (.bool r) ∧ Below w.heap.size w w' := by
  have HR_ := Aside0.mk hr_
  clear hr_
  have hu25 := Tryd.underlying25
  have HT := Aside0.mk hT
  clear hT
  have HB := Aside0.mk (Below.refl w.heap.size w)
  have H : ((fascinelaw06_awake.f).bind fun t119 => (if t119 = true then ((fascinelaw06_brackets.f k (Int.tmod (wrap64 (a0)) 40) a1).bind fun t120 => ((query_Parse.f t120).bind fun bt121 => (if (Int.tmod (wrap64 (a0)) 40) > 16 then (if a1 = true then (if bt121.2.2.2.2.2 = 7 then (some (bt121.2.2.2.2.1 == 64)) else (some false)) else (if bt121.2.2.2.2.2 = 7 then (some (bt121.2.2.2.2.1 == 16)) else (some false))) else (if a1 = true then (fascinelaw06_QueryDeep.l0 k (Int.tmod (wrap64 (a0)) 40) bt121.2.2.2.2.2 0 bt121.1 bt121.2.1 bt121.2.2.1 bt121.2.2.2.1) else (if bt121.2.2.2.2.2 = 0 then (some (bt121.1 == 1)) else (some false)))))) else (some false))) = some r := h
  clear h
  replace H := Option.bind_eq_some_iff.mp H
  obtain ⟨t119, A30, H⟩ := H
  replace H : (if t119 = true then ((fascinelaw06_brackets.f k (Int.tmod (wrap64 (a0)) 40) a1).bind fun t120 => ((query_Parse.f t120).bind fun bt121 => (if (Int.tmod (wrap64 (a0)) 40) > 16 then (if a1 = true then (if bt121.2.2.2.2.2 = 7 then (some (bt121.2.2.2.2.1 == 64)) else (some false)) else (if bt121.2.2.2.2.2 = 7 then (some (bt121.2.2.2.2.1 == 16)) else (some false))) else (if a1 = true then (fascinelaw06_QueryDeep.l0 k (Int.tmod (wrap64 (a0)) 40) bt121.2.2.2.2.2 0 bt121.1 bt121.2.1 bt121.2.2.1 bt121.2.2.2.1) else (if bt121.2.2.2.2.2 = 0 then (some (bt121.1 == 1)) else (some false)))))) else (some false)) = some r := H
  have A3 := Aside0.mk A30
  clear A30
  by_cases c4 : t119 = true
  · subst c4
    have H1 : ((fascinelaw06_brackets.f k (Int.tmod (wrap64 (a0)) 40) a1).bind fun t120 => ((query_Parse.f t120).bind fun bt121 => (if (Int.tmod (wrap64 (a0)) 40) > 16 then (if a1 = true then (if bt121.2.2.2.2.2 = 7 then (some (bt121.2.2.2.2.1 == 64)) else (some false)) else (if bt121.2.2.2.2.2 = 7 then (some (bt121.2.2.2.2.1 == 16)) else (some false))) else (if a1 = true then (fascinelaw06_QueryDeep.l0 k (Int.tmod (wrap64 (a0)) 40) bt121.2.2.2.2.2 0 bt121.1 bt121.2.1 bt121.2.2.1 bt121.2.2.2.1) else (if bt121.2.2.2.2.2 = 0 then (some (bt121.1 == 1)) else (some false)))))) = some r := by rw [if_pos rfl] at H; exact H
    clear H
    have H := H1
    clear H1
    replace H := Option.bind_eq_some_iff.mp H
    obtain ⟨t120, A50, H⟩ := H
    replace H : ((query_Parse.f t120).bind fun bt121 => (if (Int.tmod (wrap64 (a0)) 40) > 16 then (if a1 = true then (if bt121.2.2.2.2.2 = 7 then (some (bt121.2.2.2.2.1 == 64)) else (some false)) else (if bt121.2.2.2.2.2 = 7 then (some (bt121.2.2.2.2.1 == 16)) else (some false))) else (if a1 = true then (fascinelaw06_QueryDeep.l0 k (Int.tmod (wrap64 (a0)) 40) bt121.2.2.2.2.2 0 bt121.1 bt121.2.1 bt121.2.2.1 bt121.2.2.2.1) else (if bt121.2.2.2.2.2 = 0 then (some (bt121.1 == 1)) else (some false))))) = some r := H
    have A5 := Aside0.mk A50
    clear A50
    replace H := Option.bind_eq_some_iff.mp H
    obtain ⟨⟨t121, t122, t123, t124, t127, t128⟩, A60, H⟩ := H
    replace H : (if (Int.tmod (wrap64 (a0)) 40) > 16 then (if a1 = true then (if t128 = 7 then (some (t127 == 64)) else (some false)) else (if t128 = 7 then (some (t127 == 16)) else (some false))) else (if a1 = true then (fascinelaw06_QueryDeep.l0 k (Int.tmod (wrap64 (a0)) 40) t128 0 t121 t122 t123 t124) else (if t128 = 0 then (some (t121 == 1)) else (some false)))) = some r := H
    have A6 := Aside0.mk A60
    clear A60
    by_cases c7 : (Int.tmod (wrap64 (a0)) 40) > 16
    · rw [if_pos c7] at H
      have c7b0 : decide (16 < (Int.tmod (wrap64 (a0)) 40)) = true := decide_eq_true c7
      clear c7
      by_cases c8 : a1 = true
      · subst c8
        have H1 : (if t128 = 7 then (some (t127 == 64)) else (some false)) = some r := by rw [if_pos rfl] at H; exact H
        clear H
        have H := H1
        clear H1
        by_cases c9 : t128 = 7
        · rw [if_pos c9] at H
          have c9b0 : (t128 == 7) = true := beq_iff_eq.mpr c9
          have c9b1 : (t128 != 7) = false := bne_eq_false_iff_eq.mpr c9
          clear c9
          obtain rfl := Option.some.inj H
          go_enter Tryd.func6, Tryd.ntmps6
          go_wp2_with (first | ((with_reducible refine gate_callee (f := 8) rfl ?_); refine goesL_ (some 10) rfl rfl Tryd.func8 (by kernel_rfl) rfl #[] rfl (by (try simp only [List.map_toArray, List.map_cons, List.map_nil]); first | done | rfl | (simp only [List.length_drop, List.length_take]; rfl)) ?_; (with_reducible refine (fascinelaw06_awake.calls  true _ ?side1 A3.out).mono ?_); (case side1 => first | exact HT.out | exact tabs_below HT.out (by repeat (first | (with_reducible first | exact HB.out | apply below_alloc | apply pw_below_drewN | apply below_drew1) | exact HB.out))); rintro e w10 ⟨rfl, hb⟩; refine ⟨_, rfl, ?_⟩; have n0_ := Aside0.mk (below_step (by repeat (first | (with_reducible first | exact HB.out | apply below_alloc | apply pw_below_drewN | apply below_drew1) | exact HB.out)) hb); clear HB; have HB := n0_; clear n0_; (try clear hb); (try clear hb2); (try clear hk); (try clear hi)) | ((with_reducible refine gate_callee (f := 14) rfl ?_); refine goesL_ (some 18) rfl rfl Tryd.func14 (by kernel_rfl) rfl #[.int .i64 (Int.tmod (wrap64 (a0)) 40), .bool true] rfl (by (try simp only [List.map_toArray, List.map_cons, List.map_nil]); first | done | rfl | (simp only [List.length_drop, List.length_take]; rfl)) ?_; (with_reducible refine (fascinelaw06_brackets.calls k (Int.tmod (wrap64 (a0)) 40) true t120 _ A5.out).mono ?_); rintro e w' ⟨rfl, ⟨nd, rfl⟩⟩; refine ⟨_, rfl, ?_⟩; (try (rw [drewN_self w10]; generalize hq_ : World.drewN w10 _ = w10; have n0_ : Aside0 (Below w.heap.size w w10) := ⟨by rw [← hq_]; exact (by repeat (first | (with_reducible first | exact HB.out | apply below_alloc | apply pw_below_drewN | apply below_drew1) | exact HB.out))⟩; clear HB hq_; have HB := n0_; clear n0_))) | ((with_reducible refine gate_callee (f := 9) rfl ?_); refine goesL_ (some 19) rfl rfl Tryd.func9 (by kernel_rfl) rfl #[.string t120] rfl (by (try simp only [List.map_toArray, List.map_cons, List.map_nil]); first | done | rfl | (simp only [List.length_drop, List.length_take]; rfl)) ?_; (with_reducible refine (query_Parse.calls t120 t121 t122 t123 t124 t127 t128 _ ?side1 A6.out).mono ?_); (case side1 => first | exact HT.out | exact tabs_below HT.out (by repeat (first | (with_reducible first | exact HB.out | apply below_alloc | apply pw_below_drewN | apply below_drew1) | exact HB.out))); rintro e w11 ⟨v125, rfl, ho0, hb⟩; refine ⟨_, rfl, ?_⟩; have n0_ := Aside0.mk (Kd.V_lower (Kd.V_mono (ok' := fun k_ => True) ho0 (fun k_ hk_ => trivial)) (below_size (by repeat (first | (with_reducible first | exact HB.out | apply below_alloc | apply pw_below_drewN | apply below_drew1) | exact HB.out)))); have n1_ := Aside0.mk (below_step (by repeat (first | (with_reducible first | exact HB.out | apply below_alloc | apply pw_below_drewN | apply below_drew1) | exact HB.out)) hb); clear HB; have HO126 := n0_; have HB := n1_; clear n0_ n1_; (try clear hb); (try clear hb2); (try clear hk); (try clear hi); (try clear ho0)) | ((with_reducible refine gate_dst (N := 6) rfl ?_); (try (refine gate_guard (by rfl) ?_; dsimp only)); refine box_event ?hg (N := 6) ?hd (cs := #[.int .u8 0, .string (⟨#[]⟩ : ByteArray), .int .i64 0, .slice none 0 0]) (t := 25) ?hr ?_; (case hd => rfl); (case hg => rfl); (case hr => first | (go_simp; done) | (go_simp; rfl)); intro gb129 hg w12 hbox hb; have n0_ := Aside0.mk (Kd.V_below (Kd.V_elderB (by (with_reducible repeat (first | apply Kd.V_alloc | apply Kd.V_drewN | apply Kd.V_drew)); exact HO126.out) gb129 (Nat.le_of_eq hg.symm)) hb); have n1_ := Aside0.mk (below_step (by repeat (first | (with_reducible first | exact HB.out | apply below_alloc | apply pw_below_drewN | apply below_drew1) | exact HB.out)) hb); have n2_ := Aside0.mk (hbox); have n3_ := Aside0.mk ((by rw [hg]; exact (below_size (by repeat (first | (with_reducible first | exact HB.out | apply below_alloc | apply pw_below_drewN | apply below_drew1) | exact HB.out))) : w.heap.size ≤ gb129)); have n4_ := Aside0.mk ((by rw [hg]; exact (below_size (by repeat (first | (with_reducible first | exact HB.out | apply below_alloc | apply pw_below_drewN | apply below_drew1) | exact HB.out))) : w.heap.size ≤ gb129)); clear HO126; clear HB; have HO126 := n0_; have HB := n1_; have BK129 := n2_; have GW129 := n3_; have GE129 := n4_; clear n0_ n1_ n2_ n3_ n4_; clear hb hbox hg; have hcz13_0 : w12.cell? ⟨gb129, 0, none⟩ = some (.int .u8 0) := (blk_cell BK129.out 0).trans rfl; have hcz13_1 : w12.cell? ⟨gb129, 1, none⟩ = some (.string (⟨#[]⟩ : ByteArray)) := (blk_cell BK129.out 1).trans rfl; have hcz13_2 : w12.cell? ⟨gb129, 2, none⟩ = some (.int .i64 0) := (blk_cell BK129.out 2).trans rfl; have hcz13_3 : w12.cell? ⟨gb129, 3, none⟩ = some (.slice none 0 0) := (blk_cell BK129.out 3).trans rfl; have hfz13_0 := blk_frozen BK129.out 0; have hfz13_1 := blk_frozen BK129.out 1; have hfz13_2 := blk_frozen BK129.out 2; have hfz13_3 := blk_frozen BK129.out 3; obtain ⟨Ao14, co14, eo14⟩ := Kd.V_slice HO126.out; subst eo14))
          go_ret
          exact ⟨by first | rfl | (simp [errW_none, errW_some] <;> rfl) | (simp [*, errW_none, errW_some] <;> rfl), by repeat (first | (with_reducible first | exact HB.out | apply below_alloc | apply pw_below_drewN | apply below_drew1 | refine below_set ?_ GE129.out) | exact HB.out)⟩
        · rw [if_neg c9] at H
          have c9b0 : (t128 == 7) = false := beq_eq_false_iff_ne.mpr c9
          have c9b1 : (t128 != 7) = true := bne_iff_ne.mpr c9
          exact absurd (HR_.out.symm.trans (Option.some.inj H).symm) (by decide)
      · replace c8 := Bool.eq_false_iff.mpr c8
        subst c8
        have H1 : (if t128 = 7 then (some (t127 == 16)) else (some false)) = some r := by rw [if_neg (show ¬ (false = true) by decide)] at H; exact H
        clear H
        have H := H1
        clear H1
        by_cases c15 : t128 = 7
        · rw [if_pos c15] at H
          have c15b0 : (t128 == 7) = true := beq_iff_eq.mpr c15
          have c15b1 : (t128 != 7) = false := bne_eq_false_iff_eq.mpr c15
          clear c15
          obtain rfl := Option.some.inj H
          go_enter Tryd.func6, Tryd.ntmps6
          go_wp2_with (first | ((with_reducible refine gate_callee (f := 8) rfl ?_); refine goesL_ (some 10) rfl rfl Tryd.func8 (by kernel_rfl) rfl #[] rfl (by (try simp only [List.map_toArray, List.map_cons, List.map_nil]); first | done | rfl | (simp only [List.length_drop, List.length_take]; rfl)) ?_; (with_reducible refine (fascinelaw06_awake.calls  true _ ?side1 A3.out).mono ?_); (case side1 => first | exact HT.out | exact tabs_below HT.out (by repeat (first | (with_reducible first | exact HB.out | apply below_alloc | apply pw_below_drewN | apply below_drew1) | exact HB.out))); rintro e w16 ⟨rfl, hb⟩; refine ⟨_, rfl, ?_⟩; have n0_ := Aside0.mk (below_step (by repeat (first | (with_reducible first | exact HB.out | apply below_alloc | apply pw_below_drewN | apply below_drew1) | exact HB.out)) hb); clear HB; have HB := n0_; clear n0_; (try clear hb); (try clear hb2); (try clear hk); (try clear hi)) | ((with_reducible refine gate_callee (f := 14) rfl ?_); refine goesL_ (some 18) rfl rfl Tryd.func14 (by kernel_rfl) rfl #[.int .i64 (Int.tmod (wrap64 (a0)) 40), .bool false] rfl (by (try simp only [List.map_toArray, List.map_cons, List.map_nil]); first | done | rfl | (simp only [List.length_drop, List.length_take]; rfl)) ?_; (with_reducible refine (fascinelaw06_brackets.calls k (Int.tmod (wrap64 (a0)) 40) false t120 _ A5.out).mono ?_); rintro e w' ⟨rfl, ⟨nd, rfl⟩⟩; refine ⟨_, rfl, ?_⟩; (try (rw [drewN_self w16]; generalize hq_ : World.drewN w16 _ = w16; have n0_ : Aside0 (Below w.heap.size w w16) := ⟨by rw [← hq_]; exact (by repeat (first | (with_reducible first | exact HB.out | apply below_alloc | apply pw_below_drewN | apply below_drew1) | exact HB.out))⟩; clear HB hq_; have HB := n0_; clear n0_))) | ((with_reducible refine gate_callee (f := 9) rfl ?_); refine goesL_ (some 19) rfl rfl Tryd.func9 (by kernel_rfl) rfl #[.string t120] rfl (by (try simp only [List.map_toArray, List.map_cons, List.map_nil]); first | done | rfl | (simp only [List.length_drop, List.length_take]; rfl)) ?_; (with_reducible refine (query_Parse.calls t120 t121 t122 t123 t124 t127 t128 _ ?side1 A6.out).mono ?_); (case side1 => first | exact HT.out | exact tabs_below HT.out (by repeat (first | (with_reducible first | exact HB.out | apply below_alloc | apply pw_below_drewN | apply below_drew1) | exact HB.out))); rintro e w17 ⟨v125, rfl, ho0, hb⟩; refine ⟨_, rfl, ?_⟩; have n0_ := Aside0.mk (Kd.V_lower (Kd.V_mono (ok' := fun k_ => True) ho0 (fun k_ hk_ => trivial)) (below_size (by repeat (first | (with_reducible first | exact HB.out | apply below_alloc | apply pw_below_drewN | apply below_drew1) | exact HB.out)))); have n1_ := Aside0.mk (below_step (by repeat (first | (with_reducible first | exact HB.out | apply below_alloc | apply pw_below_drewN | apply below_drew1) | exact HB.out)) hb); clear HB; have HO126 := n0_; have HB := n1_; clear n0_ n1_; (try clear hb); (try clear hb2); (try clear hk); (try clear hi); (try clear ho0)) | ((with_reducible refine gate_dst (N := 6) rfl ?_); (try (refine gate_guard (by rfl) ?_; dsimp only)); refine box_event ?hg (N := 6) ?hd (cs := #[.int .u8 0, .string (⟨#[]⟩ : ByteArray), .int .i64 0, .slice none 0 0]) (t := 25) ?hr ?_; (case hd => rfl); (case hg => rfl); (case hr => first | (go_simp; done) | (go_simp; rfl)); intro gb129 hg w18 hbox hb; have n0_ := Aside0.mk (Kd.V_below (Kd.V_elderB (by (with_reducible repeat (first | apply Kd.V_alloc | apply Kd.V_drewN | apply Kd.V_drew)); exact HO126.out) gb129 (Nat.le_of_eq hg.symm)) hb); have n1_ := Aside0.mk (below_step (by repeat (first | (with_reducible first | exact HB.out | apply below_alloc | apply pw_below_drewN | apply below_drew1) | exact HB.out)) hb); have n2_ := Aside0.mk (hbox); have n3_ := Aside0.mk ((by rw [hg]; exact (below_size (by repeat (first | (with_reducible first | exact HB.out | apply below_alloc | apply pw_below_drewN | apply below_drew1) | exact HB.out))) : w.heap.size ≤ gb129)); have n4_ := Aside0.mk ((by rw [hg]; exact (below_size (by repeat (first | (with_reducible first | exact HB.out | apply below_alloc | apply pw_below_drewN | apply below_drew1) | exact HB.out))) : w.heap.size ≤ gb129)); clear HO126; clear HB; have HO126 := n0_; have HB := n1_; have BK129 := n2_; have GW129 := n3_; have GE129 := n4_; clear n0_ n1_ n2_ n3_ n4_; clear hb hbox hg; have hcz19_0 : w18.cell? ⟨gb129, 0, none⟩ = some (.int .u8 0) := (blk_cell BK129.out 0).trans rfl; have hcz19_1 : w18.cell? ⟨gb129, 1, none⟩ = some (.string (⟨#[]⟩ : ByteArray)) := (blk_cell BK129.out 1).trans rfl; have hcz19_2 : w18.cell? ⟨gb129, 2, none⟩ = some (.int .i64 0) := (blk_cell BK129.out 2).trans rfl; have hcz19_3 : w18.cell? ⟨gb129, 3, none⟩ = some (.slice none 0 0) := (blk_cell BK129.out 3).trans rfl; have hfz19_0 := blk_frozen BK129.out 0; have hfz19_1 := blk_frozen BK129.out 1; have hfz19_2 := blk_frozen BK129.out 2; have hfz19_3 := blk_frozen BK129.out 3; obtain ⟨Ao20, co20, eo20⟩ := Kd.V_slice HO126.out; subst eo20))
          go_ret
          exact ⟨by first | rfl | (simp [errW_none, errW_some] <;> rfl) | (simp [*, errW_none, errW_some] <;> rfl), by repeat (first | (with_reducible first | exact HB.out | apply below_alloc | apply pw_below_drewN | apply below_drew1 | refine below_set ?_ GE129.out) | exact HB.out)⟩
        · rw [if_neg c15] at H
          have c15b0 : (t128 == 7) = false := beq_eq_false_iff_ne.mpr c15
          have c15b1 : (t128 != 7) = true := bne_iff_ne.mpr c15
          exact absurd (HR_.out.symm.trans (Option.some.inj H).symm) (by decide)
    · rw [if_neg c7] at H
      have c7b0 : decide (16 < (Int.tmod (wrap64 (a0)) 40)) = false := decide_eq_false c7
      clear c7
      by_cases c21 : a1 = true
      · subst c21
        have H1 : (fascinelaw06_QueryDeep.l0 k (Int.tmod (wrap64 (a0)) 40) t128 0 t121 t122 t123 t124) = some r := by rw [if_pos rfl] at H; exact H
        clear H
        have H := H1
        clear H1
        have H' := Aside0.mk H
        clear H
        go_enter Tryd.func6, Tryd.ntmps6
        go_wp2_with (first | ((with_reducible refine gate_callee (f := 8) rfl ?_); refine goesL_ (some 10) rfl rfl Tryd.func8 (by kernel_rfl) rfl #[] rfl (by (try simp only [List.map_toArray, List.map_cons, List.map_nil]); first | done | rfl | (simp only [List.length_drop, List.length_take]; rfl)) ?_; (with_reducible refine (fascinelaw06_awake.calls  true _ ?side1 A3.out).mono ?_); (case side1 => first | exact HT.out | exact tabs_below HT.out (by repeat (first | (with_reducible first | exact HB.out | apply below_alloc | apply pw_below_drewN | apply below_drew1) | exact HB.out))); rintro e w22 ⟨rfl, hb⟩; refine ⟨_, rfl, ?_⟩; have n0_ := Aside0.mk (below_step (by repeat (first | (with_reducible first | exact HB.out | apply below_alloc | apply pw_below_drewN | apply below_drew1) | exact HB.out)) hb); clear HB; have HB := n0_; clear n0_; (try clear hb); (try clear hb2); (try clear hk); (try clear hi)) | ((with_reducible refine gate_callee (f := 14) rfl ?_); refine goesL_ (some 18) rfl rfl Tryd.func14 (by kernel_rfl) rfl #[.int .i64 (Int.tmod (wrap64 (a0)) 40), .bool true] rfl (by (try simp only [List.map_toArray, List.map_cons, List.map_nil]); first | done | rfl | (simp only [List.length_drop, List.length_take]; rfl)) ?_; (with_reducible refine (fascinelaw06_brackets.calls k (Int.tmod (wrap64 (a0)) 40) true t120 _ A5.out).mono ?_); rintro e w' ⟨rfl, ⟨nd, rfl⟩⟩; refine ⟨_, rfl, ?_⟩; (try (rw [drewN_self w22]; generalize hq_ : World.drewN w22 _ = w22; have n0_ : Aside0 (Below w.heap.size w w22) := ⟨by rw [← hq_]; exact (by repeat (first | (with_reducible first | exact HB.out | apply below_alloc | apply pw_below_drewN | apply below_drew1) | exact HB.out))⟩; clear HB hq_; have HB := n0_; clear n0_))) | ((with_reducible refine gate_callee (f := 9) rfl ?_); refine goesL_ (some 19) rfl rfl Tryd.func9 (by kernel_rfl) rfl #[.string t120] rfl (by (try simp only [List.map_toArray, List.map_cons, List.map_nil]); first | done | rfl | (simp only [List.length_drop, List.length_take]; rfl)) ?_; (with_reducible refine (query_Parse.calls t120 t121 t122 t123 t124 t127 t128 _ ?side1 A6.out).mono ?_); (case side1 => first | exact HT.out | exact tabs_below HT.out (by repeat (first | (with_reducible first | exact HB.out | apply below_alloc | apply pw_below_drewN | apply below_drew1) | exact HB.out))); rintro e w23 ⟨v125, rfl, ho0, hb⟩; refine ⟨_, rfl, ?_⟩; have n0_ := Aside0.mk (Kd.V_lower (Kd.V_mono (ok' := fun k_ => True) ho0 (fun k_ hk_ => trivial)) (below_size (by repeat (first | (with_reducible first | exact HB.out | apply below_alloc | apply pw_below_drewN | apply below_drew1) | exact HB.out)))); have n1_ := Aside0.mk (below_step (by repeat (first | (with_reducible first | exact HB.out | apply below_alloc | apply pw_below_drewN | apply below_drew1) | exact HB.out)) hb); clear HB; have HO126 := n0_; have HB := n1_; clear n0_ n1_; (try clear hb); (try clear hb2); (try clear hk); (try clear hi); (try clear ho0)) | ((with_reducible refine gate_dst (N := 6) rfl ?_); (try (refine gate_guard (by rfl) ?_; dsimp only)); refine box_event ?hg (N := 6) ?hd (cs := #[.int .u8 0, .string (⟨#[]⟩ : ByteArray), .int .i64 0, .slice none 0 0]) (t := 25) ?hr ?_; (case hd => rfl); (case hg => rfl); (case hr => first | (go_simp; done) | (go_simp; rfl)); intro gb129 hg w24 hbox hb; have n0_ := Aside0.mk (Kd.V_below (Kd.V_elderB (by (with_reducible repeat (first | apply Kd.V_alloc | apply Kd.V_drewN | apply Kd.V_drew)); exact HO126.out) gb129 (Nat.le_of_eq hg.symm)) hb); have n1_ := Aside0.mk (below_step (by repeat (first | (with_reducible first | exact HB.out | apply below_alloc | apply pw_below_drewN | apply below_drew1) | exact HB.out)) hb); have n2_ := Aside0.mk (hbox); have n3_ := Aside0.mk ((by rw [hg]; exact (below_size (by repeat (first | (with_reducible first | exact HB.out | apply below_alloc | apply pw_below_drewN | apply below_drew1) | exact HB.out))) : w.heap.size ≤ gb129)); have n4_ := Aside0.mk ((by rw [hg]; exact (below_size (by repeat (first | (with_reducible first | exact HB.out | apply below_alloc | apply pw_below_drewN | apply below_drew1) | exact HB.out))) : w.heap.size ≤ gb129)); clear HO126; clear HB; have HO126 := n0_; have HB := n1_; have BK129 := n2_; have GW129 := n3_; have GE129 := n4_; clear n0_ n1_ n2_ n3_ n4_; clear hb hbox hg; have hcz25_0 : w24.cell? ⟨gb129, 0, none⟩ = some (.int .u8 0) := (blk_cell BK129.out 0).trans rfl; have hcz25_1 : w24.cell? ⟨gb129, 1, none⟩ = some (.string (⟨#[]⟩ : ByteArray)) := (blk_cell BK129.out 1).trans rfl; have hcz25_2 : w24.cell? ⟨gb129, 2, none⟩ = some (.int .i64 0) := (blk_cell BK129.out 2).trans rfl; have hcz25_3 : w24.cell? ⟨gb129, 3, none⟩ = some (.slice none 0 0) := (blk_cell BK129.out 3).trans rfl; have hfz25_0 := blk_frozen BK129.out 0; have hfz25_1 := blk_frozen BK129.out 1; have hfz25_2 := blk_frozen BK129.out 2; have hfz25_3 := blk_frozen BK129.out 3; obtain ⟨Ao26, co26, eo26⟩ := Kd.V_slice HO126.out; subst eo26))
        go_loopg [9] k (fun kq v9 w' => ∃ (x9_1 : Int) (x130000_1 : Int) (x130001_1 : ByteArray) (x130002_1 : Int) (x130003_1 : List (S25)) (u130003 : Value), v9 = .int .i64 x9_1 ∧ Aside0 (fascinelaw06_QueryDeep.l0 kq (Int.tmod (wrap64 (a0)) 40) t128 x9_1 x130000_1 x130001_1 x130002_1 x130003_1 = some r) ∧ Aside0 (kq ≤ k) ∧ Aside0 (Kd.V k25 25 w' w.heap.size (fun k_ => k_ ≠ gb129) u130003 x130003_1) ∧ Aside0 (w'.heap[gb129]? = some (.cells #[.int .u8 x130000_1, .string x130001_1, .int .i64 x130002_1, u130003] 25 (0, 0))) ∧ Aside0 (Below w.heap.size w w'))
        case atStart => exact ⟨(0), (t121), (t122), (t123), (t124), (.slice Ao26 t124.length co26), (by first | rfl | (simp; done) | (simp [*]; done)), H', ⟨Nat.le_refl _⟩, ⟨by (with_reducible repeat (first | apply Kd.V_alloc | apply Kd.V_drewN | apply Kd.V_drew)); exact Kd.V_mono (Kd.V_far (p := ⟨gb129, 3, none⟩) (Kd.V_far (p := ⟨gb129, 2, none⟩) (Kd.V_far (p := ⟨gb129, 1, none⟩) (Kd.V_far (p := ⟨gb129, 0, none⟩) (Kd.V_mono HO126.out (fun k_ hk => (⟨hk, hk.2⟩ : _ ∧ k_ ≠ gb129))) (fun _ hk => hk.2) (.int .u8 t121)) (fun _ hk => hk.2) (.string t122)) (fun _ hk => hk.2) (.int .i64 t123)) (fun _ hk => hk.2) (.slice Ao26 t124.length co26)) (fun _ hk => hk.1.2)⟩, ⟨by (with_reducible repeat (first | refine blk_drewN ?_ _ | refine blk_drew ?_ | refine blk_alloc ?_ _)); refine blk_put (cs := #[.int .u8 t121, .string t122, .int .i64 t123, .slice none 0 0]) ?_ 3 _ rfl; (with_reducible repeat (first | refine blk_drewN ?_ _ | refine blk_drew ?_ | refine blk_alloc ?_ _)); refine blk_put (cs := #[.int .u8 t121, .string t122, .int .i64 0, .slice none 0 0]) ?_ 2 _ rfl; (with_reducible repeat (first | refine blk_drewN ?_ _ | refine blk_drew ?_ | refine blk_alloc ?_ _)); refine blk_put (cs := #[.int .u8 t121, .string (⟨#[]⟩ : ByteArray), .int .i64 0, .slice none 0 0]) ?_ 1 _ rfl; (with_reducible repeat (first | refine blk_drewN ?_ _ | refine blk_drew ?_ | refine blk_alloc ?_ _)); refine blk_put (cs := #[.int .u8 0, .string (⟨#[]⟩ : ByteArray), .int .i64 0, .slice none 0 0]) ?_ 0 _ rfl; (with_reducible repeat (first | refine blk_drewN ?_ _ | refine blk_drew ?_ | refine blk_alloc ?_ _)); exact BK129.out⟩, ⟨by repeat (first | (with_reducible first | exact HB.out | apply below_alloc | apply pw_below_drewN | apply below_drew1 | refine below_set ?_ GE129.out) | exact HB.out)⟩⟩
        case round =>
          clear H'
          try clear c1
          try clear c2
          try clear p2
          try clear c4
          try clear c6
          try clear p6
          try clear c7
          try clear c7b0
          try clear c8
          try clear c9
          try clear c9b0
          try clear c9b1
          try clear c14
          try clear c15
          try clear c15b0
          try clear c15b1
          try clear c21
          try clear hcz13_0
          try clear hcz13_1
          try clear hcz13_2
          try clear hcz13_3
          try clear hcz19_0
          try clear hcz19_1
          try clear hcz19_2
          try clear hcz19_3
          try clear hcz25_0
          try clear hcz25_1
          try clear hcz25_2
          try clear hcz25_3
          try clear hfz13_0
          try clear hfz13_1
          try clear hfz13_2
          try clear hfz13_3
          try clear hfz19_0
          try clear hfz19_1
          try clear hfz19_2
          try clear hfz19_3
          try clear hfz25_0
          try clear hfz25_1
          try clear hfz25_2
          try clear hfz25_3
          obtain ⟨x9_1, x130000_1, x130001_1, x130002_1, x130003_1, u130003, rfl, HA, HK1, HO_130003, BK129, HB⟩ := hrel
          cases gk with
          | zero => exact absurd HA.out (by simp [fascinelaw06_QueryDeep.l0])
          | succ k1 =>
            have H := HA.out
            clear HA
            simp only [fascinelaw06_QueryDeep.l0] at H
            by_cases c27 : x9_1 < (Int.tmod (wrap64 (a0)) 40)
            · rw [if_pos c27] at H
              have c27b0 : decide (x9_1 < (Int.tmod (wrap64 (a0)) 40)) = true := decide_eq_true c27
              clear c27
              by_cases c28 : x130000_1 = 5
              · rw [if_pos c28] at H
                have c28b0 : (x130000_1 == 5) = true := beq_iff_eq.mpr c28
                have c28b1 : (x130000_1 != 5) = false := bne_eq_false_iff_eq.mpr c28
                clear c28
                by_cases c29 : (x130003_1.length : Int) = 1
                · rw [if_pos c29] at H
                  have c29b0 : ((x130003_1.length : Int) == 1) = true := beq_iff_eq.mpr c29
                  have c29b1 : ((x130003_1.length : Int) != 1) = false := bne_eq_false_iff_eq.mpr c29
                  clear c29
                  by_cases c30 : 0 < (x130003_1.length : Int)
                  · rw [if_pos c30] at H
                    have c30b0 : decide (0 < (x130003_1.length : Int)) = true := decide_eq_true c30
                    have c30b1 : decide (0 < x130003_1.length) = true := decide_eq_true (by omega)
                    clear c30
                    have H' := Aside0.mk H
                    clear H
                    have hcz31_0 : wr.cell? ⟨gb129, 0, none⟩ = some (.int .u8 x130000_1) := (blk_cell BK129.out 0).trans rfl
                    have hcz31_1 : wr.cell? ⟨gb129, 1, none⟩ = some (.string x130001_1) := (blk_cell BK129.out 1).trans rfl
                    have hcz31_2 : wr.cell? ⟨gb129, 2, none⟩ = some (.int .i64 x130002_1) := (blk_cell BK129.out 2).trans rfl
                    have hcz31_3 : wr.cell? ⟨gb129, 3, none⟩ = some (u130003) := (blk_cell BK129.out 3).trans rfl
                    have hfz31_0 := blk_frozen BK129.out 0
                    have hfz31_1 := blk_frozen BK129.out 1
                    have hfz31_2 := blk_frozen BK129.out 2
                    have hfz31_3 := blk_frozen BK129.out 3
                    obtain ⟨Ao32, co32, eo32⟩ := Kd.V_slice HO_130003.out
                    subst eo32
                    have p130 : 0 ≤ (0 : Int) := (by omega)
                    have q130 : 0 < (x130003_1.length : Int) := of_decide_eq_true (by first | (with_reducible assumption) | assumption)
                    obtain ⟨ad130, A130_3, c130_3, e130, hx130_0, hx130_1, hx130_2, hx130_3, hl130_3, hi130_3⟩ := at_T25 (Kd.V_reads' HO_130003.out).2.2 0 p130 q130
                    cases e130
                    obtain ⟨ce130, hce130, hMe130, hcc130⟩ := Kd.V_get HO_130003.out z25 0 p130 (by first | exact q130 | exact of_decide_eq_true (by first | (with_reducible assumption) | assumption) | (have e_ := (Kd.V_reads' HO_130003.out).1; omega))
                    obtain ⟨ua130_3, uc130_3, rfl, ul130_3, ge130_3⟩ := k25_openF hMe130
                    have hv130_3 := hcc130 3 _ rfl
                    rw [add_field _ _ 3 (by omega)] at hv130_3
                    replace hv130_3 := Option.some.inj (hv130_3.symm.trans hx130_3)
                    injection hv130_3 with hva_ hvn_ hvc_
                    rw [hva_] at ge130_3
                    rw [hvc_] at ul130_3
                    have HL130_3 := Aside0.mk (show Kd.V k25 25 _ w.heap.size _ _ ((rd_T25 x130003_1 0).f3) from Kd.V_mk ul130_3 ge130_3)
                    clear hva_ hvn_ hvc_ ge130_3 ul130_3
                    clear hcc130 hce130
                    have qi130 : (0 < x130003_1.length) = True := eq_true (by omega)
                    (try rw [show ((0 : Int)).toNat = 0 from rfl] at hx130_0)
                    (try rw [show 0 * 4 = 0 from rfl] at hx130_0)
                    (try rw [Addr.add_zero'] at hx130_0)
                    (try rw [show ((0 : Int)).toNat = 0 from rfl] at hx130_1)
                    (try rw [show 0 * 4 = 0 from rfl] at hx130_1)
                    (try rw [Addr.add_zero'] at hx130_1)
                    (try rw [show ((0 : Int)).toNat = 0 from rfl] at hx130_2)
                    (try rw [show 0 * 4 = 0 from rfl] at hx130_2)
                    (try rw [Addr.add_zero'] at hx130_2)
                    (try rw [show ((0 : Int)).toNat = 0 from rfl] at hx130_3)
                    (try rw [show 0 * 4 = 0 from rfl] at hx130_3)
                    (try rw [Addr.add_zero'] at hx130_3)
                    have HR130_3 := Aside0.mk hi130_3
                    have HC130_3 := Aside0.mk hl130_3
                    clear hi130_3 hl130_3
                    replace p130 := eq_true p130
                    replace q130 := eq_true q130
                    go_wp2
                    go_roundg k1
                    case measure => have := HK1.out; omega
                    case rel => exact ⟨(wrap64 (x9_1 + 1)), ((rd_T25 x130003_1 0).f0), ((rd_T25 x130003_1 0).f1), ((rd_T25 x130003_1 0).f2), ((rd_T25 x130003_1 0).f3), (.slice A130_3 ((rd_T25 x130003_1 0).f3).length c130_3), (by first | rfl | (simp; done) | (simp [*]; done)), H', ⟨by have := HK1.out; omega⟩, ⟨by (with_reducible repeat (first | apply Kd.V_alloc | apply Kd.V_drewN | apply Kd.V_drew)); exact Kd.V_mono (Kd.V_far (p := ⟨gb129, 3, none⟩) (Kd.V_far (p := ⟨gb129, 2, none⟩) (Kd.V_far (p := ⟨gb129, 1, none⟩) (Kd.V_far (p := ⟨gb129, 0, none⟩) (Kd.V_mono HL130_3.out (fun k_ hk => (⟨hk, hk⟩ : _ ∧ k_ ≠ gb129))) (fun _ hk => hk.2) (.int .u8 ((rd_T25 x130003_1 0).f0))) (fun _ hk => hk.2) (.string ((rd_T25 x130003_1 0).f1))) (fun _ hk => hk.2) (.int .i64 ((rd_T25 x130003_1 0).f2))) (fun _ hk => hk.2) (.slice A130_3 ((rd_T25 x130003_1 0).f3).length c130_3)) (fun _ hk => hk.1)⟩, ⟨by (with_reducible repeat (first | refine blk_drewN ?_ _ | refine blk_drew ?_ | refine blk_alloc ?_ _)); refine blk_put (cs := #[.int .u8 ((rd_T25 x130003_1 0).f0), .string ((rd_T25 x130003_1 0).f1), .int .i64 ((rd_T25 x130003_1 0).f2), .slice (some ad130) x130003_1.length co32]) ?_ 3 _ rfl; (with_reducible repeat (first | refine blk_drewN ?_ _ | refine blk_drew ?_ | refine blk_alloc ?_ _)); refine blk_put (cs := #[.int .u8 ((rd_T25 x130003_1 0).f0), .string ((rd_T25 x130003_1 0).f1), .int .i64 x130002_1, .slice (some ad130) x130003_1.length co32]) ?_ 2 _ rfl; (with_reducible repeat (first | refine blk_drewN ?_ _ | refine blk_drew ?_ | refine blk_alloc ?_ _)); refine blk_put (cs := #[.int .u8 ((rd_T25 x130003_1 0).f0), .string x130001_1, .int .i64 x130002_1, .slice (some ad130) x130003_1.length co32]) ?_ 1 _ rfl; (with_reducible repeat (first | refine blk_drewN ?_ _ | refine blk_drew ?_ | refine blk_alloc ?_ _)); refine blk_put (cs := #[.int .u8 x130000_1, .string x130001_1, .int .i64 x130002_1, .slice (some ad130) x130003_1.length co32]) ?_ 0 _ rfl; (with_reducible repeat (first | refine blk_drewN ?_ _ | refine blk_drew ?_ | refine blk_alloc ?_ _)); exact BK129.out⟩, ⟨by repeat (first | (with_reducible first | exact HB.out | apply below_alloc | apply pw_below_drewN | apply below_drew1 | refine below_set ?_ GE129.out) | exact HB.out)⟩⟩
                  · rw [if_neg c30] at H
                    exact absurd H (by simp)
                · rw [if_neg c29] at H
                  have c29b0 : ((x130003_1.length : Int) == 1) = false := beq_eq_false_iff_ne.mpr c29
                  have c29b1 : ((x130003_1.length : Int) != 1) = true := bne_iff_ne.mpr c29
                  exact absurd (HR_.out.symm.trans (Option.some.inj H).symm) (by decide)
              · rw [if_neg c28] at H
                have c28b0 : (x130000_1 == 5) = false := beq_eq_false_iff_ne.mpr c28
                have c28b1 : (x130000_1 != 5) = true := bne_iff_ne.mpr c28
                exact absurd (HR_.out.symm.trans (Option.some.inj H).symm) (by decide)
            · rw [if_neg c27] at H
              have c27b0 : decide (x9_1 < (Int.tmod (wrap64 (a0)) 40)) = false := decide_eq_false c27
              clear c27
              by_cases c33 : t128 = 0
              · rw [if_pos c33] at H
                have c33b0 : (t128 == 0) = true := beq_iff_eq.mpr c33
                have c33b1 : (t128 != 0) = false := bne_eq_false_iff_eq.mpr c33
                clear c33
                replace H := Option.bind_eq_some_iff.mp H
                obtain ⟨t131, A340, H⟩ := H
                replace H : (some t131) = some r := H
                have A34 := Aside0.mk A340
                clear A340
                obtain rfl := Option.some.inj H
                have hcz35_0 : wr.cell? ⟨gb129, 0, none⟩ = some (.int .u8 x130000_1) := (blk_cell BK129.out 0).trans rfl
                have hcz35_1 : wr.cell? ⟨gb129, 1, none⟩ = some (.string x130001_1) := (blk_cell BK129.out 1).trans rfl
                have hcz35_2 : wr.cell? ⟨gb129, 2, none⟩ = some (.int .i64 x130002_1) := (blk_cell BK129.out 2).trans rfl
                have hcz35_3 : wr.cell? ⟨gb129, 3, none⟩ = some (u130003) := (blk_cell BK129.out 3).trans rfl
                have hfz35_0 := blk_frozen BK129.out 0
                have hfz35_1 := blk_frozen BK129.out 1
                have hfz35_2 := blk_frozen BK129.out 2
                have hfz35_3 := blk_frozen BK129.out 3
                obtain ⟨Ao36, co36, eo36⟩ := Kd.V_slice HO_130003.out
                subst eo36
                go_wp2_with (first | (go_at_call 11; (refine (fascineref06_Same.calls k1 x130000_1 x130001_1 x130002_1 _ _ x130003_1 1 (⟨#[120]⟩ : ByteArray) 0 _ _ ([] : List (S25)) t131 _ ?side1 ?side2 ?side3 ?side4 A34.out).mono ?_); (case side1 => repeat (first | exact (Kd.V_reads' HO_130003.out).2.2 | (with_reducible refine Kd.C_alloc ?_ _) | (with_reducible refine Kd.C_drewN ?_ _) | (with_reducible refine Kd.C_drew ?_))); (case side2 => exact (Kd.V_reads' HO_130003.out).2.1); (case side3 => exact Kd.C_nil _ _); (case side4 => exact Nat.le_refl _); rintro e w37 ⟨rfl, hb⟩; have n0_ := Aside0.mk (Kd.V_below (by (with_reducible repeat (first | apply Kd.V_alloc | apply Kd.V_drewN | apply Kd.V_drew)); exact HO_130003.out) hb); have n1_ := Aside0.mk (blk_below (g := gb129) (o := .cells #[.int .u8 x130000_1, .string x130001_1, .int .i64 x130002_1, .slice Ao36 x130003_1.length co36] 25 (0, 0)) (by (with_reducible repeat (first | refine blk_drewN ?_ _ | refine blk_drew ?_ | refine blk_alloc ?_ _)); exact BK129.out) hb); have n2_ := Aside0.mk (below_step (by repeat (first | (with_reducible first | exact HB.out | apply below_alloc | apply pw_below_drewN | apply below_drew1 | refine below_set ?_ GE129.out) | exact HB.out)) hb); clear HO_130003; clear BK129; clear HB; have HO_130003 := n0_; have BK129 := n1_; have HB := n2_; clear n0_ n1_ n2_; (try clear hb); (try clear hb2); (try clear hk); (try clear hi)))
                go_ret
                exact ⟨by first | rfl | (simp [errW_none, errW_some] <;> rfl) | (simp [*, errW_none, errW_some] <;> rfl), by repeat (first | (with_reducible first | exact HB.out | apply below_alloc | apply pw_below_drewN | apply below_drew1 | refine below_set ?_ GE129.out) | exact HB.out)⟩
              · rw [if_neg c33] at H
                have c33b0 : (t128 == 0) = false := beq_eq_false_iff_ne.mpr c33
                have c33b1 : (t128 != 0) = true := bne_iff_ne.mpr c33
                exact absurd (HR_.out.symm.trans (Option.some.inj H).symm) (by decide)
      · replace c21 := Bool.eq_false_iff.mpr c21
        subst c21
        have H1 : (if t128 = 0 then (some (t121 == 1)) else (some false)) = some r := by rw [if_neg (show ¬ (false = true) by decide)] at H; exact H
        clear H
        have H := H1
        clear H1
        by_cases c38 : t128 = 0
        · rw [if_pos c38] at H
          have c38b0 : (t128 == 0) = true := beq_iff_eq.mpr c38
          have c38b1 : (t128 != 0) = false := bne_eq_false_iff_eq.mpr c38
          clear c38
          obtain rfl := Option.some.inj H
          go_enter Tryd.func6, Tryd.ntmps6
          go_wp2_with (first | ((with_reducible refine gate_callee (f := 8) rfl ?_); refine goesL_ (some 10) rfl rfl Tryd.func8 (by kernel_rfl) rfl #[] rfl (by (try simp only [List.map_toArray, List.map_cons, List.map_nil]); first | done | rfl | (simp only [List.length_drop, List.length_take]; rfl)) ?_; (with_reducible refine (fascinelaw06_awake.calls  true _ ?side1 A3.out).mono ?_); (case side1 => first | exact HT.out | exact tabs_below HT.out (by repeat (first | (with_reducible first | exact HB.out | apply below_alloc | apply pw_below_drewN | apply below_drew1) | exact HB.out))); rintro e w39 ⟨rfl, hb⟩; refine ⟨_, rfl, ?_⟩; have n0_ := Aside0.mk (below_step (by repeat (first | (with_reducible first | exact HB.out | apply below_alloc | apply pw_below_drewN | apply below_drew1) | exact HB.out)) hb); clear HB; have HB := n0_; clear n0_; (try clear hb); (try clear hb2); (try clear hk); (try clear hi)) | ((with_reducible refine gate_callee (f := 14) rfl ?_); refine goesL_ (some 18) rfl rfl Tryd.func14 (by kernel_rfl) rfl #[.int .i64 (Int.tmod (wrap64 (a0)) 40), .bool false] rfl (by (try simp only [List.map_toArray, List.map_cons, List.map_nil]); first | done | rfl | (simp only [List.length_drop, List.length_take]; rfl)) ?_; (with_reducible refine (fascinelaw06_brackets.calls k (Int.tmod (wrap64 (a0)) 40) false t120 _ A5.out).mono ?_); rintro e w' ⟨rfl, ⟨nd, rfl⟩⟩; refine ⟨_, rfl, ?_⟩; (try (rw [drewN_self w39]; generalize hq_ : World.drewN w39 _ = w39; have n0_ : Aside0 (Below w.heap.size w w39) := ⟨by rw [← hq_]; exact (by repeat (first | (with_reducible first | exact HB.out | apply below_alloc | apply pw_below_drewN | apply below_drew1) | exact HB.out))⟩; clear HB hq_; have HB := n0_; clear n0_))) | ((with_reducible refine gate_callee (f := 9) rfl ?_); refine goesL_ (some 19) rfl rfl Tryd.func9 (by kernel_rfl) rfl #[.string t120] rfl (by (try simp only [List.map_toArray, List.map_cons, List.map_nil]); first | done | rfl | (simp only [List.length_drop, List.length_take]; rfl)) ?_; (with_reducible refine (query_Parse.calls t120 t121 t122 t123 t124 t127 t128 _ ?side1 A6.out).mono ?_); (case side1 => first | exact HT.out | exact tabs_below HT.out (by repeat (first | (with_reducible first | exact HB.out | apply below_alloc | apply pw_below_drewN | apply below_drew1) | exact HB.out))); rintro e w40 ⟨v125, rfl, ho0, hb⟩; refine ⟨_, rfl, ?_⟩; have n0_ := Aside0.mk (Kd.V_lower (Kd.V_mono (ok' := fun k_ => True) ho0 (fun k_ hk_ => trivial)) (below_size (by repeat (first | (with_reducible first | exact HB.out | apply below_alloc | apply pw_below_drewN | apply below_drew1) | exact HB.out)))); have n1_ := Aside0.mk (below_step (by repeat (first | (with_reducible first | exact HB.out | apply below_alloc | apply pw_below_drewN | apply below_drew1) | exact HB.out)) hb); clear HB; have HO126 := n0_; have HB := n1_; clear n0_ n1_; (try clear hb); (try clear hb2); (try clear hk); (try clear hi); (try clear ho0)) | ((with_reducible refine gate_dst (N := 6) rfl ?_); (try (refine gate_guard (by rfl) ?_; dsimp only)); refine box_event ?hg (N := 6) ?hd (cs := #[.int .u8 0, .string (⟨#[]⟩ : ByteArray), .int .i64 0, .slice none 0 0]) (t := 25) ?hr ?_; (case hd => rfl); (case hg => rfl); (case hr => first | (go_simp; done) | (go_simp; rfl)); intro gb129 hg w41 hbox hb; have n0_ := Aside0.mk (Kd.V_below (Kd.V_elderB (by (with_reducible repeat (first | apply Kd.V_alloc | apply Kd.V_drewN | apply Kd.V_drew)); exact HO126.out) gb129 (Nat.le_of_eq hg.symm)) hb); have n1_ := Aside0.mk (below_step (by repeat (first | (with_reducible first | exact HB.out | apply below_alloc | apply pw_below_drewN | apply below_drew1) | exact HB.out)) hb); have n2_ := Aside0.mk (hbox); have n3_ := Aside0.mk ((by rw [hg]; exact (below_size (by repeat (first | (with_reducible first | exact HB.out | apply below_alloc | apply pw_below_drewN | apply below_drew1) | exact HB.out))) : w.heap.size ≤ gb129)); have n4_ := Aside0.mk ((by rw [hg]; exact (below_size (by repeat (first | (with_reducible first | exact HB.out | apply below_alloc | apply pw_below_drewN | apply below_drew1) | exact HB.out))) : w.heap.size ≤ gb129)); clear HO126; clear HB; have HO126 := n0_; have HB := n1_; have BK129 := n2_; have GW129 := n3_; have GE129 := n4_; clear n0_ n1_ n2_ n3_ n4_; clear hb hbox hg; have hcz42_0 : w41.cell? ⟨gb129, 0, none⟩ = some (.int .u8 0) := (blk_cell BK129.out 0).trans rfl; have hcz42_1 : w41.cell? ⟨gb129, 1, none⟩ = some (.string (⟨#[]⟩ : ByteArray)) := (blk_cell BK129.out 1).trans rfl; have hcz42_2 : w41.cell? ⟨gb129, 2, none⟩ = some (.int .i64 0) := (blk_cell BK129.out 2).trans rfl; have hcz42_3 : w41.cell? ⟨gb129, 3, none⟩ = some (.slice none 0 0) := (blk_cell BK129.out 3).trans rfl; have hfz42_0 := blk_frozen BK129.out 0; have hfz42_1 := blk_frozen BK129.out 1; have hfz42_2 := blk_frozen BK129.out 2; have hfz42_3 := blk_frozen BK129.out 3; obtain ⟨Ao43, co43, eo43⟩ := Kd.V_slice HO126.out; subst eo43))
          go_ret
          exact ⟨by first | rfl | (simp [errW_none, errW_some] <;> rfl) | (simp [*, errW_none, errW_some] <;> rfl), by repeat (first | (with_reducible first | exact HB.out | apply below_alloc | apply pw_below_drewN | apply below_drew1 | refine below_set ?_ GE129.out) | exact HB.out)⟩
        · rw [if_neg c38] at H
          have c38b0 : (t128 == 0) = false := beq_eq_false_iff_ne.mpr c38
          have c38b1 : (t128 != 0) = true := bne_iff_ne.mpr c38
          exact absurd (HR_.out.symm.trans (Option.some.inj H).symm) (by decide)
  · replace c4 := Bool.eq_false_iff.mpr c4
    subst c4
    have H1 : (some false) = some r := by rw [if_neg (show ¬ (false = true) by decide)] at H; exact H
    clear H
    have H := H1
    clear H1
    exact absurd (HR_.out.symm.trans (Option.some.inj H).symm) (by decide)

/-- THE ONE PURE STATEMENT of fascinelaw06_QueryDeep: yours. -/
def fascinelaw06_QueryDeep.Pure : Prop := ∀ (a0 : Int) (a1 : Bool), (Lit.int .u8 a0).wf = true → ∃ k, fascinelaw06_QueryDeep.f k a0 a1 = some true
theorem fascinelaw06_QueryDeep.walk (P : fascinelaw06_QueryDeep.Pure) (a0 : Int) (a1 : Bool) (w : World) (hT : tabs w) (w0 : (Lit.int .u8 a0).wf = true) :
    Calls Tryd.prog 6 #[.int .u8 a0, .bool a1] w fun e w' => e = .returned (.bool true) ∧ Below w.heap.size w w' := by
  obtain ⟨k, h⟩ := P a0 a1 w0
  refine (fascinelaw06_QueryDeep.calls k a0 a1 true w hT h rfl).mono ?_
  rintro e w' ⟨rfl, hd⟩
  exact ⟨rfl, hd⟩

end Go.Proofs.YtlmmbefejmbpeaaDoor.PQueryDeep
