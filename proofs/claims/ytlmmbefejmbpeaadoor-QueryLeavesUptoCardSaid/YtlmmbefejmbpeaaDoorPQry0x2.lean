-- WRITTEN BY A PROGRAM OF THIS SESSION (wip/patch_print.py: the kit's printer with rules of this session's own); Lean checks it.
import Derived.Test.YtlmmbefejmbpeaaDoorPQry0x0
namespace Go.Proofs.YtlmmbefejmbpeaaDoor.PQry0
open Go.RowKit Go.Proofs.YtlmmbefejmbpeaaDoorW.PrintWords Go.Proofs.YtlmmbefejmbpeaaDoorW.PrintLast Go.Proofs.YtlmmbefejmbpeaaDoorW.PrintMore
open Go.Proofs.YtlmmbefejmbpeaaDoor.G
attribute [local go_sem] max2_int min2_int max_two min_two max_three min_three max_four min_four   -- for this text's walks alone
set_option linter.unusedVariables false
set_option linter.unusedSimpArgs false

/-! ### words_letter: function 75 -/
def words_letter.j0 : Nat → Int → Int → Bool → Option (Int × Bool)
  | 0, _, _, _ => none
  | k + 1, x0, x1, x6 => if x6 = true then (some (wrap32 ((wrap32 (x0 + 97)) - 65), true)) else (if x0 ≥ 97 then (if x0 ≤ 122 then (some (x0, true)) else (if x0 ≥ 48 then (if x0 ≤ 57 then (some (x0, true)) else (if x0 ≥ 128 then (if x0 = 65533 then (some (x0, (x1 == 3))) else (some (x0, true))) else (some (x0, false)))) else (if x0 ≥ 128 then (if x0 = 65533 then (some (x0, (x1 == 3))) else (some (x0, true))) else (some (x0, false))))) else (if x0 ≥ 48 then (if x0 ≤ 57 then (some (x0, true)) else (if x0 ≥ 128 then (if x0 = 65533 then (some (x0, (x1 == 3))) else (some (x0, true))) else (some (x0, false)))) else (if x0 ≥ 128 then (if x0 = 65533 then (some (x0, (x1 == 3))) else (some (x0, true))) else (some (x0, false)))))
def words_letter.f (k : Nat) (a0 : Int) (a1 : Int) : Option (Int × Bool) := if a0 ≥ 65 then (words_letter.j0 k a0 a1 (decide (a0 ≤ 90))) else (words_letter.j0 k a0 a1 false)
theorem words_letter.mono_l : ∀ k, (∀ y0 y1 y2, LeO (words_letter.j0 k y0 y1 y2) (words_letter.j0 (k + 1) y0 y1 y2))
  | 0 => fun _ _ _ r h => by simp [words_letter.j0] at h
  | k + 1 => by
    have ih0 := words_letter.mono_l k
    · intro y0 y1 y2
      unfold words_letter.j0
      repeat' first
      | (with_reducible exact ih0 _ _ _)
      | (with_reducible exact LeO.refl _)
      | (with_reducible exact LeO.none _)
      | (with_reducible refine LeO.ite ?_ ?_)
      | (with_reducible refine LeO.bind ?_ (fun _ => ?_))
      | exact ih0 _ _ _
      | exact LeO.none _
      | refine LeO.ite ?_ ?_
      | refine LeO.bind ?_ (fun _ => ?_)
theorem words_letter.mono : ∀ a0 a1 k, LeO (words_letter.f k a0 a1) (words_letter.f (k + 1) a0 a1) := by
  intro a0 a1 k
  have ih0 := words_letter.mono_l k
  unfold words_letter.f
  repeat' first
      | (with_reducible exact ih0 _ _ _)
      | (with_reducible exact LeO.refl _)
      | (with_reducible exact LeO.none _)
      | (with_reducible refine LeO.ite ?_ ?_)
      | (with_reducible refine LeO.bind ?_ (fun _ => ?_))
      | exact ih0 _ _ _
      | exact LeO.none _
      | refine LeO.ite ?_ ?_
      | refine LeO.bind ?_ (fun _ => ?_)
set_option maxHeartbeats 8000000 in
set_option maxRecDepth 100000 in
theorem words_letter.calls (k : Nat) (a0 : Int) (a1 : Int) (r1 : Int) (r2 : Bool) (w : World) (h : words_letter.f k a0 a1 = some (r1, r2)) :
    Calls Tryd.prog 75 #[.int .i32 a0, .int .i64 a1] w fun e w' => e = .returned (.tuple #[.int .i32 r1, .bool r2]) ∧ Drawn0 w w' := by
  have H : (if a0 ≥ 65 then (words_letter.j0 k a0 a1 (decide (a0 ≤ 90))) else (words_letter.j0 k a0 a1 false)) = some (r1, r2) := h
  clear h
  have HC3 := Aside0.mk H
  clear H
  go_enter Tryd.func75, Tryd.ntmps75
  go_upto_region 1 with (fail)
  go_cut [6] (fun v6 wc => ∃ (kq : Nat) (x6_2 : Bool), v6 = .bool x6_2 ∧ Aside0 (words_letter.j0 kq a0 a1 x6_2 = some (r1, r2)) ∧ Aside0 (kq ≤ k) ∧ Drawn0 w wc)
  case first =>
    have H := HC3.out
    clear HC3
    by_cases c4 : a0 ≥ 65
    · rw [if_pos c4] at H
      have c4b0 : decide (65 ≤ a0) = true := decide_eq_true c4
      clear c4
      (first | rw [c4b0] | (simp only [i64_w, i32_w]; rw [c4b0]) | skip)
      have H' := Aside0.mk H
      clear H
      go_wp2
      go_meet
      case rel => exact ⟨_, (decide (a0 ≤ 90)), (by first | rfl | (simp; done) | (simp [*]; done)), H', ⟨by first | omega | exact Nat.le_refl _⟩, by repeat (first | exact Drawn0.refl _ | apply Drawn0.step)⟩
    · rw [if_neg c4] at H
      have c4b0 : decide (65 ≤ a0) = false := decide_eq_false c4
      clear c4
      (first | rw [c4b0] | (simp only [i64_w, i32_w]; rw [c4b0]) | skip)
      have H' := Aside0.mk H
      clear H
      go_wp2
      go_meet
      case rel => exact ⟨_, (false), (by first | rfl | (simp; done) | (simp [*]; done)), H', ⟨by first | omega | exact Nat.le_refl _⟩, by repeat (first | exact Drawn0.refl _ | apply Drawn0.step)⟩
  case rest =>
    clear HC3
    try clear p2
    try clear c4
    try clear c4b0
    obtain ⟨kq, x6_2, rfl, HA, HJ2, ⟨mc2, rfl⟩⟩ := hcut
    cases kq with
    | zero => exact absurd HA.out (by simp [words_letter.j0])
    | succ kj2 =>
      have H := HA.out
      clear HA
      simp only [words_letter.j0] at H
      by_cases c5 : x6_2 = true
      · subst c5
        have H1 : (some (wrap32 ((wrap32 (a0 + 97)) - 65), true)) = some (r1, r2) := by rw [if_pos rfl] at H; exact H
        clear H
        have H := H1
        clear H1
        simp only [Option.some.injEq, Prod.mk.injEq] at H
        obtain ⟨rfl, rfl⟩ := H
        go_wp2
        go_ret2
        exact ⟨by first | rfl | (simp; done) | (simp [*]; done), by repeat (first | exact Drawn0.refl _ | apply Drawn0.step)⟩
      · replace c5 := Bool.eq_false_iff.mpr c5
        subst c5
        have H1 : (if a0 ≥ 97 then (if a0 ≤ 122 then (some (a0, true)) else (if a0 ≥ 48 then (if a0 ≤ 57 then (some (a0, true)) else (if a0 ≥ 128 then (if a0 = 65533 then (some (a0, (a1 == 3))) else (some (a0, true))) else (some (a0, false)))) else (if a0 ≥ 128 then (if a0 = 65533 then (some (a0, (a1 == 3))) else (some (a0, true))) else (some (a0, false))))) else (if a0 ≥ 48 then (if a0 ≤ 57 then (some (a0, true)) else (if a0 ≥ 128 then (if a0 = 65533 then (some (a0, (a1 == 3))) else (some (a0, true))) else (some (a0, false)))) else (if a0 ≥ 128 then (if a0 = 65533 then (some (a0, (a1 == 3))) else (some (a0, true))) else (some (a0, false))))) = some (r1, r2) := by rw [if_neg (show ¬ (false = true) by decide)] at H; exact H
        clear H
        have H := H1
        clear H1
        by_cases c6 : a0 ≥ 97
        · rw [if_pos c6] at H
          have c6b0 : decide (97 ≤ a0) = true := decide_eq_true c6
          clear c6
          by_cases c7 : a0 ≤ 122
          · rw [if_pos c7] at H
            have c7b0 : decide (a0 ≤ 122) = true := decide_eq_true c7
            clear c7
            simp only [Option.some.injEq, Prod.mk.injEq] at H
            obtain ⟨rfl, rfl⟩ := H
            go_wp2
            go_ret2
            exact ⟨by first | rfl | (simp; done) | (simp [*]; done), by repeat (first | exact Drawn0.refl _ | apply Drawn0.step)⟩
          · rw [if_neg c7] at H
            have c7b0 : decide (a0 ≤ 122) = false := decide_eq_false c7
            clear c7
            by_cases c8 : a0 ≥ 48
            · rw [if_pos c8] at H
              have c8b0 : decide (48 ≤ a0) = true := decide_eq_true c8
              clear c8
              by_cases c9 : a0 ≤ 57
              · rw [if_pos c9] at H
                have c9b0 : decide (a0 ≤ 57) = true := decide_eq_true c9
                clear c9
                simp only [Option.some.injEq, Prod.mk.injEq] at H
                obtain ⟨rfl, rfl⟩ := H
                go_wp2
                go_ret2
                exact ⟨by first | rfl | (simp; done) | (simp [*]; done), by repeat (first | exact Drawn0.refl _ | apply Drawn0.step)⟩
              · rw [if_neg c9] at H
                have c9b0 : decide (a0 ≤ 57) = false := decide_eq_false c9
                clear c9
                by_cases c10 : a0 ≥ 128
                · rw [if_pos c10] at H
                  have c10b0 : decide (128 ≤ a0) = true := decide_eq_true c10
                  clear c10
                  by_cases c11 : a0 = 65533
                  · rw [if_pos c11] at H
                    have c11b0 : (a0 == 65533) = true := beq_iff_eq.mpr c11
                    have c11b1 : (a0 != 65533) = false := bne_eq_false_iff_eq.mpr c11
                    clear c11
                    simp only [Option.some.injEq, Prod.mk.injEq] at H
                    obtain ⟨rfl, rfl⟩ := H
                    go_wp2
                    go_ret2
                    exact ⟨by first | rfl | (simp; done) | (simp [*]; done), by repeat (first | exact Drawn0.refl _ | apply Drawn0.step)⟩
                  · rw [if_neg c11] at H
                    have c11b0 : (a0 == 65533) = false := beq_eq_false_iff_ne.mpr c11
                    have c11b1 : (a0 != 65533) = true := bne_iff_ne.mpr c11
                    simp only [Option.some.injEq, Prod.mk.injEq] at H
                    obtain ⟨rfl, rfl⟩ := H
                    go_wp2
                    go_ret2
                    exact ⟨by first | rfl | (simp; done) | (simp [*]; done), by repeat (first | exact Drawn0.refl _ | apply Drawn0.step)⟩
                · rw [if_neg c10] at H
                  have c10b0 : decide (128 ≤ a0) = false := decide_eq_false c10
                  clear c10
                  simp only [Option.some.injEq, Prod.mk.injEq] at H
                  obtain ⟨rfl, rfl⟩ := H
                  go_wp2
                  go_ret2
                  exact ⟨by first | rfl | (simp; done) | (simp [*]; done), by repeat (first | exact Drawn0.refl _ | apply Drawn0.step)⟩
            · rw [if_neg c8] at H
              have c8b0 : decide (48 ≤ a0) = false := decide_eq_false c8
              clear c8
              by_cases c12 : a0 ≥ 128
              · rw [if_pos c12] at H
                have c12b0 : decide (128 ≤ a0) = true := decide_eq_true c12
                clear c12
                by_cases c13 : a0 = 65533
                · rw [if_pos c13] at H
                  have c13b0 : (a0 == 65533) = true := beq_iff_eq.mpr c13
                  have c13b1 : (a0 != 65533) = false := bne_eq_false_iff_eq.mpr c13
                  clear c13
                  simp only [Option.some.injEq, Prod.mk.injEq] at H
                  obtain ⟨rfl, rfl⟩ := H
                  go_wp2
                  go_ret2
                  exact ⟨by first | rfl | (simp; done) | (simp [*]; done), by repeat (first | exact Drawn0.refl _ | apply Drawn0.step)⟩
                · rw [if_neg c13] at H
                  have c13b0 : (a0 == 65533) = false := beq_eq_false_iff_ne.mpr c13
                  have c13b1 : (a0 != 65533) = true := bne_iff_ne.mpr c13
                  simp only [Option.some.injEq, Prod.mk.injEq] at H
                  obtain ⟨rfl, rfl⟩ := H
                  go_wp2
                  go_ret2
                  exact ⟨by first | rfl | (simp; done) | (simp [*]; done), by repeat (first | exact Drawn0.refl _ | apply Drawn0.step)⟩
              · rw [if_neg c12] at H
                have c12b0 : decide (128 ≤ a0) = false := decide_eq_false c12
                clear c12
                simp only [Option.some.injEq, Prod.mk.injEq] at H
                obtain ⟨rfl, rfl⟩ := H
                go_wp2
                go_ret2
                exact ⟨by first | rfl | (simp; done) | (simp [*]; done), by repeat (first | exact Drawn0.refl _ | apply Drawn0.step)⟩
        · rw [if_neg c6] at H
          have c6b0 : decide (97 ≤ a0) = false := decide_eq_false c6
          clear c6
          by_cases c14 : a0 ≥ 48
          · rw [if_pos c14] at H
            have c14b0 : decide (48 ≤ a0) = true := decide_eq_true c14
            clear c14
            by_cases c15 : a0 ≤ 57
            · rw [if_pos c15] at H
              have c15b0 : decide (a0 ≤ 57) = true := decide_eq_true c15
              clear c15
              simp only [Option.some.injEq, Prod.mk.injEq] at H
              obtain ⟨rfl, rfl⟩ := H
              go_wp2
              go_ret2
              exact ⟨by first | rfl | (simp; done) | (simp [*]; done), by repeat (first | exact Drawn0.refl _ | apply Drawn0.step)⟩
            · rw [if_neg c15] at H
              have c15b0 : decide (a0 ≤ 57) = false := decide_eq_false c15
              clear c15
              by_cases c16 : a0 ≥ 128
              · rw [if_pos c16] at H
                have c16b0 : decide (128 ≤ a0) = true := decide_eq_true c16
                clear c16
                by_cases c17 : a0 = 65533
                · rw [if_pos c17] at H
                  have c17b0 : (a0 == 65533) = true := beq_iff_eq.mpr c17
                  have c17b1 : (a0 != 65533) = false := bne_eq_false_iff_eq.mpr c17
                  clear c17
                  simp only [Option.some.injEq, Prod.mk.injEq] at H
                  obtain ⟨rfl, rfl⟩ := H
                  go_wp2
                  go_ret2
                  exact ⟨by first | rfl | (simp; done) | (simp [*]; done), by repeat (first | exact Drawn0.refl _ | apply Drawn0.step)⟩
                · rw [if_neg c17] at H
                  have c17b0 : (a0 == 65533) = false := beq_eq_false_iff_ne.mpr c17
                  have c17b1 : (a0 != 65533) = true := bne_iff_ne.mpr c17
                  simp only [Option.some.injEq, Prod.mk.injEq] at H
                  obtain ⟨rfl, rfl⟩ := H
                  go_wp2
                  go_ret2
                  exact ⟨by first | rfl | (simp; done) | (simp [*]; done), by repeat (first | exact Drawn0.refl _ | apply Drawn0.step)⟩
              · rw [if_neg c16] at H
                have c16b0 : decide (128 ≤ a0) = false := decide_eq_false c16
                clear c16
                simp only [Option.some.injEq, Prod.mk.injEq] at H
                obtain ⟨rfl, rfl⟩ := H
                go_wp2
                go_ret2
                exact ⟨by first | rfl | (simp; done) | (simp [*]; done), by repeat (first | exact Drawn0.refl _ | apply Drawn0.step)⟩
          · rw [if_neg c14] at H
            have c14b0 : decide (48 ≤ a0) = false := decide_eq_false c14
            clear c14
            by_cases c18 : a0 ≥ 128
            · rw [if_pos c18] at H
              have c18b0 : decide (128 ≤ a0) = true := decide_eq_true c18
              clear c18
              by_cases c19 : a0 = 65533
              · rw [if_pos c19] at H
                have c19b0 : (a0 == 65533) = true := beq_iff_eq.mpr c19
                have c19b1 : (a0 != 65533) = false := bne_eq_false_iff_eq.mpr c19
                clear c19
                simp only [Option.some.injEq, Prod.mk.injEq] at H
                obtain ⟨rfl, rfl⟩ := H
                go_wp2
                go_ret2
                exact ⟨by first | rfl | (simp; done) | (simp [*]; done), by repeat (first | exact Drawn0.refl _ | apply Drawn0.step)⟩
              · rw [if_neg c19] at H
                have c19b0 : (a0 == 65533) = false := beq_eq_false_iff_ne.mpr c19
                have c19b1 : (a0 != 65533) = true := bne_iff_ne.mpr c19
                simp only [Option.some.injEq, Prod.mk.injEq] at H
                obtain ⟨rfl, rfl⟩ := H
                go_wp2
                go_ret2
                exact ⟨by first | rfl | (simp; done) | (simp [*]; done), by repeat (first | exact Drawn0.refl _ | apply Drawn0.step)⟩
            · rw [if_neg c18] at H
              have c18b0 : decide (128 ≤ a0) = false := decide_eq_false c18
              clear c18
              simp only [Option.some.injEq, Prod.mk.injEq] at H
              obtain ⟨rfl, rfl⟩ := H
              go_wp2
              go_ret2
              exact ⟨by first | rfl | (simp; done) | (simp [*]; done), by repeat (first | exact Drawn0.refl _ | apply Drawn0.step)⟩

/-! ### words_Words: function 69 -/
def words_Words.l0 : Nat → ByteArray → List (S107) → Bool → Int → Option ((List (S107)))
  | 0, _, _, _, _ => none
  | k + 1, x0, x3, x4, x5 => if x5 < (x0.size : Int) then (if 0 ≤ x5 then (if x5 ≤ (x0.size : Int) then ((utf8_DecodeRuneInString.f (x0.extract (x5 : Int).toNat x0.size)).bind fun bt131 => ((words_letter.f k bt131.1 bt131.2).bind fun bt133 => (if bt133.2 = true then (if x4 = true then (if 0 ≤ (wrap64 ((x3.length : Int) - 1)) then (if (wrap64 ((x3.length : Int) - 1)) < (x3.length : Int) then (if (wrap64 ((((rd_T107 x3 (wrap64 ((x3.length : Int) - 1))).f0).size : Int) + bt131.2)) > 32 then (if x3.length < 4398046511104 then ((some (x3 ++ [(⟨(⟨#[]⟩ : ByteArray), x5, 0⟩ : S107)] : List (S107))).bind fun y136 => (if 0 ≤ (wrap64 ((y136.length : Int) - 1)) then (if (wrap64 ((y136.length : Int) - 1)) < (y136.length : Int) then (if ((rd_T107 y136 (wrap64 ((y136.length : Int) - 1))).f0).size + (Utf8.encode bt133.1).size ≤ 9223372036854775807 then ((some (y136.set ((wrap64 ((y136.length : Int) - 1)) : Int).toNat (⟨((rd_T107 y136 (wrap64 ((y136.length : Int) - 1))).f0) ++ (Utf8.encode bt133.1), (rd_T107 y136 (wrap64 ((y136.length : Int) - 1))).f1, (rd_T107 y136 (wrap64 ((y136.length : Int) - 1))).f2⟩ : S107) : List (S107))).bind fun y140 => (words_Words.l0 k x0 (y140.set ((wrap64 ((y136.length : Int) - 1)) : Int).toNat (⟨(rd_T107 y140 (wrap64 ((y136.length : Int) - 1))).f0, (rd_T107 y140 (wrap64 ((y136.length : Int) - 1))).f1, wrap64 (x5 + bt131.2)⟩ : S107)) bt133.2 (wrap64 (x5 + bt131.2)))) else (none)) else (none)) else (none))) else (none)) else (if ((rd_T107 x3 (wrap64 ((x3.length : Int) - 1))).f0).size + (Utf8.encode bt133.1).size ≤ 9223372036854775807 then ((some (x3.set ((wrap64 ((x3.length : Int) - 1)) : Int).toNat (⟨((rd_T107 x3 (wrap64 ((x3.length : Int) - 1))).f0) ++ (Utf8.encode bt133.1), (rd_T107 x3 (wrap64 ((x3.length : Int) - 1))).f1, (rd_T107 x3 (wrap64 ((x3.length : Int) - 1))).f2⟩ : S107) : List (S107))).bind fun y143 => (words_Words.l0 k x0 (y143.set ((wrap64 ((x3.length : Int) - 1)) : Int).toNat (⟨(rd_T107 y143 (wrap64 ((x3.length : Int) - 1))).f0, (rd_T107 y143 (wrap64 ((x3.length : Int) - 1))).f1, wrap64 (x5 + bt131.2)⟩ : S107)) bt133.2 (wrap64 (x5 + bt131.2)))) else (none))) else (none)) else (none)) else (if x3.length < 4398046511104 then ((some (x3 ++ [(⟨(⟨#[]⟩ : ByteArray), x5, 0⟩ : S107)] : List (S107))).bind fun y145 => (if 0 ≤ (wrap64 ((y145.length : Int) - 1)) then (if (wrap64 ((y145.length : Int) - 1)) < (y145.length : Int) then (if ((rd_T107 y145 (wrap64 ((y145.length : Int) - 1))).f0).size + (Utf8.encode bt133.1).size ≤ 9223372036854775807 then ((some (y145.set ((wrap64 ((y145.length : Int) - 1)) : Int).toNat (⟨((rd_T107 y145 (wrap64 ((y145.length : Int) - 1))).f0) ++ (Utf8.encode bt133.1), (rd_T107 y145 (wrap64 ((y145.length : Int) - 1))).f1, (rd_T107 y145 (wrap64 ((y145.length : Int) - 1))).f2⟩ : S107) : List (S107))).bind fun y149 => (words_Words.l0 k x0 (y149.set ((wrap64 ((y145.length : Int) - 1)) : Int).toNat (⟨(rd_T107 y149 (wrap64 ((y145.length : Int) - 1))).f0, (rd_T107 y149 (wrap64 ((y145.length : Int) - 1))).f1, wrap64 (x5 + bt131.2)⟩ : S107)) bt133.2 (wrap64 (x5 + bt131.2)))) else (none)) else (none)) else (none))) else (none))) else (words_Words.l0 k x0 x3 bt133.2 (wrap64 (x5 + bt131.2)))))) else (none)) else (none)) else (some x3)
def words_Words.f (k : Nat) (a0 : ByteArray) : Option ((List (S107))) := words_Words.l0 k a0 ([] : List (S107)) false 0
theorem words_Words.mono_l : ∀ k, (∀ y0 y1 y2 y3, LeO (words_Words.l0 k y0 y1 y2 y3) (words_Words.l0 (k + 1) y0 y1 y2 y3))
  | 0 => fun _ _ _ _ r h => by simp [words_Words.l0] at h
  | k + 1 => by
    have ih0 := words_Words.mono_l k
    · intro y0 y1 y2 y3
      unfold words_Words.l0
      repeat' first
      | (with_reducible exact ih0 _ _ _ _)
      | (with_reducible exact words_letter.mono _ _ _)
      | (with_reducible exact LeO.refl _)
      | (with_reducible exact LeO.none _)
      | (with_reducible refine LeO.ite ?_ ?_)
      | (with_reducible refine LeO.bind ?_ (fun _ => ?_))
      | exact ih0 _ _ _ _
      | exact words_letter.mono _ _ _
      | exact LeO.none _
      | refine LeO.ite ?_ ?_
      | refine LeO.bind ?_ (fun _ => ?_)
theorem words_Words.mono : ∀ a0 k, LeO (words_Words.f k a0) (words_Words.f (k + 1) a0) := by
  intro a0 k
  have ih0 := words_Words.mono_l k
  unfold words_Words.f
  repeat' first
      | (with_reducible exact ih0 _ _ _ _)
      | (with_reducible exact words_letter.mono _ _ _)
      | (with_reducible exact LeO.refl _)
      | (with_reducible exact LeO.none _)
      | (with_reducible refine LeO.ite ?_ ?_)
      | (with_reducible refine LeO.bind ?_ (fun _ => ?_))
      | exact ih0 _ _ _ _
      | exact words_letter.mono _ _ _
      | exact LeO.none _
      | refine LeO.ite ?_ ?_
      | refine LeO.bind ?_ (fun _ => ?_)
set_option maxHeartbeats 8000000 in
set_option maxRecDepth 100000 in
theorem words_Words.calls (k : Nat) (a0 : ByteArray) (r : List (S107)) (w : World) (hT : tabs w) (h : words_Words.f k a0 = some r) :
    Calls Tryd.prog 69 #[.string a0] w fun e w' => ∃ v0_ : Value, e = .returned (v0_) ∧ Kd.R k107 107 w' w.heap.size (fun _ => True) v0_ r ∧ Below w.heap.size w w' := by
  have hu107 := Tryd.underlying107
  have HT := Aside0.mk hT
  clear hT
  have HB := Aside0.mk (Below.refl w.heap.size w)
  have H : (words_Words.l0 k a0 ([] : List (S107)) false 0) = some r := h
  clear h
  have H' := Aside0.mk H
  clear H
  go_enter Tryd.func69, Tryd.ntmps69
  go_wp2
  go_loopg [3, 4, 5] k (fun kq v3 v4 v5 w' => ∃ (x3_1 : List (S107)) (x4_1 : Bool) (x5_1 : Int), v4 = .bool x4_1 ∧ v5 = .int .i64 x5_1 ∧ Aside0 (words_Words.l0 kq a0 x3_1 x4_1 x5_1 = some r) ∧ Aside0 (kq ≤ k) ∧ Aside0 (Kd.R k107 107 w' w.heap.size (fun _ => True) v3 x3_1) ∧ Aside0 (Below w.heap.size w w'))
  case atStart => exact ⟨(([] : List (S107))), (false), (0), (by first | rfl | (simp; done) | (simp [*]; done)), (by first | rfl | (simp; done) | (simp [*]; done)), H', ⟨Nat.le_refl _⟩, ⟨by first | exact Kd.R_nil _ _ _ _ _ | exact Kd.N_nil _ _ _ _ _ | exact Kd.V_nil _ _ _ _ _ | exact Kd.Q_nil _ _ _ _ _ | exact Kd.S_nil _ _ _ _ _⟩, ⟨by repeat (first | (with_reducible first | exact HB.out | apply below_alloc | apply pw_below_drewN | apply below_drew1) | exact HB.out)⟩⟩
  case round =>
    clear H'
    obtain ⟨x3_1, x4_1, x5_1, rfl, rfl, HA, HK1, HO_3, HB⟩ := hrel
    cases gk with
    | zero => exact absurd HA.out (by simp [words_Words.l0])
    | succ k1 =>
      have H := HA.out
      clear HA
      simp only [words_Words.l0] at H
      by_cases c2 : x5_1 < (a0.size : Int)
      · rw [if_pos c2] at H
        have c2b0 : decide (x5_1 < (a0.size : Int)) = true := decide_eq_true c2
        clear c2
        by_cases c3 : 0 ≤ x5_1
        · rw [if_pos c3] at H
          have c3b0 := eq_true c3
          have c3b1 : decide (0 ≤ x5_1) = true := decide_eq_true c3
          clear c3
          by_cases c4 : x5_1 ≤ (a0.size : Int)
          · rw [if_pos c4] at H
            have c4b0 := eq_true c4
            have c4b1 : decide (x5_1 ≤ (a0.size : Int)) = true := decide_eq_true c4
            clear c4
            replace H := Option.bind_eq_some_iff.mp H
            obtain ⟨⟨t131, t132⟩, A50, H⟩ := H
            replace H : ((words_letter.f k1 t131 t132).bind fun bt133 => (if bt133.2 = true then (if x4_1 = true then (if 0 ≤ (wrap64 ((x3_1.length : Int) - 1)) then (if (wrap64 ((x3_1.length : Int) - 1)) < (x3_1.length : Int) then (if (wrap64 ((((rd_T107 x3_1 (wrap64 ((x3_1.length : Int) - 1))).f0).size : Int) + t132)) > 32 then (if x3_1.length < 4398046511104 then ((some (x3_1 ++ [(⟨(⟨#[]⟩ : ByteArray), x5_1, 0⟩ : S107)] : List (S107))).bind fun y136 => (if 0 ≤ (wrap64 ((y136.length : Int) - 1)) then (if (wrap64 ((y136.length : Int) - 1)) < (y136.length : Int) then (if ((rd_T107 y136 (wrap64 ((y136.length : Int) - 1))).f0).size + (Utf8.encode bt133.1).size ≤ 9223372036854775807 then ((some (y136.set ((wrap64 ((y136.length : Int) - 1)) : Int).toNat (⟨((rd_T107 y136 (wrap64 ((y136.length : Int) - 1))).f0) ++ (Utf8.encode bt133.1), (rd_T107 y136 (wrap64 ((y136.length : Int) - 1))).f1, (rd_T107 y136 (wrap64 ((y136.length : Int) - 1))).f2⟩ : S107) : List (S107))).bind fun y140 => (words_Words.l0 k1 a0 (y140.set ((wrap64 ((y136.length : Int) - 1)) : Int).toNat (⟨(rd_T107 y140 (wrap64 ((y136.length : Int) - 1))).f0, (rd_T107 y140 (wrap64 ((y136.length : Int) - 1))).f1, wrap64 (x5_1 + t132)⟩ : S107)) bt133.2 (wrap64 (x5_1 + t132)))) else (none)) else (none)) else (none))) else (none)) else (if ((rd_T107 x3_1 (wrap64 ((x3_1.length : Int) - 1))).f0).size + (Utf8.encode bt133.1).size ≤ 9223372036854775807 then ((some (x3_1.set ((wrap64 ((x3_1.length : Int) - 1)) : Int).toNat (⟨((rd_T107 x3_1 (wrap64 ((x3_1.length : Int) - 1))).f0) ++ (Utf8.encode bt133.1), (rd_T107 x3_1 (wrap64 ((x3_1.length : Int) - 1))).f1, (rd_T107 x3_1 (wrap64 ((x3_1.length : Int) - 1))).f2⟩ : S107) : List (S107))).bind fun y143 => (words_Words.l0 k1 a0 (y143.set ((wrap64 ((x3_1.length : Int) - 1)) : Int).toNat (⟨(rd_T107 y143 (wrap64 ((x3_1.length : Int) - 1))).f0, (rd_T107 y143 (wrap64 ((x3_1.length : Int) - 1))).f1, wrap64 (x5_1 + t132)⟩ : S107)) bt133.2 (wrap64 (x5_1 + t132)))) else (none))) else (none)) else (none)) else (if x3_1.length < 4398046511104 then ((some (x3_1 ++ [(⟨(⟨#[]⟩ : ByteArray), x5_1, 0⟩ : S107)] : List (S107))).bind fun y145 => (if 0 ≤ (wrap64 ((y145.length : Int) - 1)) then (if (wrap64 ((y145.length : Int) - 1)) < (y145.length : Int) then (if ((rd_T107 y145 (wrap64 ((y145.length : Int) - 1))).f0).size + (Utf8.encode bt133.1).size ≤ 9223372036854775807 then ((some (y145.set ((wrap64 ((y145.length : Int) - 1)) : Int).toNat (⟨((rd_T107 y145 (wrap64 ((y145.length : Int) - 1))).f0) ++ (Utf8.encode bt133.1), (rd_T107 y145 (wrap64 ((y145.length : Int) - 1))).f1, (rd_T107 y145 (wrap64 ((y145.length : Int) - 1))).f2⟩ : S107) : List (S107))).bind fun y149 => (words_Words.l0 k1 a0 (y149.set ((wrap64 ((y145.length : Int) - 1)) : Int).toNat (⟨(rd_T107 y149 (wrap64 ((y145.length : Int) - 1))).f0, (rd_T107 y149 (wrap64 ((y145.length : Int) - 1))).f1, wrap64 (x5_1 + t132)⟩ : S107)) bt133.2 (wrap64 (x5_1 + t132)))) else (none)) else (none)) else (none))) else (none))) else (words_Words.l0 k1 a0 x3_1 bt133.2 (wrap64 (x5_1 + t132))))) = some r := H
            have A5 := Aside0.mk A50
            clear A50
            replace H := Option.bind_eq_some_iff.mp H
            obtain ⟨⟨t133, t134⟩, A60, H⟩ := H
            replace H : (if t134 = true then (if x4_1 = true then (if 0 ≤ (wrap64 ((x3_1.length : Int) - 1)) then (if (wrap64 ((x3_1.length : Int) - 1)) < (x3_1.length : Int) then (if (wrap64 ((((rd_T107 x3_1 (wrap64 ((x3_1.length : Int) - 1))).f0).size : Int) + t132)) > 32 then (if x3_1.length < 4398046511104 then ((some (x3_1 ++ [(⟨(⟨#[]⟩ : ByteArray), x5_1, 0⟩ : S107)] : List (S107))).bind fun y136 => (if 0 ≤ (wrap64 ((y136.length : Int) - 1)) then (if (wrap64 ((y136.length : Int) - 1)) < (y136.length : Int) then (if ((rd_T107 y136 (wrap64 ((y136.length : Int) - 1))).f0).size + (Utf8.encode t133).size ≤ 9223372036854775807 then ((some (y136.set ((wrap64 ((y136.length : Int) - 1)) : Int).toNat (⟨((rd_T107 y136 (wrap64 ((y136.length : Int) - 1))).f0) ++ (Utf8.encode t133), (rd_T107 y136 (wrap64 ((y136.length : Int) - 1))).f1, (rd_T107 y136 (wrap64 ((y136.length : Int) - 1))).f2⟩ : S107) : List (S107))).bind fun y140 => (words_Words.l0 k1 a0 (y140.set ((wrap64 ((y136.length : Int) - 1)) : Int).toNat (⟨(rd_T107 y140 (wrap64 ((y136.length : Int) - 1))).f0, (rd_T107 y140 (wrap64 ((y136.length : Int) - 1))).f1, wrap64 (x5_1 + t132)⟩ : S107)) t134 (wrap64 (x5_1 + t132)))) else (none)) else (none)) else (none))) else (none)) else (if ((rd_T107 x3_1 (wrap64 ((x3_1.length : Int) - 1))).f0).size + (Utf8.encode t133).size ≤ 9223372036854775807 then ((some (x3_1.set ((wrap64 ((x3_1.length : Int) - 1)) : Int).toNat (⟨((rd_T107 x3_1 (wrap64 ((x3_1.length : Int) - 1))).f0) ++ (Utf8.encode t133), (rd_T107 x3_1 (wrap64 ((x3_1.length : Int) - 1))).f1, (rd_T107 x3_1 (wrap64 ((x3_1.length : Int) - 1))).f2⟩ : S107) : List (S107))).bind fun y143 => (words_Words.l0 k1 a0 (y143.set ((wrap64 ((x3_1.length : Int) - 1)) : Int).toNat (⟨(rd_T107 y143 (wrap64 ((x3_1.length : Int) - 1))).f0, (rd_T107 y143 (wrap64 ((x3_1.length : Int) - 1))).f1, wrap64 (x5_1 + t132)⟩ : S107)) t134 (wrap64 (x5_1 + t132)))) else (none))) else (none)) else (none)) else (if x3_1.length < 4398046511104 then ((some (x3_1 ++ [(⟨(⟨#[]⟩ : ByteArray), x5_1, 0⟩ : S107)] : List (S107))).bind fun y145 => (if 0 ≤ (wrap64 ((y145.length : Int) - 1)) then (if (wrap64 ((y145.length : Int) - 1)) < (y145.length : Int) then (if ((rd_T107 y145 (wrap64 ((y145.length : Int) - 1))).f0).size + (Utf8.encode t133).size ≤ 9223372036854775807 then ((some (y145.set ((wrap64 ((y145.length : Int) - 1)) : Int).toNat (⟨((rd_T107 y145 (wrap64 ((y145.length : Int) - 1))).f0) ++ (Utf8.encode t133), (rd_T107 y145 (wrap64 ((y145.length : Int) - 1))).f1, (rd_T107 y145 (wrap64 ((y145.length : Int) - 1))).f2⟩ : S107) : List (S107))).bind fun y149 => (words_Words.l0 k1 a0 (y149.set ((wrap64 ((y145.length : Int) - 1)) : Int).toNat (⟨(rd_T107 y149 (wrap64 ((y145.length : Int) - 1))).f0, (rd_T107 y149 (wrap64 ((y145.length : Int) - 1))).f1, wrap64 (x5_1 + t132)⟩ : S107)) t134 (wrap64 (x5_1 + t132)))) else (none)) else (none)) else (none))) else (none))) else (words_Words.l0 k1 a0 x3_1 t134 (wrap64 (x5_1 + t132)))) = some r := H
            have A6 := Aside0.mk A60
            clear A60
            by_cases c7 : t134 = true
            · subst c7
              have H1 : (if x4_1 = true then (if 0 ≤ (wrap64 ((x3_1.length : Int) - 1)) then (if (wrap64 ((x3_1.length : Int) - 1)) < (x3_1.length : Int) then (if (wrap64 ((((rd_T107 x3_1 (wrap64 ((x3_1.length : Int) - 1))).f0).size : Int) + t132)) > 32 then (if x3_1.length < 4398046511104 then ((some (x3_1 ++ [(⟨(⟨#[]⟩ : ByteArray), x5_1, 0⟩ : S107)] : List (S107))).bind fun y136 => (if 0 ≤ (wrap64 ((y136.length : Int) - 1)) then (if (wrap64 ((y136.length : Int) - 1)) < (y136.length : Int) then (if ((rd_T107 y136 (wrap64 ((y136.length : Int) - 1))).f0).size + (Utf8.encode t133).size ≤ 9223372036854775807 then ((some (y136.set ((wrap64 ((y136.length : Int) - 1)) : Int).toNat (⟨((rd_T107 y136 (wrap64 ((y136.length : Int) - 1))).f0) ++ (Utf8.encode t133), (rd_T107 y136 (wrap64 ((y136.length : Int) - 1))).f1, (rd_T107 y136 (wrap64 ((y136.length : Int) - 1))).f2⟩ : S107) : List (S107))).bind fun y140 => (words_Words.l0 k1 a0 (y140.set ((wrap64 ((y136.length : Int) - 1)) : Int).toNat (⟨(rd_T107 y140 (wrap64 ((y136.length : Int) - 1))).f0, (rd_T107 y140 (wrap64 ((y136.length : Int) - 1))).f1, wrap64 (x5_1 + t132)⟩ : S107)) true (wrap64 (x5_1 + t132)))) else (none)) else (none)) else (none))) else (none)) else (if ((rd_T107 x3_1 (wrap64 ((x3_1.length : Int) - 1))).f0).size + (Utf8.encode t133).size ≤ 9223372036854775807 then ((some (x3_1.set ((wrap64 ((x3_1.length : Int) - 1)) : Int).toNat (⟨((rd_T107 x3_1 (wrap64 ((x3_1.length : Int) - 1))).f0) ++ (Utf8.encode t133), (rd_T107 x3_1 (wrap64 ((x3_1.length : Int) - 1))).f1, (rd_T107 x3_1 (wrap64 ((x3_1.length : Int) - 1))).f2⟩ : S107) : List (S107))).bind fun y143 => (words_Words.l0 k1 a0 (y143.set ((wrap64 ((x3_1.length : Int) - 1)) : Int).toNat (⟨(rd_T107 y143 (wrap64 ((x3_1.length : Int) - 1))).f0, (rd_T107 y143 (wrap64 ((x3_1.length : Int) - 1))).f1, wrap64 (x5_1 + t132)⟩ : S107)) true (wrap64 (x5_1 + t132)))) else (none))) else (none)) else (none)) else (if x3_1.length < 4398046511104 then ((some (x3_1 ++ [(⟨(⟨#[]⟩ : ByteArray), x5_1, 0⟩ : S107)] : List (S107))).bind fun y145 => (if 0 ≤ (wrap64 ((y145.length : Int) - 1)) then (if (wrap64 ((y145.length : Int) - 1)) < (y145.length : Int) then (if ((rd_T107 y145 (wrap64 ((y145.length : Int) - 1))).f0).size + (Utf8.encode t133).size ≤ 9223372036854775807 then ((some (y145.set ((wrap64 ((y145.length : Int) - 1)) : Int).toNat (⟨((rd_T107 y145 (wrap64 ((y145.length : Int) - 1))).f0) ++ (Utf8.encode t133), (rd_T107 y145 (wrap64 ((y145.length : Int) - 1))).f1, (rd_T107 y145 (wrap64 ((y145.length : Int) - 1))).f2⟩ : S107) : List (S107))).bind fun y149 => (words_Words.l0 k1 a0 (y149.set ((wrap64 ((y145.length : Int) - 1)) : Int).toNat (⟨(rd_T107 y149 (wrap64 ((y145.length : Int) - 1))).f0, (rd_T107 y149 (wrap64 ((y145.length : Int) - 1))).f1, wrap64 (x5_1 + t132)⟩ : S107)) true (wrap64 (x5_1 + t132)))) else (none)) else (none)) else (none))) else (none))) = some r := by rw [if_pos rfl] at H; exact H
              clear H
              have H := H1
              clear H1
              by_cases c8 : x4_1 = true
              · subst c8
                have H1 : (if 0 ≤ (wrap64 ((x3_1.length : Int) - 1)) then (if (wrap64 ((x3_1.length : Int) - 1)) < (x3_1.length : Int) then (if (wrap64 ((((rd_T107 x3_1 (wrap64 ((x3_1.length : Int) - 1))).f0).size : Int) + t132)) > 32 then (if x3_1.length < 4398046511104 then ((some (x3_1 ++ [(⟨(⟨#[]⟩ : ByteArray), x5_1, 0⟩ : S107)] : List (S107))).bind fun y136 => (if 0 ≤ (wrap64 ((y136.length : Int) - 1)) then (if (wrap64 ((y136.length : Int) - 1)) < (y136.length : Int) then (if ((rd_T107 y136 (wrap64 ((y136.length : Int) - 1))).f0).size + (Utf8.encode t133).size ≤ 9223372036854775807 then ((some (y136.set ((wrap64 ((y136.length : Int) - 1)) : Int).toNat (⟨((rd_T107 y136 (wrap64 ((y136.length : Int) - 1))).f0) ++ (Utf8.encode t133), (rd_T107 y136 (wrap64 ((y136.length : Int) - 1))).f1, (rd_T107 y136 (wrap64 ((y136.length : Int) - 1))).f2⟩ : S107) : List (S107))).bind fun y140 => (words_Words.l0 k1 a0 (y140.set ((wrap64 ((y136.length : Int) - 1)) : Int).toNat (⟨(rd_T107 y140 (wrap64 ((y136.length : Int) - 1))).f0, (rd_T107 y140 (wrap64 ((y136.length : Int) - 1))).f1, wrap64 (x5_1 + t132)⟩ : S107)) true (wrap64 (x5_1 + t132)))) else (none)) else (none)) else (none))) else (none)) else (if ((rd_T107 x3_1 (wrap64 ((x3_1.length : Int) - 1))).f0).size + (Utf8.encode t133).size ≤ 9223372036854775807 then ((some (x3_1.set ((wrap64 ((x3_1.length : Int) - 1)) : Int).toNat (⟨((rd_T107 x3_1 (wrap64 ((x3_1.length : Int) - 1))).f0) ++ (Utf8.encode t133), (rd_T107 x3_1 (wrap64 ((x3_1.length : Int) - 1))).f1, (rd_T107 x3_1 (wrap64 ((x3_1.length : Int) - 1))).f2⟩ : S107) : List (S107))).bind fun y143 => (words_Words.l0 k1 a0 (y143.set ((wrap64 ((x3_1.length : Int) - 1)) : Int).toNat (⟨(rd_T107 y143 (wrap64 ((x3_1.length : Int) - 1))).f0, (rd_T107 y143 (wrap64 ((x3_1.length : Int) - 1))).f1, wrap64 (x5_1 + t132)⟩ : S107)) true (wrap64 (x5_1 + t132)))) else (none))) else (none)) else (none)) = some r := by rw [if_pos rfl] at H; exact H
                clear H
                have H := H1
                clear H1
                obtain ⟨ji9, hji9⟩ : ∃ j_ : Int, (wrap64 ((x3_1.length : Int) - 1)) = j_ := ⟨_, rfl⟩
                replace H : (if 0 ≤ (ji9) then (if (ji9) < (x3_1.length : Int) then (if (wrap64 ((((rd_T107 x3_1 (ji9)).f0).size : Int) + t132)) > 32 then (if x3_1.length < 4398046511104 then ((some (x3_1 ++ [(⟨(⟨#[]⟩ : ByteArray), x5_1, 0⟩ : S107)] : List (S107))).bind fun y136 => (if 0 ≤ (wrap64 ((y136.length : Int) - 1)) then (if (wrap64 ((y136.length : Int) - 1)) < (y136.length : Int) then (if ((rd_T107 y136 (wrap64 ((y136.length : Int) - 1))).f0).size + (Utf8.encode t133).size ≤ 9223372036854775807 then ((some (y136.set ((wrap64 ((y136.length : Int) - 1)) : Int).toNat (⟨((rd_T107 y136 (wrap64 ((y136.length : Int) - 1))).f0) ++ (Utf8.encode t133), (rd_T107 y136 (wrap64 ((y136.length : Int) - 1))).f1, (rd_T107 y136 (wrap64 ((y136.length : Int) - 1))).f2⟩ : S107) : List (S107))).bind fun y140 => (words_Words.l0 k1 a0 (y140.set ((wrap64 ((y136.length : Int) - 1)) : Int).toNat (⟨(rd_T107 y140 (wrap64 ((y136.length : Int) - 1))).f0, (rd_T107 y140 (wrap64 ((y136.length : Int) - 1))).f1, wrap64 (x5_1 + t132)⟩ : S107)) true (wrap64 (x5_1 + t132)))) else (none)) else (none)) else (none))) else (none)) else (if ((rd_T107 x3_1 (ji9)).f0).size + (Utf8.encode t133).size ≤ 9223372036854775807 then ((some (x3_1.set ((ji9) : Int).toNat (⟨((rd_T107 x3_1 (ji9)).f0) ++ (Utf8.encode t133), (rd_T107 x3_1 (ji9)).f1, (rd_T107 x3_1 (ji9)).f2⟩ : S107) : List (S107))).bind fun y143 => (words_Words.l0 k1 a0 (y143.set ((ji9) : Int).toNat (⟨(rd_T107 y143 (ji9)).f0, (rd_T107 y143 (ji9)).f1, wrap64 (x5_1 + t132)⟩ : S107)) true (wrap64 (x5_1 + t132)))) else (none))) else (none)) else (none)) = some r := by first | (rw [hji9] at H; exact H) | (simp only [hji9] at H ⊢; exact H)
                (try rw [hji9] at A5)
                (try rw [hji9] at A6)
                have hji9w : (IntKind.i64.wrap ((x3_1.length : Int) - 1)) = ji9 := (i64_w _).trans hji9
                by_cases c10 : 0 ≤ (ji9)
                · rw [if_pos c10] at H
                  have c10b0 : decide (0 ≤ (ji9)) = true := decide_eq_true c10
                  clear c10
                  by_cases c11 : (ji9) < (x3_1.length : Int)
                  · rw [if_pos c11] at H
                    have c11b0 : decide ((ji9) < (x3_1.length : Int)) = true := decide_eq_true c11
                    clear c11
                    by_cases c12 : (wrap64 ((((rd_T107 x3_1 (ji9)).f0).size : Int) + t132)) > 32
                    · rw [if_pos c12] at H
                      have c12b0 : decide (32 < (wrap64 ((((rd_T107 x3_1 (ji9)).f0).size : Int) + t132))) = true := decide_eq_true c12
                      clear c12
                      by_cases c13 : x3_1.length < 4398046511104
                      · rw [if_pos c13] at H
                        have LMc13 := Aside0.mk c13
                        clear c13
                        obtain ⟨y136, hy136⟩ : ∃ y_ : List (S107), y_ = (x3_1 ++ [(⟨(⟨#[]⟩ : ByteArray), x5_1, 0⟩ : S107)]) := ⟨_, rfl⟩
                        replace H : (if 0 ≤ (wrap64 ((y136.length : Int) - 1)) then (if (wrap64 ((y136.length : Int) - 1)) < (y136.length : Int) then (if ((rd_T107 y136 (wrap64 ((y136.length : Int) - 1))).f0).size + (Utf8.encode t133).size ≤ 9223372036854775807 then ((some (y136.set ((wrap64 ((y136.length : Int) - 1)) : Int).toNat (⟨((rd_T107 y136 (wrap64 ((y136.length : Int) - 1))).f0) ++ (Utf8.encode t133), (rd_T107 y136 (wrap64 ((y136.length : Int) - 1))).f1, (rd_T107 y136 (wrap64 ((y136.length : Int) - 1))).f2⟩ : S107) : List (S107))).bind fun y140 => (words_Words.l0 k1 a0 (y140.set ((wrap64 ((y136.length : Int) - 1)) : Int).toNat (⟨(rd_T107 y140 (wrap64 ((y136.length : Int) - 1))).f0, (rd_T107 y140 (wrap64 ((y136.length : Int) - 1))).f1, wrap64 (x5_1 + t132)⟩ : S107)) true (wrap64 (x5_1 + t132)))) else (none)) else (none)) else (none)) = some r := by first | (rw [hy136]; with_reducible exact H) | (have H2_ := (Option.bind_some _ _).symm.trans H; rw [hy136]; with_reducible exact H2_) | (have H2_ := (Option.bind_some _ _).symm.trans H; with_reducible exact H2_) | with_reducible exact H | (rw [hy136]; exact H) | exact H
                        have Ny136 := Aside0.mk hy136
                        clear hy136
                        obtain ⟨ji14, hji14⟩ : ∃ j_ : Int, (wrap64 ((y136.length : Int) - 1)) = j_ := ⟨_, rfl⟩
                        replace H : (if 0 ≤ (ji14) then (if (ji14) < (y136.length : Int) then (if ((rd_T107 y136 (ji14)).f0).size + (Utf8.encode t133).size ≤ 9223372036854775807 then ((some (y136.set ((ji14) : Int).toNat (⟨((rd_T107 y136 (ji14)).f0) ++ (Utf8.encode t133), (rd_T107 y136 (ji14)).f1, (rd_T107 y136 (ji14)).f2⟩ : S107) : List (S107))).bind fun y140 => (words_Words.l0 k1 a0 (y140.set ((ji14) : Int).toNat (⟨(rd_T107 y140 (ji14)).f0, (rd_T107 y140 (ji14)).f1, wrap64 (x5_1 + t132)⟩ : S107)) true (wrap64 (x5_1 + t132)))) else (none)) else (none)) else (none)) = some r := by first | (rw [hji14] at H; exact H) | (simp only [hji14] at H ⊢; exact H)
                        (try rw [hji14] at A5)
                        (try rw [hji14] at A6)
                        have hji14w : (IntKind.i64.wrap ((y136.length : Int) - 1)) = ji14 := (i64_w _).trans hji14
                        by_cases c15 : 0 ≤ (ji14)
                        · rw [if_pos c15] at H
                          have c15b0 : decide (0 ≤ (ji14)) = true := decide_eq_true c15
                          clear c15
                          by_cases c16 : (ji14) < (y136.length : Int)
                          · rw [if_pos c16] at H
                            have c16b0 : decide ((ji14) < (y136.length : Int)) = true := decide_eq_true c16
                            clear c16
                            by_cases c18 : ((rd_T107 y136 (ji14)).f0).size + (Utf8.encode t133).size ≤ 9223372036854775807
                            · rw [if_pos c18] at H
                              have c18b0 := eq_true c18
                              have c18b1 : decide (((rd_T107 y136 (ji14)).f0).size + (Utf8.encode t133).size ≤ 9223372036854775807) = true := decide_eq_true c18
                              try have c18b2 : (9223372036854775807 < ((rd_T107 y136 (ji14)).f0).size + (Utf8.encode t133).size) = False := eq_false (Nat.not_lt.2 c18)
                              obtain ⟨y140, hy140⟩ : ∃ y_ : List (S107), y_ = (y136.set ((ji14) : Int).toNat (⟨((rd_T107 y136 (ji14)).f0) ++ (Utf8.encode t133), (rd_T107 y136 (ji14)).f1, (rd_T107 y136 (ji14)).f2⟩ : S107)) := ⟨_, rfl⟩
                              replace H : (words_Words.l0 k1 a0 (y140.set ((ji14) : Int).toNat (⟨(rd_T107 y140 (ji14)).f0, (rd_T107 y140 (ji14)).f1, wrap64 (x5_1 + t132)⟩ : S107)) true (wrap64 (x5_1 + t132))) = some r := by first | (rw [hy140]; with_reducible exact H) | (have H2_ := (Option.bind_some _ _).symm.trans H; rw [hy140]; with_reducible exact H2_) | (have H2_ := (Option.bind_some _ _).symm.trans H; with_reducible exact H2_) | with_reducible exact H | (rw [hy140]; exact H) | exact H
                              have Ny140 := Aside0.mk hy140
                              clear hy140
                              obtain ⟨y141, hy141⟩ : ∃ y_ : List (S107), y_ = (y140.set ((ji14) : Int).toNat (⟨(rd_T107 y140 (ji14)).f0, (rd_T107 y140 (ji14)).f1, wrap64 (x5_1 + t132)⟩ : S107)) := ⟨_, rfl⟩
                              replace H : (words_Words.l0 k1 a0 y141 true (wrap64 (x5_1 + t132))) = some r := by first | (rw [hy141]; with_reducible exact H) | (have H2_ := (Option.bind_some _ _).symm.trans H; rw [hy141]; with_reducible exact H2_) | (have H2_ := (Option.bind_some _ _).symm.trans H; with_reducible exact H2_) | with_reducible exact H | (rw [hy141]; exact H) | exact H
                              have Ny141 := Aside0.mk hy141
                              clear hy141
                              have H' := Aside0.mk H
                              clear H
                              go_wp2_with (first | ((with_reducible refine gate_callee (f := 33) rfl ?_); refine goesL_ (some 19) rfl rfl Tryd.func33 (by kernel_rfl) rfl #[.string (a0.extract (x5_1 : Int).toNat a0.size)] rfl (by (try simp only [List.map_toArray, List.map_cons, List.map_nil]); first | done | rfl | (simp only [List.length_drop, List.length_take]; rfl)) ?_; (with_reducible refine (utf8_DecodeRuneInString.calls (a0.extract (x5_1 : Int).toNat a0.size) t131 t132 _ ?side1 A5.out).mono ?_); (case side1 => first | exact HT.out | exact tabs_below HT.out (by repeat (first | (with_reducible first | exact HB.out | apply below_alloc | apply pw_below_drewN | apply below_drew1) | exact HB.out))); rintro e w21 ⟨rfl, hb⟩; refine ⟨_, rfl, ?_⟩; have n0_ := Aside0.mk (Kd.R_below (by (with_reducible repeat (first | apply Kd.R_alloc | apply Kd.R_drewN | apply Kd.R_drew)); exact HO_3.out) hb); have n1_ := Aside0.mk (below_step (by repeat (first | (with_reducible first | exact HB.out | apply below_alloc | apply pw_below_drewN | apply below_drew1) | exact HB.out)) hb); clear HO_3; clear HB; have HO_3 := n0_; have HB := n1_; clear n0_ n1_; (try clear hb); (try clear hb2); (try clear hk); (try clear hi)) | ((with_reducible refine gate_callee (f := 75) rfl ?_); refine goesL_ (some 25) rfl rfl Tryd.func75 (by kernel_rfl) rfl #[.int .i32 t131, .int .i64 t132] rfl (by (try simp only [List.map_toArray, List.map_cons, List.map_nil]); first | done | rfl | (simp only [List.length_drop, List.length_take]; rfl)) ?_; (with_reducible refine (words_letter.calls k1 t131 t132 t133 true _ A6.out).mono ?_); rintro e w' ⟨rfl, ⟨nd, rfl⟩⟩; refine ⟨_, rfl, ?_⟩; (try (rw [drewN_self w21]; generalize hq_ : World.drewN w21 _ = w21; have n0_ : Aside0 (Kd.R k107 107 w21 w.heap.size (fun _ => True) u3 x3_1) := ⟨by rw [← hq_]; exact (by (with_reducible repeat (first | apply Kd.R_alloc | apply Kd.R_drewN | apply Kd.R_drew)); exact HO_3.out)⟩; have n1_ : Aside0 (Below w.heap.size w w21) := ⟨by rw [← hq_]; exact (by repeat (first | (with_reducible first | exact HB.out | apply below_alloc | apply pw_below_drewN | apply below_drew1) | exact HB.out))⟩; clear HO_3 HB hq_; have HO_3 := n0_; have HB := n1_; clear n0_ n1_)); obtain ⟨Ao22, co22, eo22⟩ := Kd.R_slice HO_3.out; subst eo22; have p135 : 0 ≤ ((ji9) : Int) := of_decide_eq_true (by first | (with_reducible assumption) | assumption); have q135 : (ji9) < (x3_1.length : Int) := of_decide_eq_true (by first | (with_reducible assumption) | assumption); obtain ⟨ad135, e135, hx135_0, hx135_1, hx135_2⟩ := at_T107 (Kd.R_reads' HO_3.out).2.2 (ji9) p135 q135; cases e135; replace p135 := eq_true p135; replace q135 := eq_true q135) | ((with_reducible refine gate_builtin (b := .append) (xs := #[.tmp 44, .tmp 47]) rfl ?_); (try (refine gate_guard (by rfl) ?_; dsimp only)); at_builtin; refine Kd.R_append k107 (w0 := w) w.heap.size rfl (.tmp 44) (.tmp 47) 105 107 (.agg #[(.string ⟨#[]⟩), (.int .i64 0), (.int .i64 0)]) 32 rfl Tryd.underlying105 info107 rfl (by decide) (by omega) (.slice (some ad135) x3_1.length co22) x3_1 (⟨(⟨#[]⟩ : ByteArray), x5_1, 0⟩ : S107) [.string (⟨#[]⟩ : ByteArray), .int .i64 x5_1, .int .i64 0] (fun _ => True) (fun _ => False) rfl rfl ?aP (fun _ hk => hk.elim) ?aF ?aO ?aB ?aS ?aL ?_; (case aP => exact k107_mkM _ _ _ (⟨(⟨#[]⟩ : ByteArray), x5_1, 0⟩ : S107)); (case aB => exact (by repeat (first | (with_reducible first | exact HB.out | apply below_alloc | apply pw_below_drewN | apply below_drew1) | exact HB.out))); (case aF => exact (fun _ _ => trivial)); (case aO => exact (by (with_reducible repeat (first | apply Kd.R_alloc | apply Kd.R_drewN | apply Kd.R_drew)); exact HO_3.out)); (case aS => exact (below_size (by repeat (first | (with_reducible first | exact HB.out | apply below_alloc | apply pw_below_drewN | apply below_drew1) | exact HB.out)))); (case aL => have := LMc13.out; omega); intro v137 w23 ho hb hg hat; rw [← Ny136.out] at ho; have n0_ := Aside0.mk (hb); have n1_ := Aside0.mk (ho); clear HB; clear HO_3; have HB := n0_; have HO138 := n1_; clear n0_ n1_; clear ho hb hg hat; obtain ⟨Ao24, co24, eo24⟩ := Kd.R_slice HO138.out; subst eo24; have p17 : 0 ≤ ((ji14) : Int) := of_decide_eq_true (by first | (with_reducible assumption) | assumption); have q17 : ((ji14) : Int) < ((y136.length : Int) : Int) := of_decide_eq_true (by first | (with_reducible assumption) | assumption); obtain ⟨go17, co17, eo17, gb17, gl17, cl17, HG17⟩ := Kd.R_form HO138.out (by omega); (first | cases eo17 | (injection eo17 with ea_ en_ ec_; (first | subst ea_ | (injection ea_ with ea_; subst ea_)); subst ec_; clear en_)); have GB17 := Aside0.mk gb17; have GG17 := Aside0.mk HG17; clear gb17 gl17 HG17; obtain ⟨ce17, hcl17, hM17, hcc17, hfr17⟩ := Kd.R_elem HO138.out z107 ((ji14) : Int) p17 q17; obtain rfl := k107_openM hM17; have hx17_0 : w23.cell? ⟨go17, ((ji14) : Int).toNat * 3, none⟩ = some (.string ((rd_T107 y136 (ji14)).f0)) := hcc17 0 _ rfl; have hx17_1 : w23.cell? ⟨go17, ((ji14) : Int).toNat * 3 + 1, none⟩ = some (.int .i64 ((rd_T107 y136 (ji14)).f1)) := hcc17 1 _ rfl; have hx17_2 : w23.cell? ⟨go17, ((ji14) : Int).toNat * 3 + 2, none⟩ = some (.int .i64 ((rd_T107 y136 (ji14)).f2)) := hcc17 2 _ rfl; have hf17_0 : w23.frozen? ⟨go17, ((ji14) : Int).toNat * 3, none⟩ = false := hfr17 0; have hf17_1 : w23.frozen? ⟨go17, ((ji14) : Int).toNat * 3 + 1, none⟩ = false := hfr17 1; have hf17_2 : w23.frozen? ⟨go17, ((ji14) : Int).toNat * 3 + 2, none⟩ = false := hfr17 2; clear hcl17 hcc17 hfr17 hM17; replace p17 := eq_true p17; replace q17 := eq_true q17; have p139 : 0 ≤ ((ji14) : Int) := of_decide_eq_true (by first | (with_reducible assumption) | assumption); have q139 : (ji14) < (y136.length : Int) := of_decide_eq_true (by first | (with_reducible assumption) | assumption); obtain ⟨ad139, e139, hx139_0, hx139_1, hx139_2⟩ := at_T107 (Kd.R_reads' HO138.out).2.2 (ji14) p139 q139; obtain rfl : (⟨go17, 0, none⟩ : Addr) = ad139 := (by injection e139); (first | simp only [add_plain] at hx139_0 | simp only [add_at] at hx139_0 | simp only [Addr.add, Nat.zero_add] at hx139_0 | skip); (first | simp only [add_plain] at hx139_1 | simp only [add_at] at hx139_1 | simp only [Addr.add, Nat.zero_add] at hx139_1 | skip); (first | simp only [add_plain] at hx139_2 | simp only [add_at] at hx139_2 | simp only [Addr.add, Nat.zero_add] at hx139_2 | skip); replace p139 := eq_true p139; replace q139 := eq_true q139; have p19 : 0 ≤ ((ji14) : Int) := of_decide_eq_true (by first | (with_reducible assumption) | assumption); have q19 : ((ji14) : Int) < ((y136.length : Int) : Int) := of_decide_eq_true (by first | (with_reducible assumption) | assumption); obtain ⟨ce19, hcl19, hM19, hcc19, hfr19⟩ := Kd.R_elem HO138.out z107 ((ji14) : Int) p19 q19; obtain rfl := k107_openM hM19; have hx19_0 : w23.cell? ⟨go17, ((ji14) : Int).toNat * 3, none⟩ = some (.string ((rd_T107 y136 (ji14)).f0)) := hcc19 0 _ rfl; have hx19_1 : w23.cell? ⟨go17, ((ji14) : Int).toNat * 3 + 1, none⟩ = some (.int .i64 ((rd_T107 y136 (ji14)).f1)) := hcc19 1 _ rfl; have hx19_2 : w23.cell? ⟨go17, ((ji14) : Int).toNat * 3 + 2, none⟩ = some (.int .i64 ((rd_T107 y136 (ji14)).f2)) := hcc19 2 _ rfl; have hf19_0 : w23.frozen? ⟨go17, ((ji14) : Int).toNat * 3, none⟩ = false := hfr19 0; have hf19_1 : w23.frozen? ⟨go17, ((ji14) : Int).toNat * 3 + 1, none⟩ = false := hfr19 1; have hf19_2 : w23.frozen? ⟨go17, ((ji14) : Int).toNat * 3 + 2, none⟩ = false := hfr19 2; clear hcl19 hcc19 hfr19 hM19; replace p19 := eq_true p19; replace q19 := eq_true q19; have HX25 := Aside0.mk (show Kd.R k107 107 w23 w.heap.size (fun _ => True) (.slice (some ⟨go17, 0, none⟩) y136.length co24) y136 from (by (with_reducible repeat (first | apply Kd.R_alloc | apply Kd.R_drewN | apply Kd.R_drew)); exact HO138.out)); obtain ⟨ce25, hcl25, hM25, hcc25, hfr25⟩ := Kd.R_elem HX25.out z107 ((ji14) : Int) (of_decide_eq_true (by first | (with_reducible assumption) | assumption)) (by have h_ : ((ji14) : Int) < ((y136.length : Int) : Int) := of_decide_eq_true (by first | (with_reducible assumption) | assumption); first | exact h_ | (have e_ := (Kd.R_reads' HO138.out).1; omega) | simpa using h_); obtain rfl := k107_openM hM25; have HP25 := Kd.R_seg HX25.out ((ji14) : Int) (of_decide_eq_true (by first | (with_reducible assumption) | assumption)) (by have h_ : ((ji14) : Int) < ((y136.length : Int) : Int) := of_decide_eq_true (by first | (with_reducible assumption) | assumption); first | exact h_ | (have e_ := (Kd.R_reads' HO138.out).1; omega) | simpa using h_) (seg := [.string (((rd_T107 y136 (ji14)).f0) ++ (Utf8.encode t133))]) (j := 0) hcl25 hcc25 (show 1 ≤ 3 from by decide) (x' := (⟨((rd_T107 y136 (ji14)).f0) ++ (Utf8.encode t133), (rd_T107 y136 (ji14)).f1, (rd_T107 y136 (ji14)).f2⟩ : S107)) (k107_mkM _ _ _ (⟨((rd_T107 y136 (ji14)).f0) ++ (Utf8.encode t133), (rd_T107 y136 (ji14)).f1, (rd_T107 y136 (ji14)).f2⟩ : S107) ) (fun _ hk => hk); have hx25_0 := hcc25 0 _ rfl; (try simp only [show (k107).sz = 3 from rfl, Nat.mul_one, Nat.add_zero] at hx25_0); have hf25_0 := hfr25 0; (try simp only [show (k107).sz = 3 from rfl, Nat.mul_one, Nat.add_zero] at hf25_0); clear hcl25 hcc25 hfr25 hM25) | ((with_reducible refine gate_store (t := 9) (p := 62) rfl ?_); refine store_event (t := 9) (p := 62) (v := ?vo_w26) (w1 := (w23.setCell ⟨go17, ((ji14) : Int).toNat * 3, none⟩ (.string (((rd_T107 y136 (ji14)).f0) ++ (Utf8.encode t133))))) ?hg ?ho ?hn ?hr ?_; (case ho => rfl); (case hg => rfl); (case hn => rfl); (case hr => first | (go_simp; done) | (go_simp; rfl)); intro w26 hw; have hg : w23.grownBy w26 (some go17) := (by rw [hw]; exact HP25.2); have hp_ : Kd.R k107 107 w26 w.heap.size (fun _ => True) (.slice (some ⟨go17, 0, none⟩) y136.length co24) y140 := (by rw [hw, Ny140.out]; exact HP25.1); clear HP25; have n0_ := Aside0.mk (hp_); have n1_ := Aside0.mk ((by rw [hw]; exact below_set (HB.out) GB17.out : Below w.heap.size w w26)); clear HO138; clear HB; have HO138 := n0_; have HB := n1_; clear n0_ n1_; clear hg hw hp_; have p20 : 0 ≤ ((ji14) : Int) := of_decide_eq_true (by first | (with_reducible assumption) | assumption); have q20 : ((ji14) : Int) < ((y136.length : Int) : Int) := of_decide_eq_true (by first | (with_reducible assumption) | assumption); obtain ⟨ce20, hcl20, hM20, hcc20, hfr20⟩ := Kd.R_elem HO138.out z107 ((ji14) : Int) p20 q20; obtain rfl := k107_openM hM20; have hx20_0 : w26.cell? ⟨go17, ((ji14) : Int).toNat * 3, none⟩ = some (.string ((rd_T107 y140 (ji14)).f0)) := hcc20 0 _ rfl; have hx20_1 : w26.cell? ⟨go17, ((ji14) : Int).toNat * 3 + 1, none⟩ = some (.int .i64 ((rd_T107 y140 (ji14)).f1)) := hcc20 1 _ rfl; have hx20_2 : w26.cell? ⟨go17, ((ji14) : Int).toNat * 3 + 2, none⟩ = some (.int .i64 ((rd_T107 y140 (ji14)).f2)) := hcc20 2 _ rfl; have hf20_0 : w26.frozen? ⟨go17, ((ji14) : Int).toNat * 3, none⟩ = false := hfr20 0; have hf20_1 : w26.frozen? ⟨go17, ((ji14) : Int).toNat * 3 + 1, none⟩ = false := hfr20 1; have hf20_2 : w26.frozen? ⟨go17, ((ji14) : Int).toNat * 3 + 2, none⟩ = false := hfr20 2; clear hcl20 hcc20 hfr20 hM20; replace p20 := eq_true p20; replace q20 := eq_true q20; have HX27 := Aside0.mk (show Kd.R k107 107 w26 w.heap.size (fun _ => True) (.slice (some ⟨go17, 0, none⟩) y136.length co24) y140 from (by (with_reducible repeat (first | apply Kd.R_alloc | apply Kd.R_drewN | apply Kd.R_drew)); exact HO138.out)); obtain ⟨ce27, hcl27, hM27, hcc27, hfr27⟩ := Kd.R_elem HX27.out z107 ((ji14) : Int) (of_decide_eq_true (by first | (with_reducible assumption) | assumption)) (by have h_ : ((ji14) : Int) < ((y136.length : Int) : Int) := of_decide_eq_true (by first | (with_reducible assumption) | assumption); first | exact h_ | (have e_ := (Kd.R_reads' HO138.out).1; omega) | simpa using h_); obtain rfl := k107_openM hM27; have HP27 := Kd.R_seg HX27.out ((ji14) : Int) (of_decide_eq_true (by first | (with_reducible assumption) | assumption)) (by have h_ : ((ji14) : Int) < ((y136.length : Int) : Int) := of_decide_eq_true (by first | (with_reducible assumption) | assumption); first | exact h_ | (have e_ := (Kd.R_reads' HO138.out).1; omega) | simpa using h_) (seg := [.int .i64 (wrap64 (x5_1 + t132))]) (j := 2) hcl27 hcc27 (show 3 ≤ 3 from by decide) (x' := (⟨(rd_T107 y140 (ji14)).f0, (rd_T107 y140 (ji14)).f1, wrap64 (x5_1 + t132)⟩ : S107)) (k107_mkM _ _ _ (⟨(rd_T107 y140 (ji14)).f0, (rd_T107 y140 (ji14)).f1, wrap64 (x5_1 + t132)⟩ : S107) ) (fun _ hk => hk); have hx27_2 := hcc27 2 _ rfl; (try simp only [show (k107).sz = 3 from rfl, Nat.mul_one, Nat.add_zero] at hx27_2); have hf27_2 := hfr27 2; (try simp only [show (k107).sz = 3 from rfl, Nat.mul_one, Nat.add_zero] at hf27_2); clear hcl27 hcc27 hfr27 hM27) | ((with_reducible refine gate_store (t := 3) (p := 68) rfl ?_); refine store_event (t := 3) (p := 68) (v := ?vo_w28) (w1 := (w26.setCell ⟨go17, ((ji14) : Int).toNat * 3 + 2, none⟩ (.int .i64 (wrap64 (x5_1 + t132))))) ?hg ?ho ?hn ?hr ?_; (case ho => rfl); (case hg => rfl); (case hn => rfl); (case hr => first | (go_simp; done) | (go_simp; rfl)); intro w28 hw; have hg : w26.grownBy w28 (some go17) := (by rw [hw]; exact HP27.2); have hp_ : Kd.R k107 107 w28 w.heap.size (fun _ => True) (.slice (some ⟨go17, 0, none⟩) y136.length co24) y141 := (by rw [hw, Ny141.out]; exact HP27.1); clear HP27; have n0_ := Aside0.mk (hp_); have n1_ := Aside0.mk ((by rw [hw]; exact below_set (HB.out) GB17.out : Below w.heap.size w w28)); clear HO138; clear HB; have HO138 := n0_; have HB := n1_; clear n0_ n1_; clear hg hw hp_))
                              go_roundg k1
                              case measure => have := HK1.out; omega
                              case rel => exact ⟨(y141), (true), (wrap64 (x5_1 + t132)), (by first | rfl | (simp; done) | (simp [*]; done)), (by first | rfl | (simp; done) | (simp [*]; done)), H', ⟨by have := HK1.out; omega⟩, ⟨by (with_reducible repeat (first | apply Kd.R_alloc | apply Kd.R_drewN | apply Kd.R_drew)); exact HO138.out⟩, ⟨by repeat (first | (with_reducible first | exact HB.out | apply below_alloc | apply pw_below_drewN | apply below_drew1) | exact HB.out)⟩⟩
                            · rw [if_neg c18] at H
                              exact absurd H (by simp)
                          · rw [if_neg c16] at H
                            exact absurd H (by simp)
                        · rw [if_neg c15] at H
                          exact absurd H (by simp)
                      · rw [if_neg c13] at H
                        exact absurd H (by simp)
                    · rw [if_neg c12] at H
                      have c12b0 : decide (32 < (wrap64 ((((rd_T107 x3_1 (ji9)).f0).size : Int) + t132))) = false := decide_eq_false c12
                      clear c12
                      by_cases c30 : ((rd_T107 x3_1 (ji9)).f0).size + (Utf8.encode t133).size ≤ 9223372036854775807
                      · rw [if_pos c30] at H
                        have c30b0 := eq_true c30
                        have c30b1 : decide (((rd_T107 x3_1 (ji9)).f0).size + (Utf8.encode t133).size ≤ 9223372036854775807) = true := decide_eq_true c30
                        try have c30b2 : (9223372036854775807 < ((rd_T107 x3_1 (ji9)).f0).size + (Utf8.encode t133).size) = False := eq_false (Nat.not_lt.2 c30)
                        obtain ⟨y143, hy143⟩ : ∃ y_ : List (S107), y_ = (x3_1.set ((ji9) : Int).toNat (⟨((rd_T107 x3_1 (ji9)).f0) ++ (Utf8.encode t133), (rd_T107 x3_1 (ji9)).f1, (rd_T107 x3_1 (ji9)).f2⟩ : S107)) := ⟨_, rfl⟩
                        replace H : (words_Words.l0 k1 a0 (y143.set ((ji9) : Int).toNat (⟨(rd_T107 y143 (ji9)).f0, (rd_T107 y143 (ji9)).f1, wrap64 (x5_1 + t132)⟩ : S107)) true (wrap64 (x5_1 + t132))) = some r := by first | (rw [hy143]; with_reducible exact H) | (have H2_ := (Option.bind_some _ _).symm.trans H; rw [hy143]; with_reducible exact H2_) | (have H2_ := (Option.bind_some _ _).symm.trans H; with_reducible exact H2_) | with_reducible exact H | (rw [hy143]; exact H) | exact H
                        have Ny143 := Aside0.mk hy143
                        clear hy143
                        obtain ⟨y144, hy144⟩ : ∃ y_ : List (S107), y_ = (y143.set ((ji9) : Int).toNat (⟨(rd_T107 y143 (ji9)).f0, (rd_T107 y143 (ji9)).f1, wrap64 (x5_1 + t132)⟩ : S107)) := ⟨_, rfl⟩
                        replace H : (words_Words.l0 k1 a0 y144 true (wrap64 (x5_1 + t132))) = some r := by first | (rw [hy144]; with_reducible exact H) | (have H2_ := (Option.bind_some _ _).symm.trans H; rw [hy144]; with_reducible exact H2_) | (have H2_ := (Option.bind_some _ _).symm.trans H; with_reducible exact H2_) | with_reducible exact H | (rw [hy144]; exact H) | exact H
                        have Ny144 := Aside0.mk hy144
                        clear hy144
                        have H' := Aside0.mk H
                        clear H
                        go_wp2_with (first | ((with_reducible refine gate_callee (f := 33) rfl ?_); refine goesL_ (some 19) rfl rfl Tryd.func33 (by kernel_rfl) rfl #[.string (a0.extract (x5_1 : Int).toNat a0.size)] rfl (by (try simp only [List.map_toArray, List.map_cons, List.map_nil]); first | done | rfl | (simp only [List.length_drop, List.length_take]; rfl)) ?_; (with_reducible refine (utf8_DecodeRuneInString.calls (a0.extract (x5_1 : Int).toNat a0.size) t131 t132 _ ?side1 A5.out).mono ?_); (case side1 => first | exact HT.out | exact tabs_below HT.out (by repeat (first | (with_reducible first | exact HB.out | apply below_alloc | apply pw_below_drewN | apply below_drew1) | exact HB.out))); rintro e w33 ⟨rfl, hb⟩; refine ⟨_, rfl, ?_⟩; have n0_ := Aside0.mk (Kd.R_below (by (with_reducible repeat (first | apply Kd.R_alloc | apply Kd.R_drewN | apply Kd.R_drew)); exact HO_3.out) hb); have n1_ := Aside0.mk (below_step (by repeat (first | (with_reducible first | exact HB.out | apply below_alloc | apply pw_below_drewN | apply below_drew1) | exact HB.out)) hb); clear HO_3; clear HB; have HO_3 := n0_; have HB := n1_; clear n0_ n1_; (try clear hb); (try clear hb2); (try clear hk); (try clear hi)) | ((with_reducible refine gate_callee (f := 75) rfl ?_); refine goesL_ (some 25) rfl rfl Tryd.func75 (by kernel_rfl) rfl #[.int .i32 t131, .int .i64 t132] rfl (by (try simp only [List.map_toArray, List.map_cons, List.map_nil]); first | done | rfl | (simp only [List.length_drop, List.length_take]; rfl)) ?_; (with_reducible refine (words_letter.calls k1 t131 t132 t133 true _ A6.out).mono ?_); rintro e w' ⟨rfl, ⟨nd, rfl⟩⟩; refine ⟨_, rfl, ?_⟩; (try (rw [drewN_self w33]; generalize hq_ : World.drewN w33 _ = w33; have n0_ : Aside0 (Kd.R k107 107 w33 w.heap.size (fun _ => True) u3 x3_1) := ⟨by rw [← hq_]; exact (by (with_reducible repeat (first | apply Kd.R_alloc | apply Kd.R_drewN | apply Kd.R_drew)); exact HO_3.out)⟩; have n1_ : Aside0 (Below w.heap.size w w33) := ⟨by rw [← hq_]; exact (by repeat (first | (with_reducible first | exact HB.out | apply below_alloc | apply pw_below_drewN | apply below_drew1) | exact HB.out))⟩; clear HO_3 HB hq_; have HO_3 := n0_; have HB := n1_; clear n0_ n1_)); obtain ⟨Ao34, co34, eo34⟩ := Kd.R_slice HO_3.out; subst eo34; have p135 : 0 ≤ ((ji9) : Int) := of_decide_eq_true (by first | (with_reducible assumption) | assumption); have q135 : (ji9) < (x3_1.length : Int) := of_decide_eq_true (by first | (with_reducible assumption) | assumption); obtain ⟨ad135, e135, hx135_0, hx135_1, hx135_2⟩ := at_T107 (Kd.R_reads' HO_3.out).2.2 (ji9) p135 q135; cases e135; replace p135 := eq_true p135; replace q135 := eq_true q135; have p29 : 0 ≤ ((ji9) : Int) := of_decide_eq_true (by first | (with_reducible assumption) | assumption); have q29 : ((ji9) : Int) < ((x3_1.length : Int) : Int) := of_decide_eq_true (by first | (with_reducible assumption) | assumption); obtain ⟨go29, co29, eo29, gb29, gl29, cl29, HG29⟩ := Kd.R_form HO_3.out (by omega); (first | cases eo29 | (injection eo29 with ea_ en_ ec_; (first | subst ea_ | (injection ea_ with ea_; subst ea_)); subst ec_; clear en_)); have GB29 := Aside0.mk gb29; have GG29 := Aside0.mk HG29; clear gb29 gl29 HG29; (first | simp only [add_plain] at hx135_0 | skip); (first | simp only [add_plain] at hx135_1 | skip); (first | simp only [add_plain] at hx135_2 | skip); obtain ⟨ce29, hcl29, hM29, hcc29, hfr29⟩ := Kd.R_elem HO_3.out z107 ((ji9) : Int) p29 q29; obtain rfl := k107_openM hM29; have hx29_0 : w33.cell? ⟨go29, ((ji9) : Int).toNat * 3, none⟩ = some (.string ((rd_T107 x3_1 (ji9)).f0)) := hcc29 0 _ rfl; have hx29_1 : w33.cell? ⟨go29, ((ji9) : Int).toNat * 3 + 1, none⟩ = some (.int .i64 ((rd_T107 x3_1 (ji9)).f1)) := hcc29 1 _ rfl; have hx29_2 : w33.cell? ⟨go29, ((ji9) : Int).toNat * 3 + 2, none⟩ = some (.int .i64 ((rd_T107 x3_1 (ji9)).f2)) := hcc29 2 _ rfl; have hf29_0 : w33.frozen? ⟨go29, ((ji9) : Int).toNat * 3, none⟩ = false := hfr29 0; have hf29_1 : w33.frozen? ⟨go29, ((ji9) : Int).toNat * 3 + 1, none⟩ = false := hfr29 1; have hf29_2 : w33.frozen? ⟨go29, ((ji9) : Int).toNat * 3 + 2, none⟩ = false := hfr29 2; clear hcl29 hcc29 hfr29 hM29; replace p29 := eq_true p29; replace q29 := eq_true q29; have p142 : 0 ≤ ((ji9) : Int) := of_decide_eq_true (by first | (with_reducible assumption) | assumption); have q142 : (ji9) < (x3_1.length : Int) := of_decide_eq_true (by first | (with_reducible assumption) | assumption); obtain ⟨ad142, e142, hx142_0, hx142_1, hx142_2⟩ := at_T107 (Kd.R_reads' HO_3.out).2.2 (ji9) p142 q142; obtain rfl : (⟨go29, 0, none⟩ : Addr) = ad142 := (by injection e142); (first | simp only [add_plain] at hx142_0 | simp only [add_at] at hx142_0 | simp only [Addr.add, Nat.zero_add] at hx142_0 | skip); (first | simp only [add_plain] at hx142_1 | simp only [add_at] at hx142_1 | simp only [Addr.add, Nat.zero_add] at hx142_1 | skip); (first | simp only [add_plain] at hx142_2 | simp only [add_at] at hx142_2 | simp only [Addr.add, Nat.zero_add] at hx142_2 | skip); replace p142 := eq_true p142; replace q142 := eq_true q142; have p31 : 0 ≤ ((ji9) : Int) := of_decide_eq_true (by first | (with_reducible assumption) | assumption); have q31 : ((ji9) : Int) < ((x3_1.length : Int) : Int) := of_decide_eq_true (by first | (with_reducible assumption) | assumption); obtain ⟨ce31, hcl31, hM31, hcc31, hfr31⟩ := Kd.R_elem HO_3.out z107 ((ji9) : Int) p31 q31; obtain rfl := k107_openM hM31; have hx31_0 : w33.cell? ⟨go29, ((ji9) : Int).toNat * 3, none⟩ = some (.string ((rd_T107 x3_1 (ji9)).f0)) := hcc31 0 _ rfl; have hx31_1 : w33.cell? ⟨go29, ((ji9) : Int).toNat * 3 + 1, none⟩ = some (.int .i64 ((rd_T107 x3_1 (ji9)).f1)) := hcc31 1 _ rfl; have hx31_2 : w33.cell? ⟨go29, ((ji9) : Int).toNat * 3 + 2, none⟩ = some (.int .i64 ((rd_T107 x3_1 (ji9)).f2)) := hcc31 2 _ rfl; have hf31_0 : w33.frozen? ⟨go29, ((ji9) : Int).toNat * 3, none⟩ = false := hfr31 0; have hf31_1 : w33.frozen? ⟨go29, ((ji9) : Int).toNat * 3 + 1, none⟩ = false := hfr31 1; have hf31_2 : w33.frozen? ⟨go29, ((ji9) : Int).toNat * 3 + 2, none⟩ = false := hfr31 2; clear hcl31 hcc31 hfr31 hM31; replace p31 := eq_true p31; replace q31 := eq_true q31; have HX35 := Aside0.mk (show Kd.R k107 107 w33 w.heap.size (fun _ => True) (.slice (some ⟨go29, 0, none⟩) x3_1.length co34) x3_1 from (by (with_reducible repeat (first | apply Kd.R_alloc | apply Kd.R_drewN | apply Kd.R_drew)); exact HO_3.out)); obtain ⟨ce35, hcl35, hM35, hcc35, hfr35⟩ := Kd.R_elem HX35.out z107 ((ji9) : Int) (of_decide_eq_true (by first | (with_reducible assumption) | assumption)) (by have h_ : ((ji9) : Int) < ((x3_1.length : Int) : Int) := of_decide_eq_true (by first | (with_reducible assumption) | assumption); first | exact h_ | (have e_ := (Kd.R_reads' HO_3.out).1; omega) | simpa using h_); obtain rfl := k107_openM hM35; have HP35 := Kd.R_seg HX35.out ((ji9) : Int) (of_decide_eq_true (by first | (with_reducible assumption) | assumption)) (by have h_ : ((ji9) : Int) < ((x3_1.length : Int) : Int) := of_decide_eq_true (by first | (with_reducible assumption) | assumption); first | exact h_ | (have e_ := (Kd.R_reads' HO_3.out).1; omega) | simpa using h_) (seg := [.string (((rd_T107 x3_1 (ji9)).f0) ++ (Utf8.encode t133))]) (j := 0) hcl35 hcc35 (show 1 ≤ 3 from by decide) (x' := (⟨((rd_T107 x3_1 (ji9)).f0) ++ (Utf8.encode t133), (rd_T107 x3_1 (ji9)).f1, (rd_T107 x3_1 (ji9)).f2⟩ : S107)) (k107_mkM _ _ _ (⟨((rd_T107 x3_1 (ji9)).f0) ++ (Utf8.encode t133), (rd_T107 x3_1 (ji9)).f1, (rd_T107 x3_1 (ji9)).f2⟩ : S107) ) (fun _ hk => hk); have hx35_0 := hcc35 0 _ rfl; (try simp only [show (k107).sz = 3 from rfl, Nat.mul_one, Nat.add_zero] at hx35_0); have hf35_0 := hfr35 0; (try simp only [show (k107).sz = 3 from rfl, Nat.mul_one, Nat.add_zero] at hf35_0); clear hcl35 hcc35 hfr35 hM35) | ((with_reducible refine gate_store (t := 9) (p := 62) rfl ?_); refine store_event (t := 9) (p := 62) (v := ?vo_w36) (w1 := (w33.setCell ⟨go29, ((ji9) : Int).toNat * 3, none⟩ (.string (((rd_T107 x3_1 (ji9)).f0) ++ (Utf8.encode t133))))) ?hg ?ho ?hn ?hr ?_; (case ho => rfl); (case hg => rfl); (case hn => rfl); (case hr => first | (go_simp; done) | (go_simp; rfl)); intro w36 hw; have hg : w33.grownBy w36 (some go29) := (by rw [hw]; exact HP35.2); have hp_ : Kd.R k107 107 w36 w.heap.size (fun _ => True) (.slice (some ⟨go29, 0, none⟩) x3_1.length co34) y143 := (by rw [hw, Ny143.out]; exact HP35.1); clear HP35; have n0_ := Aside0.mk (hp_); have n1_ := Aside0.mk ((by rw [hw]; exact below_set (HB.out) GB29.out : Below w.heap.size w w36)); clear HO_3; clear HB; have HO_3 := n0_; have HB := n1_; clear n0_ n1_; clear hg hw hp_; have p32 : 0 ≤ ((ji9) : Int) := of_decide_eq_true (by first | (with_reducible assumption) | assumption); have q32 : ((ji9) : Int) < ((x3_1.length : Int) : Int) := of_decide_eq_true (by first | (with_reducible assumption) | assumption); obtain ⟨ce32, hcl32, hM32, hcc32, hfr32⟩ := Kd.R_elem HO_3.out z107 ((ji9) : Int) p32 q32; obtain rfl := k107_openM hM32; have hx32_0 : w36.cell? ⟨go29, ((ji9) : Int).toNat * 3, none⟩ = some (.string ((rd_T107 y143 (ji9)).f0)) := hcc32 0 _ rfl; have hx32_1 : w36.cell? ⟨go29, ((ji9) : Int).toNat * 3 + 1, none⟩ = some (.int .i64 ((rd_T107 y143 (ji9)).f1)) := hcc32 1 _ rfl; have hx32_2 : w36.cell? ⟨go29, ((ji9) : Int).toNat * 3 + 2, none⟩ = some (.int .i64 ((rd_T107 y143 (ji9)).f2)) := hcc32 2 _ rfl; have hf32_0 : w36.frozen? ⟨go29, ((ji9) : Int).toNat * 3, none⟩ = false := hfr32 0; have hf32_1 : w36.frozen? ⟨go29, ((ji9) : Int).toNat * 3 + 1, none⟩ = false := hfr32 1; have hf32_2 : w36.frozen? ⟨go29, ((ji9) : Int).toNat * 3 + 2, none⟩ = false := hfr32 2; clear hcl32 hcc32 hfr32 hM32; replace p32 := eq_true p32; replace q32 := eq_true q32; have HX37 := Aside0.mk (show Kd.R k107 107 w36 w.heap.size (fun _ => True) (.slice (some ⟨go29, 0, none⟩) x3_1.length co34) y143 from (by (with_reducible repeat (first | apply Kd.R_alloc | apply Kd.R_drewN | apply Kd.R_drew)); exact HO_3.out)); obtain ⟨ce37, hcl37, hM37, hcc37, hfr37⟩ := Kd.R_elem HX37.out z107 ((ji9) : Int) (of_decide_eq_true (by first | (with_reducible assumption) | assumption)) (by have h_ : ((ji9) : Int) < ((x3_1.length : Int) : Int) := of_decide_eq_true (by first | (with_reducible assumption) | assumption); first | exact h_ | (have e_ := (Kd.R_reads' HO_3.out).1; omega) | simpa using h_); obtain rfl := k107_openM hM37; have HP37 := Kd.R_seg HX37.out ((ji9) : Int) (of_decide_eq_true (by first | (with_reducible assumption) | assumption)) (by have h_ : ((ji9) : Int) < ((x3_1.length : Int) : Int) := of_decide_eq_true (by first | (with_reducible assumption) | assumption); first | exact h_ | (have e_ := (Kd.R_reads' HO_3.out).1; omega) | simpa using h_) (seg := [.int .i64 (wrap64 (x5_1 + t132))]) (j := 2) hcl37 hcc37 (show 3 ≤ 3 from by decide) (x' := (⟨(rd_T107 y143 (ji9)).f0, (rd_T107 y143 (ji9)).f1, wrap64 (x5_1 + t132)⟩ : S107)) (k107_mkM _ _ _ (⟨(rd_T107 y143 (ji9)).f0, (rd_T107 y143 (ji9)).f1, wrap64 (x5_1 + t132)⟩ : S107) ) (fun _ hk => hk); have hx37_2 := hcc37 2 _ rfl; (try simp only [show (k107).sz = 3 from rfl, Nat.mul_one, Nat.add_zero] at hx37_2); have hf37_2 := hfr37 2; (try simp only [show (k107).sz = 3 from rfl, Nat.mul_one, Nat.add_zero] at hf37_2); clear hcl37 hcc37 hfr37 hM37) | ((with_reducible refine gate_store (t := 3) (p := 68) rfl ?_); refine store_event (t := 3) (p := 68) (v := ?vo_w38) (w1 := (w36.setCell ⟨go29, ((ji9) : Int).toNat * 3 + 2, none⟩ (.int .i64 (wrap64 (x5_1 + t132))))) ?hg ?ho ?hn ?hr ?_; (case ho => rfl); (case hg => rfl); (case hn => rfl); (case hr => first | (go_simp; done) | (go_simp; rfl)); intro w38 hw; have hg : w36.grownBy w38 (some go29) := (by rw [hw]; exact HP37.2); have hp_ : Kd.R k107 107 w38 w.heap.size (fun _ => True) (.slice (some ⟨go29, 0, none⟩) x3_1.length co34) y144 := (by rw [hw, Ny144.out]; exact HP37.1); clear HP37; have n0_ := Aside0.mk (hp_); have n1_ := Aside0.mk ((by rw [hw]; exact below_set (HB.out) GB29.out : Below w.heap.size w w38)); clear HO_3; clear HB; have HO_3 := n0_; have HB := n1_; clear n0_ n1_; clear hg hw hp_))
                        go_roundg k1
                        case measure => have := HK1.out; omega
                        case rel => exact ⟨(y144), (true), (wrap64 (x5_1 + t132)), (by first | rfl | (simp; done) | (simp [*]; done)), (by first | rfl | (simp; done) | (simp [*]; done)), H', ⟨by have := HK1.out; omega⟩, ⟨by (with_reducible repeat (first | apply Kd.R_alloc | apply Kd.R_drewN | apply Kd.R_drew)); exact HO_3.out⟩, ⟨by repeat (first | (with_reducible first | exact HB.out | apply below_alloc | apply pw_below_drewN | apply below_drew1) | exact HB.out)⟩⟩
                      · rw [if_neg c30] at H
                        exact absurd H (by simp)
                  · rw [if_neg c11] at H
                    exact absurd H (by simp)
                · rw [if_neg c10] at H
                  exact absurd H (by simp)
              · replace c8 := Bool.eq_false_iff.mpr c8
                subst c8
                have H1 : (if x3_1.length < 4398046511104 then ((some (x3_1 ++ [(⟨(⟨#[]⟩ : ByteArray), x5_1, 0⟩ : S107)] : List (S107))).bind fun y145 => (if 0 ≤ (wrap64 ((y145.length : Int) - 1)) then (if (wrap64 ((y145.length : Int) - 1)) < (y145.length : Int) then (if ((rd_T107 y145 (wrap64 ((y145.length : Int) - 1))).f0).size + (Utf8.encode t133).size ≤ 9223372036854775807 then ((some (y145.set ((wrap64 ((y145.length : Int) - 1)) : Int).toNat (⟨((rd_T107 y145 (wrap64 ((y145.length : Int) - 1))).f0) ++ (Utf8.encode t133), (rd_T107 y145 (wrap64 ((y145.length : Int) - 1))).f1, (rd_T107 y145 (wrap64 ((y145.length : Int) - 1))).f2⟩ : S107) : List (S107))).bind fun y149 => (words_Words.l0 k1 a0 (y149.set ((wrap64 ((y145.length : Int) - 1)) : Int).toNat (⟨(rd_T107 y149 (wrap64 ((y145.length : Int) - 1))).f0, (rd_T107 y149 (wrap64 ((y145.length : Int) - 1))).f1, wrap64 (x5_1 + t132)⟩ : S107)) true (wrap64 (x5_1 + t132)))) else (none)) else (none)) else (none))) else (none)) = some r := by rw [if_neg (show ¬ (false = true) by decide)] at H; exact H
                clear H
                have H := H1
                clear H1
                by_cases c39 : x3_1.length < 4398046511104
                · rw [if_pos c39] at H
                  have LMc39 := Aside0.mk c39
                  clear c39
                  obtain ⟨y145, hy145⟩ : ∃ y_ : List (S107), y_ = (x3_1 ++ [(⟨(⟨#[]⟩ : ByteArray), x5_1, 0⟩ : S107)]) := ⟨_, rfl⟩
                  replace H : (if 0 ≤ (wrap64 ((y145.length : Int) - 1)) then (if (wrap64 ((y145.length : Int) - 1)) < (y145.length : Int) then (if ((rd_T107 y145 (wrap64 ((y145.length : Int) - 1))).f0).size + (Utf8.encode t133).size ≤ 9223372036854775807 then ((some (y145.set ((wrap64 ((y145.length : Int) - 1)) : Int).toNat (⟨((rd_T107 y145 (wrap64 ((y145.length : Int) - 1))).f0) ++ (Utf8.encode t133), (rd_T107 y145 (wrap64 ((y145.length : Int) - 1))).f1, (rd_T107 y145 (wrap64 ((y145.length : Int) - 1))).f2⟩ : S107) : List (S107))).bind fun y149 => (words_Words.l0 k1 a0 (y149.set ((wrap64 ((y145.length : Int) - 1)) : Int).toNat (⟨(rd_T107 y149 (wrap64 ((y145.length : Int) - 1))).f0, (rd_T107 y149 (wrap64 ((y145.length : Int) - 1))).f1, wrap64 (x5_1 + t132)⟩ : S107)) true (wrap64 (x5_1 + t132)))) else (none)) else (none)) else (none)) = some r := by first | (rw [hy145]; with_reducible exact H) | (have H2_ := (Option.bind_some _ _).symm.trans H; rw [hy145]; with_reducible exact H2_) | (have H2_ := (Option.bind_some _ _).symm.trans H; with_reducible exact H2_) | with_reducible exact H | (rw [hy145]; exact H) | exact H
                  have Ny145 := Aside0.mk hy145
                  clear hy145
                  obtain ⟨ji40, hji40⟩ : ∃ j_ : Int, (wrap64 ((y145.length : Int) - 1)) = j_ := ⟨_, rfl⟩
                  replace H : (if 0 ≤ (ji40) then (if (ji40) < (y145.length : Int) then (if ((rd_T107 y145 (ji40)).f0).size + (Utf8.encode t133).size ≤ 9223372036854775807 then ((some (y145.set ((ji40) : Int).toNat (⟨((rd_T107 y145 (ji40)).f0) ++ (Utf8.encode t133), (rd_T107 y145 (ji40)).f1, (rd_T107 y145 (ji40)).f2⟩ : S107) : List (S107))).bind fun y149 => (words_Words.l0 k1 a0 (y149.set ((ji40) : Int).toNat (⟨(rd_T107 y149 (ji40)).f0, (rd_T107 y149 (ji40)).f1, wrap64 (x5_1 + t132)⟩ : S107)) true (wrap64 (x5_1 + t132)))) else (none)) else (none)) else (none)) = some r := by first | (rw [hji40] at H; exact H) | (simp only [hji40] at H ⊢; exact H)
                  (try rw [hji40] at A5)
                  (try rw [hji40] at A6)
                  have hji40w : (IntKind.i64.wrap ((y145.length : Int) - 1)) = ji40 := (i64_w _).trans hji40
                  by_cases c41 : 0 ≤ (ji40)
                  · rw [if_pos c41] at H
                    have c41b0 : decide (0 ≤ (ji40)) = true := decide_eq_true c41
                    clear c41
                    by_cases c42 : (ji40) < (y145.length : Int)
                    · rw [if_pos c42] at H
                      have c42b0 : decide ((ji40) < (y145.length : Int)) = true := decide_eq_true c42
                      clear c42
                      by_cases c44 : ((rd_T107 y145 (ji40)).f0).size + (Utf8.encode t133).size ≤ 9223372036854775807
                      · rw [if_pos c44] at H
                        have c44b0 := eq_true c44
                        have c44b1 : decide (((rd_T107 y145 (ji40)).f0).size + (Utf8.encode t133).size ≤ 9223372036854775807) = true := decide_eq_true c44
                        try have c44b2 : (9223372036854775807 < ((rd_T107 y145 (ji40)).f0).size + (Utf8.encode t133).size) = False := eq_false (Nat.not_lt.2 c44)
                        obtain ⟨y149, hy149⟩ : ∃ y_ : List (S107), y_ = (y145.set ((ji40) : Int).toNat (⟨((rd_T107 y145 (ji40)).f0) ++ (Utf8.encode t133), (rd_T107 y145 (ji40)).f1, (rd_T107 y145 (ji40)).f2⟩ : S107)) := ⟨_, rfl⟩
                        replace H : (words_Words.l0 k1 a0 (y149.set ((ji40) : Int).toNat (⟨(rd_T107 y149 (ji40)).f0, (rd_T107 y149 (ji40)).f1, wrap64 (x5_1 + t132)⟩ : S107)) true (wrap64 (x5_1 + t132))) = some r := by first | (rw [hy149]; with_reducible exact H) | (have H2_ := (Option.bind_some _ _).symm.trans H; rw [hy149]; with_reducible exact H2_) | (have H2_ := (Option.bind_some _ _).symm.trans H; with_reducible exact H2_) | with_reducible exact H | (rw [hy149]; exact H) | exact H
                        have Ny149 := Aside0.mk hy149
                        clear hy149
                        obtain ⟨y150, hy150⟩ : ∃ y_ : List (S107), y_ = (y149.set ((ji40) : Int).toNat (⟨(rd_T107 y149 (ji40)).f0, (rd_T107 y149 (ji40)).f1, wrap64 (x5_1 + t132)⟩ : S107)) := ⟨_, rfl⟩
                        replace H : (words_Words.l0 k1 a0 y150 true (wrap64 (x5_1 + t132))) = some r := by first | (rw [hy150]; with_reducible exact H) | (have H2_ := (Option.bind_some _ _).symm.trans H; rw [hy150]; with_reducible exact H2_) | (have H2_ := (Option.bind_some _ _).symm.trans H; with_reducible exact H2_) | with_reducible exact H | (rw [hy150]; exact H) | exact H
                        have Ny150 := Aside0.mk hy150
                        clear hy150
                        have H' := Aside0.mk H
                        clear H
                        go_wp2_with (first | ((with_reducible refine gate_callee (f := 33) rfl ?_); refine goesL_ (some 19) rfl rfl Tryd.func33 (by kernel_rfl) rfl #[.string (a0.extract (x5_1 : Int).toNat a0.size)] rfl (by (try simp only [List.map_toArray, List.map_cons, List.map_nil]); first | done | rfl | (simp only [List.length_drop, List.length_take]; rfl)) ?_; (with_reducible refine (utf8_DecodeRuneInString.calls (a0.extract (x5_1 : Int).toNat a0.size) t131 t132 _ ?side1 A5.out).mono ?_); (case side1 => first | exact HT.out | exact tabs_below HT.out (by repeat (first | (with_reducible first | exact HB.out | apply below_alloc | apply pw_below_drewN | apply below_drew1) | exact HB.out))); rintro e w47 ⟨rfl, hb⟩; refine ⟨_, rfl, ?_⟩; have n0_ := Aside0.mk (Kd.R_below (by (with_reducible repeat (first | apply Kd.R_alloc | apply Kd.R_drewN | apply Kd.R_drew)); exact HO_3.out) hb); have n1_ := Aside0.mk (below_step (by repeat (first | (with_reducible first | exact HB.out | apply below_alloc | apply pw_below_drewN | apply below_drew1) | exact HB.out)) hb); clear HO_3; clear HB; have HO_3 := n0_; have HB := n1_; clear n0_ n1_; (try clear hb); (try clear hb2); (try clear hk); (try clear hi)) | ((with_reducible refine gate_callee (f := 75) rfl ?_); refine goesL_ (some 25) rfl rfl Tryd.func75 (by kernel_rfl) rfl #[.int .i32 t131, .int .i64 t132] rfl (by (try simp only [List.map_toArray, List.map_cons, List.map_nil]); first | done | rfl | (simp only [List.length_drop, List.length_take]; rfl)) ?_; (with_reducible refine (words_letter.calls k1 t131 t132 t133 true _ A6.out).mono ?_); rintro e w' ⟨rfl, ⟨nd, rfl⟩⟩; refine ⟨_, rfl, ?_⟩; (try (rw [drewN_self w47]; generalize hq_ : World.drewN w47 _ = w47; have n0_ : Aside0 (Kd.R k107 107 w47 w.heap.size (fun _ => True) u3 x3_1) := ⟨by rw [← hq_]; exact (by (with_reducible repeat (first | apply Kd.R_alloc | apply Kd.R_drewN | apply Kd.R_drew)); exact HO_3.out)⟩; have n1_ : Aside0 (Below w.heap.size w w47) := ⟨by rw [← hq_]; exact (by repeat (first | (with_reducible first | exact HB.out | apply below_alloc | apply pw_below_drewN | apply below_drew1) | exact HB.out))⟩; clear HO_3 HB hq_; have HO_3 := n0_; have HB := n1_; clear n0_ n1_))) | ((with_reducible refine gate_builtin (b := .append) (xs := #[.tmp 44, .tmp 47]) rfl ?_); (try (refine gate_guard (by rfl) ?_; dsimp only)); at_builtin; refine Kd.R_append k107 (w0 := w) w.heap.size rfl (.tmp 44) (.tmp 47) 105 107 (.agg #[(.string ⟨#[]⟩), (.int .i64 0), (.int .i64 0)]) 32 rfl Tryd.underlying105 info107 rfl (by decide) (by omega) u3 x3_1 (⟨(⟨#[]⟩ : ByteArray), x5_1, 0⟩ : S107) [.string (⟨#[]⟩ : ByteArray), .int .i64 x5_1, .int .i64 0] (fun _ => True) (fun _ => False) rfl rfl ?aP (fun _ hk => hk.elim) ?aF ?aO ?aB ?aS ?aL ?_; (case aP => exact k107_mkM _ _ _ (⟨(⟨#[]⟩ : ByteArray), x5_1, 0⟩ : S107)); (case aB => exact (by repeat (first | (with_reducible first | exact HB.out | apply below_alloc | apply pw_below_drewN | apply below_drew1) | exact HB.out))); (case aF => exact (fun _ _ => trivial)); (case aO => exact (by (with_reducible repeat (first | apply Kd.R_alloc | apply Kd.R_drewN | apply Kd.R_drew)); exact HO_3.out)); (case aS => exact (below_size (by repeat (first | (with_reducible first | exact HB.out | apply below_alloc | apply pw_below_drewN | apply below_drew1) | exact HB.out)))); (case aL => have := LMc39.out; omega); intro v146 w48 ho hb hg hat; rw [← Ny145.out] at ho; have n0_ := Aside0.mk (hb); have n1_ := Aside0.mk (ho); clear HB; clear HO_3; have HB := n0_; have HO147 := n1_; clear n0_ n1_; clear ho hb hg hat; obtain ⟨Ao49, co49, eo49⟩ := Kd.R_slice HO147.out; subst eo49; have p43 : 0 ≤ ((ji40) : Int) := of_decide_eq_true (by first | (with_reducible assumption) | assumption); have q43 : ((ji40) : Int) < ((y145.length : Int) : Int) := of_decide_eq_true (by first | (with_reducible assumption) | assumption); obtain ⟨go43, co43, eo43, gb43, gl43, cl43, HG43⟩ := Kd.R_form HO147.out (by omega); (first | cases eo43 | (injection eo43 with ea_ en_ ec_; (first | subst ea_ | (injection ea_ with ea_; subst ea_)); subst ec_; clear en_)); have GB43 := Aside0.mk gb43; have GG43 := Aside0.mk HG43; clear gb43 gl43 HG43; obtain ⟨ce43, hcl43, hM43, hcc43, hfr43⟩ := Kd.R_elem HO147.out z107 ((ji40) : Int) p43 q43; obtain rfl := k107_openM hM43; have hx43_0 : w48.cell? ⟨go43, ((ji40) : Int).toNat * 3, none⟩ = some (.string ((rd_T107 y145 (ji40)).f0)) := hcc43 0 _ rfl; have hx43_1 : w48.cell? ⟨go43, ((ji40) : Int).toNat * 3 + 1, none⟩ = some (.int .i64 ((rd_T107 y145 (ji40)).f1)) := hcc43 1 _ rfl; have hx43_2 : w48.cell? ⟨go43, ((ji40) : Int).toNat * 3 + 2, none⟩ = some (.int .i64 ((rd_T107 y145 (ji40)).f2)) := hcc43 2 _ rfl; have hf43_0 : w48.frozen? ⟨go43, ((ji40) : Int).toNat * 3, none⟩ = false := hfr43 0; have hf43_1 : w48.frozen? ⟨go43, ((ji40) : Int).toNat * 3 + 1, none⟩ = false := hfr43 1; have hf43_2 : w48.frozen? ⟨go43, ((ji40) : Int).toNat * 3 + 2, none⟩ = false := hfr43 2; clear hcl43 hcc43 hfr43 hM43; replace p43 := eq_true p43; replace q43 := eq_true q43; have p148 : 0 ≤ ((ji40) : Int) := of_decide_eq_true (by first | (with_reducible assumption) | assumption); have q148 : (ji40) < (y145.length : Int) := of_decide_eq_true (by first | (with_reducible assumption) | assumption); obtain ⟨ad148, e148, hx148_0, hx148_1, hx148_2⟩ := at_T107 (Kd.R_reads' HO147.out).2.2 (ji40) p148 q148; obtain rfl : (⟨go43, 0, none⟩ : Addr) = ad148 := (by injection e148); (first | simp only [add_plain] at hx148_0 | simp only [add_at] at hx148_0 | simp only [Addr.add, Nat.zero_add] at hx148_0 | skip); (first | simp only [add_plain] at hx148_1 | simp only [add_at] at hx148_1 | simp only [Addr.add, Nat.zero_add] at hx148_1 | skip); (first | simp only [add_plain] at hx148_2 | simp only [add_at] at hx148_2 | simp only [Addr.add, Nat.zero_add] at hx148_2 | skip); replace p148 := eq_true p148; replace q148 := eq_true q148; have p45 : 0 ≤ ((ji40) : Int) := of_decide_eq_true (by first | (with_reducible assumption) | assumption); have q45 : ((ji40) : Int) < ((y145.length : Int) : Int) := of_decide_eq_true (by first | (with_reducible assumption) | assumption); obtain ⟨ce45, hcl45, hM45, hcc45, hfr45⟩ := Kd.R_elem HO147.out z107 ((ji40) : Int) p45 q45; obtain rfl := k107_openM hM45; have hx45_0 : w48.cell? ⟨go43, ((ji40) : Int).toNat * 3, none⟩ = some (.string ((rd_T107 y145 (ji40)).f0)) := hcc45 0 _ rfl; have hx45_1 : w48.cell? ⟨go43, ((ji40) : Int).toNat * 3 + 1, none⟩ = some (.int .i64 ((rd_T107 y145 (ji40)).f1)) := hcc45 1 _ rfl; have hx45_2 : w48.cell? ⟨go43, ((ji40) : Int).toNat * 3 + 2, none⟩ = some (.int .i64 ((rd_T107 y145 (ji40)).f2)) := hcc45 2 _ rfl; have hf45_0 : w48.frozen? ⟨go43, ((ji40) : Int).toNat * 3, none⟩ = false := hfr45 0; have hf45_1 : w48.frozen? ⟨go43, ((ji40) : Int).toNat * 3 + 1, none⟩ = false := hfr45 1; have hf45_2 : w48.frozen? ⟨go43, ((ji40) : Int).toNat * 3 + 2, none⟩ = false := hfr45 2; clear hcl45 hcc45 hfr45 hM45; replace p45 := eq_true p45; replace q45 := eq_true q45; have HX50 := Aside0.mk (show Kd.R k107 107 w48 w.heap.size (fun _ => True) (.slice (some ⟨go43, 0, none⟩) y145.length co49) y145 from (by (with_reducible repeat (first | apply Kd.R_alloc | apply Kd.R_drewN | apply Kd.R_drew)); exact HO147.out)); obtain ⟨ce50, hcl50, hM50, hcc50, hfr50⟩ := Kd.R_elem HX50.out z107 ((ji40) : Int) (of_decide_eq_true (by first | (with_reducible assumption) | assumption)) (by have h_ : ((ji40) : Int) < ((y145.length : Int) : Int) := of_decide_eq_true (by first | (with_reducible assumption) | assumption); first | exact h_ | (have e_ := (Kd.R_reads' HO147.out).1; omega) | simpa using h_); obtain rfl := k107_openM hM50; have HP50 := Kd.R_seg HX50.out ((ji40) : Int) (of_decide_eq_true (by first | (with_reducible assumption) | assumption)) (by have h_ : ((ji40) : Int) < ((y145.length : Int) : Int) := of_decide_eq_true (by first | (with_reducible assumption) | assumption); first | exact h_ | (have e_ := (Kd.R_reads' HO147.out).1; omega) | simpa using h_) (seg := [.string (((rd_T107 y145 (ji40)).f0) ++ (Utf8.encode t133))]) (j := 0) hcl50 hcc50 (show 1 ≤ 3 from by decide) (x' := (⟨((rd_T107 y145 (ji40)).f0) ++ (Utf8.encode t133), (rd_T107 y145 (ji40)).f1, (rd_T107 y145 (ji40)).f2⟩ : S107)) (k107_mkM _ _ _ (⟨((rd_T107 y145 (ji40)).f0) ++ (Utf8.encode t133), (rd_T107 y145 (ji40)).f1, (rd_T107 y145 (ji40)).f2⟩ : S107) ) (fun _ hk => hk); have hx50_0 := hcc50 0 _ rfl; (try simp only [show (k107).sz = 3 from rfl, Nat.mul_one, Nat.add_zero] at hx50_0); have hf50_0 := hfr50 0; (try simp only [show (k107).sz = 3 from rfl, Nat.mul_one, Nat.add_zero] at hf50_0); clear hcl50 hcc50 hfr50 hM50) | ((with_reducible refine gate_store (t := 9) (p := 62) rfl ?_); refine store_event (t := 9) (p := 62) (v := ?vo_w51) (w1 := (w48.setCell ⟨go43, ((ji40) : Int).toNat * 3, none⟩ (.string (((rd_T107 y145 (ji40)).f0) ++ (Utf8.encode t133))))) ?hg ?ho ?hn ?hr ?_; (case ho => rfl); (case hg => rfl); (case hn => rfl); (case hr => first | (go_simp; done) | (go_simp; rfl)); intro w51 hw; have hg : w48.grownBy w51 (some go43) := (by rw [hw]; exact HP50.2); have hp_ : Kd.R k107 107 w51 w.heap.size (fun _ => True) (.slice (some ⟨go43, 0, none⟩) y145.length co49) y149 := (by rw [hw, Ny149.out]; exact HP50.1); clear HP50; have n0_ := Aside0.mk (hp_); have n1_ := Aside0.mk ((by rw [hw]; exact below_set (HB.out) GB43.out : Below w.heap.size w w51)); clear HO147; clear HB; have HO147 := n0_; have HB := n1_; clear n0_ n1_; clear hg hw hp_; have p46 : 0 ≤ ((ji40) : Int) := of_decide_eq_true (by first | (with_reducible assumption) | assumption); have q46 : ((ji40) : Int) < ((y145.length : Int) : Int) := of_decide_eq_true (by first | (with_reducible assumption) | assumption); obtain ⟨ce46, hcl46, hM46, hcc46, hfr46⟩ := Kd.R_elem HO147.out z107 ((ji40) : Int) p46 q46; obtain rfl := k107_openM hM46; have hx46_0 : w51.cell? ⟨go43, ((ji40) : Int).toNat * 3, none⟩ = some (.string ((rd_T107 y149 (ji40)).f0)) := hcc46 0 _ rfl; have hx46_1 : w51.cell? ⟨go43, ((ji40) : Int).toNat * 3 + 1, none⟩ = some (.int .i64 ((rd_T107 y149 (ji40)).f1)) := hcc46 1 _ rfl; have hx46_2 : w51.cell? ⟨go43, ((ji40) : Int).toNat * 3 + 2, none⟩ = some (.int .i64 ((rd_T107 y149 (ji40)).f2)) := hcc46 2 _ rfl; have hf46_0 : w51.frozen? ⟨go43, ((ji40) : Int).toNat * 3, none⟩ = false := hfr46 0; have hf46_1 : w51.frozen? ⟨go43, ((ji40) : Int).toNat * 3 + 1, none⟩ = false := hfr46 1; have hf46_2 : w51.frozen? ⟨go43, ((ji40) : Int).toNat * 3 + 2, none⟩ = false := hfr46 2; clear hcl46 hcc46 hfr46 hM46; replace p46 := eq_true p46; replace q46 := eq_true q46; have HX52 := Aside0.mk (show Kd.R k107 107 w51 w.heap.size (fun _ => True) (.slice (some ⟨go43, 0, none⟩) y145.length co49) y149 from (by (with_reducible repeat (first | apply Kd.R_alloc | apply Kd.R_drewN | apply Kd.R_drew)); exact HO147.out)); obtain ⟨ce52, hcl52, hM52, hcc52, hfr52⟩ := Kd.R_elem HX52.out z107 ((ji40) : Int) (of_decide_eq_true (by first | (with_reducible assumption) | assumption)) (by have h_ : ((ji40) : Int) < ((y145.length : Int) : Int) := of_decide_eq_true (by first | (with_reducible assumption) | assumption); first | exact h_ | (have e_ := (Kd.R_reads' HO147.out).1; omega) | simpa using h_); obtain rfl := k107_openM hM52; have HP52 := Kd.R_seg HX52.out ((ji40) : Int) (of_decide_eq_true (by first | (with_reducible assumption) | assumption)) (by have h_ : ((ji40) : Int) < ((y145.length : Int) : Int) := of_decide_eq_true (by first | (with_reducible assumption) | assumption); first | exact h_ | (have e_ := (Kd.R_reads' HO147.out).1; omega) | simpa using h_) (seg := [.int .i64 (wrap64 (x5_1 + t132))]) (j := 2) hcl52 hcc52 (show 3 ≤ 3 from by decide) (x' := (⟨(rd_T107 y149 (ji40)).f0, (rd_T107 y149 (ji40)).f1, wrap64 (x5_1 + t132)⟩ : S107)) (k107_mkM _ _ _ (⟨(rd_T107 y149 (ji40)).f0, (rd_T107 y149 (ji40)).f1, wrap64 (x5_1 + t132)⟩ : S107) ) (fun _ hk => hk); have hx52_2 := hcc52 2 _ rfl; (try simp only [show (k107).sz = 3 from rfl, Nat.mul_one, Nat.add_zero] at hx52_2); have hf52_2 := hfr52 2; (try simp only [show (k107).sz = 3 from rfl, Nat.mul_one, Nat.add_zero] at hf52_2); clear hcl52 hcc52 hfr52 hM52) | ((with_reducible refine gate_store (t := 3) (p := 68) rfl ?_); refine store_event (t := 3) (p := 68) (v := ?vo_w53) (w1 := (w51.setCell ⟨go43, ((ji40) : Int).toNat * 3 + 2, none⟩ (.int .i64 (wrap64 (x5_1 + t132))))) ?hg ?ho ?hn ?hr ?_; (case ho => rfl); (case hg => rfl); (case hn => rfl); (case hr => first | (go_simp; done) | (go_simp; rfl)); intro w53 hw; have hg : w51.grownBy w53 (some go43) := (by rw [hw]; exact HP52.2); have hp_ : Kd.R k107 107 w53 w.heap.size (fun _ => True) (.slice (some ⟨go43, 0, none⟩) y145.length co49) y150 := (by rw [hw, Ny150.out]; exact HP52.1); clear HP52; have n0_ := Aside0.mk (hp_); have n1_ := Aside0.mk ((by rw [hw]; exact below_set (HB.out) GB43.out : Below w.heap.size w w53)); clear HO147; clear HB; have HO147 := n0_; have HB := n1_; clear n0_ n1_; clear hg hw hp_))
                        go_roundg k1
                        case measure => have := HK1.out; omega
                        case rel => exact ⟨(y150), (true), (wrap64 (x5_1 + t132)), (by first | rfl | (simp; done) | (simp [*]; done)), (by first | rfl | (simp; done) | (simp [*]; done)), H', ⟨by have := HK1.out; omega⟩, ⟨by (with_reducible repeat (first | apply Kd.R_alloc | apply Kd.R_drewN | apply Kd.R_drew)); exact HO147.out⟩, ⟨by repeat (first | (with_reducible first | exact HB.out | apply below_alloc | apply pw_below_drewN | apply below_drew1) | exact HB.out)⟩⟩
                      · rw [if_neg c44] at H
                        exact absurd H (by simp)
                    · rw [if_neg c42] at H
                      exact absurd H (by simp)
                  · rw [if_neg c41] at H
                    exact absurd H (by simp)
                · rw [if_neg c39] at H
                  exact absurd H (by simp)
            · replace c7 := Bool.eq_false_iff.mpr c7
              subst c7
              have H1 : (words_Words.l0 k1 a0 x3_1 false (wrap64 (x5_1 + t132))) = some r := by rw [if_neg (show ¬ (false = true) by decide)] at H; exact H
              clear H
              have H := H1
              clear H1
              have H' := Aside0.mk H
              clear H
              go_wp2_with (first | ((with_reducible refine gate_callee (f := 33) rfl ?_); refine goesL_ (some 19) rfl rfl Tryd.func33 (by kernel_rfl) rfl #[.string (a0.extract (x5_1 : Int).toNat a0.size)] rfl (by (try simp only [List.map_toArray, List.map_cons, List.map_nil]); first | done | rfl | (simp only [List.length_drop, List.length_take]; rfl)) ?_; (with_reducible refine (utf8_DecodeRuneInString.calls (a0.extract (x5_1 : Int).toNat a0.size) t131 t132 _ ?side1 A5.out).mono ?_); (case side1 => first | exact HT.out | exact tabs_below HT.out (by repeat (first | (with_reducible first | exact HB.out | apply below_alloc | apply pw_below_drewN | apply below_drew1) | exact HB.out))); rintro e w54 ⟨rfl, hb⟩; refine ⟨_, rfl, ?_⟩; have n0_ := Aside0.mk (Kd.R_below (by (with_reducible repeat (first | apply Kd.R_alloc | apply Kd.R_drewN | apply Kd.R_drew)); exact HO_3.out) hb); have n1_ := Aside0.mk (below_step (by repeat (first | (with_reducible first | exact HB.out | apply below_alloc | apply pw_below_drewN | apply below_drew1) | exact HB.out)) hb); clear HO_3; clear HB; have HO_3 := n0_; have HB := n1_; clear n0_ n1_; (try clear hb); (try clear hb2); (try clear hk); (try clear hi)) | ((with_reducible refine gate_callee (f := 75) rfl ?_); refine goesL_ (some 25) rfl rfl Tryd.func75 (by kernel_rfl) rfl #[.int .i32 t131, .int .i64 t132] rfl (by (try simp only [List.map_toArray, List.map_cons, List.map_nil]); first | done | rfl | (simp only [List.length_drop, List.length_take]; rfl)) ?_; (with_reducible refine (words_letter.calls k1 t131 t132 t133 false _ A6.out).mono ?_); rintro e w' ⟨rfl, ⟨nd, rfl⟩⟩; refine ⟨_, rfl, ?_⟩))
              go_roundg k1
              case measure => have := HK1.out; omega
              case rel => exact ⟨(x3_1), (false), (wrap64 (x5_1 + t132)), (by first | rfl | (simp; done) | (simp [*]; done)), (by first | rfl | (simp; done) | (simp [*]; done)), H', ⟨by have := HK1.out; omega⟩, ⟨by (with_reducible repeat (first | apply Kd.R_alloc | apply Kd.R_drewN | apply Kd.R_drew)); exact HO_3.out⟩, ⟨by repeat (first | (with_reducible first | exact HB.out | apply below_alloc | apply pw_below_drewN | apply below_drew1) | exact HB.out)⟩⟩
          · rw [if_neg c4] at H
            exact absurd H (by simp)
        · rw [if_neg c3] at H
          exact absurd H (by simp)
      · rw [if_neg c2] at H
        have c2b0 : decide (x5_1 < (a0.size : Int)) = false := decide_eq_false c2
        clear c2
        obtain rfl := Option.some.inj H
        go_wp2
        go_ret
        exact ⟨_, by first | rfl | (simp [errW_none, errW_some] <;> rfl) | (simp [*, errW_none, errW_some] <;> rfl), by (with_reducible repeat (first | apply Kd.R_alloc | apply Kd.R_drewN | apply Kd.R_drew)); exact HO_3.out, by repeat (first | (with_reducible first | exact HB.out | apply below_alloc | apply pw_below_drewN | apply below_drew1) | exact HB.out)⟩

/-! ### words_One: function 56 -/
def words_One.f (k : Nat) (a0 : ByteArray) : Option (Bool) := (words_Words.f k a0).bind fun t151 => (if (t151.length : Int) = 1 then (if 0 < (t151.length : Int) then (some (((rd_T107 t151 0).f0).toList == a0.toList)) else (none)) else (some false))
theorem words_One.mono : ∀ a0 k, LeO (words_One.f k a0) (words_One.f (k + 1) a0) := by
  intro a0 k
  unfold words_One.f
  repeat' first
      | (with_reducible exact words_Words.mono _ _)
      | (with_reducible exact LeO.refl _)
      | (with_reducible exact LeO.none _)
      | (with_reducible refine LeO.ite ?_ ?_)
      | (with_reducible refine LeO.bind ?_ (fun _ => ?_))
      | exact words_Words.mono _ _
      | exact LeO.none _
      | refine LeO.ite ?_ ?_
      | refine LeO.bind ?_ (fun _ => ?_)
set_option maxHeartbeats 8000000 in
set_option maxRecDepth 100000 in
theorem words_One.calls (k : Nat) (a0 : ByteArray) (r : Bool) (w : World) (hT : tabs w) (h : words_One.f k a0 = some r) :
    Calls Tryd.prog 56 #[.string a0] w fun e w' => e = .returned (.bool r) ∧ Below w.heap.size w w' := by
  have HT := Aside0.mk hT
  clear hT
  have HB := Aside0.mk (Below.refl w.heap.size w)
  have H : ((words_Words.f k a0).bind fun t151 => (if (t151.length : Int) = 1 then (if 0 < (t151.length : Int) then (some (((rd_T107 t151 0).f0).toList == a0.toList)) else (none)) else (some false))) = some r := h
  clear h
  replace H := Option.bind_eq_some_iff.mp H
  obtain ⟨t151, A20, H⟩ := H
  replace H : (if (t151.length : Int) = 1 then (if 0 < (t151.length : Int) then (some (((rd_T107 t151 0).f0).toList == a0.toList)) else (none)) else (some false)) = some r := H
  have A2 := Aside0.mk A20
  clear A20
  by_cases c3 : (t151.length : Int) = 1
  · rw [if_pos c3] at H
    have c3b0 : ((t151.length : Int) == 1) = true := beq_iff_eq.mpr c3
    have c3b1 : ((t151.length : Int) != 1) = false := bne_eq_false_iff_eq.mpr c3
    clear c3
    by_cases c4 : 0 < (t151.length : Int)
    · rw [if_pos c4] at H
      have c4b0 : decide (0 < (t151.length : Int)) = true := decide_eq_true c4
      have c4b1 : decide (0 < t151.length) = true := decide_eq_true (by omega)
      clear c4
      obtain rfl := Option.some.inj H
      go_enter Tryd.func56, Tryd.ntmps56
      go_wp2_with (first | ((with_reducible refine gate_callee (f := 69) rfl ?_); refine goesL_ (some 5) rfl rfl Tryd.func69 (by kernel_rfl) rfl #[.string a0] rfl (by (try simp only [List.map_toArray, List.map_cons, List.map_nil]); first | done | rfl | (simp only [List.length_drop, List.length_take]; rfl)) ?_; (with_reducible refine (words_Words.calls k a0 t151 _ ?side1 A2.out).mono ?_); (case side1 => first | exact HT.out | exact tabs_below HT.out (by repeat (first | (with_reducible first | exact HB.out | apply below_alloc | apply pw_below_drewN | apply below_drew1) | exact HB.out))); rintro e w5 ⟨v152, rfl, ho0, hb⟩; refine ⟨_, rfl, ?_⟩; have n0_ := Aside0.mk (Kd.R_lower ho0 (below_size (by repeat (first | (with_reducible first | exact HB.out | apply below_alloc | apply pw_below_drewN | apply below_drew1) | exact HB.out)))); have n1_ := Aside0.mk (below_step (by repeat (first | (with_reducible first | exact HB.out | apply below_alloc | apply pw_below_drewN | apply below_drew1) | exact HB.out)) hb); clear HB; have HO153 := n0_; have HB := n1_; clear n0_ n1_; (try clear hb); (try clear hb2); (try clear hk); (try clear hi); (try clear ho0); obtain ⟨Ao6, co6, eo6⟩ := Kd.R_slice HO153.out; subst eo6; have p154 : 0 ≤ (0 : Int) := (by omega); have q154 : 0 < (t151.length : Int) := of_decide_eq_true (by first | (with_reducible assumption) | assumption); obtain ⟨ad154, e154, hx154_0, hx154_1, hx154_2⟩ := at_T107 (Kd.R_reads' HO153.out).2.2 0 p154 q154; cases e154; have qi154 : (0 < t151.length) = True := eq_true (by omega); (try rw [show ((0 : Int)).toNat = 0 from rfl] at hx154_0); (try rw [show 0 * 3 = 0 from rfl] at hx154_0); (try rw [Addr.add_zero'] at hx154_0); (try rw [show ((0 : Int)).toNat = 0 from rfl] at hx154_1); (try rw [show 0 * 3 = 0 from rfl] at hx154_1); (try rw [Addr.add_zero'] at hx154_1); (try rw [show ((0 : Int)).toNat = 0 from rfl] at hx154_2); (try rw [show 0 * 3 = 0 from rfl] at hx154_2); (try rw [Addr.add_zero'] at hx154_2); replace p154 := eq_true p154; replace q154 := eq_true q154))
      go_ret
      exact ⟨by first | rfl | (simp [errW_none, errW_some] <;> rfl) | (simp [*, errW_none, errW_some] <;> rfl), by repeat (first | (with_reducible first | exact HB.out | apply below_alloc | apply pw_below_drewN | apply below_drew1) | exact HB.out)⟩
    · rw [if_neg c4] at H
      exact absurd H (by simp)
  · rw [if_neg c3] at H
    have c3b0 : ((t151.length : Int) == 1) = false := beq_eq_false_iff_ne.mpr c3
    have c3b1 : ((t151.length : Int) != 1) = true := bne_iff_ne.mpr c3
    obtain rfl := Option.some.inj H
    go_enter Tryd.func56, Tryd.ntmps56
    go_wp2_with (first | ((with_reducible refine gate_callee (f := 69) rfl ?_); refine goesL_ (some 5) rfl rfl Tryd.func69 (by kernel_rfl) rfl #[.string a0] rfl (by (try simp only [List.map_toArray, List.map_cons, List.map_nil]); first | done | rfl | (simp only [List.length_drop, List.length_take]; rfl)) ?_; (with_reducible refine (words_Words.calls k a0 t151 _ ?side1 A2.out).mono ?_); (case side1 => first | exact HT.out | exact tabs_below HT.out (by repeat (first | (with_reducible first | exact HB.out | apply below_alloc | apply pw_below_drewN | apply below_drew1) | exact HB.out))); rintro e w7 ⟨v152, rfl, ho0, hb⟩; refine ⟨_, rfl, ?_⟩; have n0_ := Aside0.mk (Kd.R_lower ho0 (below_size (by repeat (first | (with_reducible first | exact HB.out | apply below_alloc | apply pw_below_drewN | apply below_drew1) | exact HB.out)))); have n1_ := Aside0.mk (below_step (by repeat (first | (with_reducible first | exact HB.out | apply below_alloc | apply pw_below_drewN | apply below_drew1) | exact HB.out)) hb); clear HB; have HO153 := n0_; have HB := n1_; clear n0_ n1_; (try clear hb); (try clear hb2); (try clear hk); (try clear hi); (try clear ho0); obtain ⟨Ao8, co8, eo8⟩ := Kd.R_slice HO153.out; subst eo8))
    go_ret
    exact ⟨by first | rfl | (simp [errW_none, errW_some] <;> rfl) | (simp [*, errW_none, errW_some] <;> rfl), by repeat (first | (with_reducible first | exact HB.out | apply below_alloc | apply pw_below_drewN | apply below_drew1) | exact HB.out)⟩

/-! ### words_Pair: function 57 -/
def words_Pair.f (k : Nat) (a0 : ByteArray) : Option (Bool) := (words_Words.f k a0).bind fun t155 => (if (t155.length : Int) = 2 then (if 0 < (t155.length : Int) then (if ((rd_T107 t155 0).f0).size + 1 ≤ 9223372036854775807 then (if 1 < (t155.length : Int) then (if ((rd_T107 t155 0).f0).size + 1 + ((rd_T107 t155 1).f0).size ≤ 9223372036854775807 then (some (((((rd_T107 t155 0).f0) ++ (⟨#[61]⟩ : ByteArray)) ++ ((rd_T107 t155 1).f0)).toList == a0.toList)) else (none)) else (none)) else (none)) else (none)) else (some false))
theorem words_Pair.mono : ∀ a0 k, LeO (words_Pair.f k a0) (words_Pair.f (k + 1) a0) := by
  intro a0 k
  unfold words_Pair.f
  repeat' first
      | (with_reducible exact words_Words.mono _ _)
      | (with_reducible exact LeO.refl _)
      | (with_reducible exact LeO.none _)
      | (with_reducible refine LeO.ite ?_ ?_)
      | (with_reducible refine LeO.bind ?_ (fun _ => ?_))
      | exact words_Words.mono _ _
      | exact LeO.none _
      | refine LeO.ite ?_ ?_
      | refine LeO.bind ?_ (fun _ => ?_)
set_option maxHeartbeats 8000000 in
set_option maxRecDepth 100000 in
theorem words_Pair.calls (k : Nat) (a0 : ByteArray) (r : Bool) (w : World) (hT : tabs w) (h : words_Pair.f k a0 = some r) :
    Calls Tryd.prog 57 #[.string a0] w fun e w' => e = .returned (.bool r) ∧ Below w.heap.size w w' := by
  have HT := Aside0.mk hT
  clear hT
  have HB := Aside0.mk (Below.refl w.heap.size w)
  have H : ((words_Words.f k a0).bind fun t155 => (if (t155.length : Int) = 2 then (if 0 < (t155.length : Int) then (if ((rd_T107 t155 0).f0).size + 1 ≤ 9223372036854775807 then (if 1 < (t155.length : Int) then (if ((rd_T107 t155 0).f0).size + 1 + ((rd_T107 t155 1).f0).size ≤ 9223372036854775807 then (some (((((rd_T107 t155 0).f0) ++ (⟨#[61]⟩ : ByteArray)) ++ ((rd_T107 t155 1).f0)).toList == a0.toList)) else (none)) else (none)) else (none)) else (none)) else (some false))) = some r := h
  clear h
  replace H := Option.bind_eq_some_iff.mp H
  obtain ⟨t155, A20, H⟩ := H
  replace H : (if (t155.length : Int) = 2 then (if 0 < (t155.length : Int) then (if ((rd_T107 t155 0).f0).size + 1 ≤ 9223372036854775807 then (if 1 < (t155.length : Int) then (if ((rd_T107 t155 0).f0).size + 1 + ((rd_T107 t155 1).f0).size ≤ 9223372036854775807 then (some (((((rd_T107 t155 0).f0) ++ (⟨#[61]⟩ : ByteArray)) ++ ((rd_T107 t155 1).f0)).toList == a0.toList)) else (none)) else (none)) else (none)) else (none)) else (some false)) = some r := H
  have A2 := Aside0.mk A20
  clear A20
  by_cases c3 : (t155.length : Int) = 2
  · rw [if_pos c3] at H
    have c3b0 : ((t155.length : Int) == 2) = true := beq_iff_eq.mpr c3
    have c3b1 : ((t155.length : Int) != 2) = false := bne_eq_false_iff_eq.mpr c3
    clear c3
    by_cases c4 : 0 < (t155.length : Int)
    · rw [if_pos c4] at H
      have c4b0 : decide (0 < (t155.length : Int)) = true := decide_eq_true c4
      have c4b1 : decide (0 < t155.length) = true := decide_eq_true (by omega)
      clear c4
      by_cases c5 : ((rd_T107 t155 0).f0).size + 1 ≤ 9223372036854775807
      · rw [if_pos c5] at H
        have c5b0 := eq_true c5
        have c5b1 : decide (((rd_T107 t155 0).f0).size + 1 ≤ 9223372036854775807) = true := decide_eq_true c5
        try have c5b2 : (9223372036854775807 < ((rd_T107 t155 0).f0).size + 1) = False := eq_false (Nat.not_lt.2 c5)
        by_cases c6 : 1 < (t155.length : Int)
        · rw [if_pos c6] at H
          have c6b0 : decide (1 < (t155.length : Int)) = true := decide_eq_true c6
          have c6b1 : decide (1 < t155.length) = true := decide_eq_true (by omega)
          clear c6
          by_cases c7 : ((rd_T107 t155 0).f0).size + 1 + ((rd_T107 t155 1).f0).size ≤ 9223372036854775807
          · rw [if_pos c7] at H
            have c7b0 := eq_true c7
            have c7b1 : decide (((rd_T107 t155 0).f0).size + 1 + ((rd_T107 t155 1).f0).size ≤ 9223372036854775807) = true := decide_eq_true c7
            try have c7b2 : (9223372036854775807 < ((rd_T107 t155 0).f0).size + 1 + ((rd_T107 t155 1).f0).size) = False := eq_false (Nat.not_lt.2 c7)
            obtain rfl := Option.some.inj H
            go_enter Tryd.func57, Tryd.ntmps57
            go_wp2_with (first | (go_at_call 69; (with_reducible refine (words_Words.calls k a0 t155 _ ?side1 A2.out).mono ?_); (case side1 => first | exact HT.out | exact tabs_below HT.out (by repeat (first | (with_reducible first | exact HB.out | apply below_alloc | apply pw_below_drewN | apply below_drew1) | exact HB.out))); rintro e w8 ⟨v156, rfl, ho0, hb⟩; have n0_ := Aside0.mk (Kd.R_lower ho0 (below_size (by repeat (first | (with_reducible first | exact HB.out | apply below_alloc | apply pw_below_drewN | apply below_drew1) | exact HB.out)))); have n1_ := Aside0.mk (below_step (by repeat (first | (with_reducible first | exact HB.out | apply below_alloc | apply pw_below_drewN | apply below_drew1) | exact HB.out)) hb); clear HB; have HO157 := n0_; have HB := n1_; clear n0_ n1_; (try clear hb); (try clear hb2); (try clear hk); (try clear hi); (try clear ho0); obtain ⟨Ao9, co9, eo9⟩ := Kd.R_slice HO157.out; subst eo9; have p158 : 0 ≤ (0 : Int) := (by omega); have q158 : 0 < (t155.length : Int) := of_decide_eq_true (by first | (with_reducible assumption) | assumption); obtain ⟨ad158, e158, hx158_0, hx158_1, hx158_2⟩ := at_T107 (Kd.R_reads' HO157.out).2.2 0 p158 q158; cases e158; have qi158 : (0 < t155.length) = True := eq_true (by omega); (try rw [show ((0 : Int)).toNat = 0 from rfl] at hx158_0); (try rw [show 0 * 3 = 0 from rfl] at hx158_0); (try rw [Addr.add_zero'] at hx158_0); (try rw [show ((0 : Int)).toNat = 0 from rfl] at hx158_1); (try rw [show 0 * 3 = 0 from rfl] at hx158_1); (try rw [Addr.add_zero'] at hx158_1); (try rw [show ((0 : Int)).toNat = 0 from rfl] at hx158_2); (try rw [show 0 * 3 = 0 from rfl] at hx158_2); (try rw [Addr.add_zero'] at hx158_2); replace p158 := eq_true p158; replace q158 := eq_true q158; have p159 : 0 ≤ (1 : Int) := (by omega); have q159 : 1 < (t155.length : Int) := of_decide_eq_true (by first | (with_reducible assumption) | assumption); obtain ⟨ad159, e159, hx159_0, hx159_1, hx159_2⟩ := at_T107 (Kd.R_reads' HO157.out).2.2 1 p159 q159; obtain rfl : ad158 = ad159 := (by injection e159); (try simp only [show (1 : Int).toNat = 1 from rfl, Nat.reduceMul, Nat.reduceEqDiff, Go.Addr.add, ↓reduceIte] at hx159_0); (try simp only [show (1 : Int).toNat = 1 from rfl, Nat.reduceMul, Nat.reduceEqDiff, Go.Addr.add, ↓reduceIte] at hx159_1); (try simp only [show (1 : Int).toNat = 1 from rfl, Nat.reduceMul, Nat.reduceEqDiff, Go.Addr.add, ↓reduceIte] at hx159_2); have qi159 : (1 < t155.length) = True := eq_true (by omega); (try rw [show ((1 : Int)).toNat = 1 from rfl] at hx159_0); (try rw [show 1 * 3 = 3 from rfl] at hx159_0); (try rw [show ((1 : Int)).toNat = 1 from rfl] at hx159_1); (try rw [show 1 * 3 = 3 from rfl] at hx159_1); (try rw [show ((1 : Int)).toNat = 1 from rfl] at hx159_2); (try rw [show 1 * 3 = 3 from rfl] at hx159_2); replace p159 := eq_true p159; replace q159 := eq_true q159))
            repeat (go_quiet (first | (go_at_call 69; (with_reducible refine (words_Words.calls k a0 t155 _ ?side1 A2.out).mono ?_); (case side1 => first | exact HT.out | exact tabs_below HT.out (by repeat (first | (with_reducible first | exact HB.out | apply below_alloc | apply pw_below_drewN | apply below_drew1) | exact HB.out))); rintro e w8 ⟨v156, rfl, ho0, hb⟩; have n0_ := Aside0.mk (Kd.R_lower ho0 (below_size (by repeat (first | (with_reducible first | exact HB.out | apply below_alloc | apply pw_below_drewN | apply below_drew1) | exact HB.out)))); have n1_ := Aside0.mk (below_step (by repeat (first | (with_reducible first | exact HB.out | apply below_alloc | apply pw_below_drewN | apply below_drew1) | exact HB.out)) hb); clear HB; have HO157 := n0_; have HB := n1_; clear n0_ n1_; (try clear hb); (try clear hb2); (try clear hk); (try clear hi); (try clear ho0); obtain ⟨Ao9, co9, eo9⟩ := Kd.R_slice HO157.out; subst eo9; have p158 : 0 ≤ (0 : Int) := (by omega); have q158 : 0 < (t155.length : Int) := of_decide_eq_true (by first | (with_reducible assumption) | assumption); obtain ⟨ad158, e158, hx158_0, hx158_1, hx158_2⟩ := at_T107 (Kd.R_reads' HO157.out).2.2 0 p158 q158; cases e158; have qi158 : (0 < t155.length) = True := eq_true (by omega); (try rw [show ((0 : Int)).toNat = 0 from rfl] at hx158_0); (try rw [show 0 * 3 = 0 from rfl] at hx158_0); (try rw [Addr.add_zero'] at hx158_0); (try rw [show ((0 : Int)).toNat = 0 from rfl] at hx158_1); (try rw [show 0 * 3 = 0 from rfl] at hx158_1); (try rw [Addr.add_zero'] at hx158_1); (try rw [show ((0 : Int)).toNat = 0 from rfl] at hx158_2); (try rw [show 0 * 3 = 0 from rfl] at hx158_2); (try rw [Addr.add_zero'] at hx158_2); replace p158 := eq_true p158; replace q158 := eq_true q158; have p159 : 0 ≤ (1 : Int) := (by omega); have q159 : 1 < (t155.length : Int) := of_decide_eq_true (by first | (with_reducible assumption) | assumption); obtain ⟨ad159, e159, hx159_0, hx159_1, hx159_2⟩ := at_T107 (Kd.R_reads' HO157.out).2.2 1 p159 q159; obtain rfl : ad158 = ad159 := (by injection e159); (try simp only [show (1 : Int).toNat = 1 from rfl, Nat.reduceMul, Nat.reduceEqDiff, Go.Addr.add, ↓reduceIte] at hx159_0); (try simp only [show (1 : Int).toNat = 1 from rfl, Nat.reduceMul, Nat.reduceEqDiff, Go.Addr.add, ↓reduceIte] at hx159_1); (try simp only [show (1 : Int).toNat = 1 from rfl, Nat.reduceMul, Nat.reduceEqDiff, Go.Addr.add, ↓reduceIte] at hx159_2); have qi159 : (1 < t155.length) = True := eq_true (by omega); (try rw [show ((1 : Int)).toNat = 1 from rfl] at hx159_0); (try rw [show 1 * 3 = 3 from rfl] at hx159_0); (try rw [show ((1 : Int)).toNat = 1 from rfl] at hx159_1); (try rw [show 1 * 3 = 3 from rfl] at hx159_1); (try rw [show ((1 : Int)).toNat = 1 from rfl] at hx159_2); (try rw [show 1 * 3 = 3 from rfl] at hx159_2); replace p159 := eq_true p159; replace q159 := eq_true q159)); try go_wp2_with (first | (go_at_call 69; (with_reducible refine (words_Words.calls k a0 t155 _ ?side1 A2.out).mono ?_); (case side1 => first | exact HT.out | exact tabs_below HT.out (by repeat (first | (with_reducible first | exact HB.out | apply below_alloc | apply pw_below_drewN | apply below_drew1) | exact HB.out))); rintro e w8 ⟨v156, rfl, ho0, hb⟩; have n0_ := Aside0.mk (Kd.R_lower ho0 (below_size (by repeat (first | (with_reducible first | exact HB.out | apply below_alloc | apply pw_below_drewN | apply below_drew1) | exact HB.out)))); have n1_ := Aside0.mk (below_step (by repeat (first | (with_reducible first | exact HB.out | apply below_alloc | apply pw_below_drewN | apply below_drew1) | exact HB.out)) hb); clear HB; have HO157 := n0_; have HB := n1_; clear n0_ n1_; (try clear hb); (try clear hb2); (try clear hk); (try clear hi); (try clear ho0); obtain ⟨Ao9, co9, eo9⟩ := Kd.R_slice HO157.out; subst eo9; have p158 : 0 ≤ (0 : Int) := (by omega); have q158 : 0 < (t155.length : Int) := of_decide_eq_true (by first | (with_reducible assumption) | assumption); obtain ⟨ad158, e158, hx158_0, hx158_1, hx158_2⟩ := at_T107 (Kd.R_reads' HO157.out).2.2 0 p158 q158; cases e158; have qi158 : (0 < t155.length) = True := eq_true (by omega); (try rw [show ((0 : Int)).toNat = 0 from rfl] at hx158_0); (try rw [show 0 * 3 = 0 from rfl] at hx158_0); (try rw [Addr.add_zero'] at hx158_0); (try rw [show ((0 : Int)).toNat = 0 from rfl] at hx158_1); (try rw [show 0 * 3 = 0 from rfl] at hx158_1); (try rw [Addr.add_zero'] at hx158_1); (try rw [show ((0 : Int)).toNat = 0 from rfl] at hx158_2); (try rw [show 0 * 3 = 0 from rfl] at hx158_2); (try rw [Addr.add_zero'] at hx158_2); replace p158 := eq_true p158; replace q158 := eq_true q158; have p159 : 0 ≤ (1 : Int) := (by omega); have q159 : 1 < (t155.length : Int) := of_decide_eq_true (by first | (with_reducible assumption) | assumption); obtain ⟨ad159, e159, hx159_0, hx159_1, hx159_2⟩ := at_T107 (Kd.R_reads' HO157.out).2.2 1 p159 q159; obtain rfl : ad158 = ad159 := (by injection e159); (try simp only [show (1 : Int).toNat = 1 from rfl, Nat.reduceMul, Nat.reduceEqDiff, Go.Addr.add, ↓reduceIte] at hx159_0); (try simp only [show (1 : Int).toNat = 1 from rfl, Nat.reduceMul, Nat.reduceEqDiff, Go.Addr.add, ↓reduceIte] at hx159_1); (try simp only [show (1 : Int).toNat = 1 from rfl, Nat.reduceMul, Nat.reduceEqDiff, Go.Addr.add, ↓reduceIte] at hx159_2); have qi159 : (1 < t155.length) = True := eq_true (by omega); (try rw [show ((1 : Int)).toNat = 1 from rfl] at hx159_0); (try rw [show 1 * 3 = 3 from rfl] at hx159_0); (try rw [show ((1 : Int)).toNat = 1 from rfl] at hx159_1); (try rw [show 1 * 3 = 3 from rfl] at hx159_1); (try rw [show ((1 : Int)).toNat = 1 from rfl] at hx159_2); (try rw [show 1 * 3 = 3 from rfl] at hx159_2); replace p159 := eq_true p159; replace q159 := eq_true q159)))
            go_ret
            exact ⟨by first | rfl | (simp [errW_none, errW_some] <;> rfl) | (simp [*, errW_none, errW_some] <;> rfl), by repeat (first | (with_reducible first | exact HB.out | apply below_alloc | apply pw_below_drewN | apply below_drew1) | exact HB.out)⟩
          · rw [if_neg c7] at H
            exact absurd H (by simp)
        · rw [if_neg c6] at H
          exact absurd H (by simp)
      · rw [if_neg c5] at H
        exact absurd H (by simp)
    · rw [if_neg c4] at H
      exact absurd H (by simp)
  · rw [if_neg c3] at H
    have c3b0 : ((t155.length : Int) == 2) = false := beq_eq_false_iff_ne.mpr c3
    have c3b1 : ((t155.length : Int) != 2) = true := bne_iff_ne.mpr c3
    obtain rfl := Option.some.inj H
    go_enter Tryd.func57, Tryd.ntmps57
    go_wp2_with (first | (go_at_call 69; (with_reducible refine (words_Words.calls k a0 t155 _ ?side1 A2.out).mono ?_); (case side1 => first | exact HT.out | exact tabs_below HT.out (by repeat (first | (with_reducible first | exact HB.out | apply below_alloc | apply pw_below_drewN | apply below_drew1) | exact HB.out))); rintro e w10 ⟨v156, rfl, ho0, hb⟩; have n0_ := Aside0.mk (Kd.R_lower ho0 (below_size (by repeat (first | (with_reducible first | exact HB.out | apply below_alloc | apply pw_below_drewN | apply below_drew1) | exact HB.out)))); have n1_ := Aside0.mk (below_step (by repeat (first | (with_reducible first | exact HB.out | apply below_alloc | apply pw_below_drewN | apply below_drew1) | exact HB.out)) hb); clear HB; have HO157 := n0_; have HB := n1_; clear n0_ n1_; (try clear hb); (try clear hb2); (try clear hk); (try clear hi); (try clear ho0); obtain ⟨Ao11, co11, eo11⟩ := Kd.R_slice HO157.out; subst eo11))
    repeat (go_quiet (first | (go_at_call 69; (with_reducible refine (words_Words.calls k a0 t155 _ ?side1 A2.out).mono ?_); (case side1 => first | exact HT.out | exact tabs_below HT.out (by repeat (first | (with_reducible first | exact HB.out | apply below_alloc | apply pw_below_drewN | apply below_drew1) | exact HB.out))); rintro e w10 ⟨v156, rfl, ho0, hb⟩; have n0_ := Aside0.mk (Kd.R_lower ho0 (below_size (by repeat (first | (with_reducible first | exact HB.out | apply below_alloc | apply pw_below_drewN | apply below_drew1) | exact HB.out)))); have n1_ := Aside0.mk (below_step (by repeat (first | (with_reducible first | exact HB.out | apply below_alloc | apply pw_below_drewN | apply below_drew1) | exact HB.out)) hb); clear HB; have HO157 := n0_; have HB := n1_; clear n0_ n1_; (try clear hb); (try clear hb2); (try clear hk); (try clear hi); (try clear ho0); obtain ⟨Ao11, co11, eo11⟩ := Kd.R_slice HO157.out; subst eo11)); try go_wp2_with (first | (go_at_call 69; (with_reducible refine (words_Words.calls k a0 t155 _ ?side1 A2.out).mono ?_); (case side1 => first | exact HT.out | exact tabs_below HT.out (by repeat (first | (with_reducible first | exact HB.out | apply below_alloc | apply pw_below_drewN | apply below_drew1) | exact HB.out))); rintro e w10 ⟨v156, rfl, ho0, hb⟩; have n0_ := Aside0.mk (Kd.R_lower ho0 (below_size (by repeat (first | (with_reducible first | exact HB.out | apply below_alloc | apply pw_below_drewN | apply below_drew1) | exact HB.out)))); have n1_ := Aside0.mk (below_step (by repeat (first | (with_reducible first | exact HB.out | apply below_alloc | apply pw_below_drewN | apply below_drew1) | exact HB.out)) hb); clear HB; have HO157 := n0_; have HB := n1_; clear n0_ n1_; (try clear hb); (try clear hb2); (try clear hk); (try clear hi); (try clear ho0); obtain ⟨Ao11, co11, eo11⟩ := Kd.R_slice HO157.out; subst eo11)))
    go_ret
    exact ⟨by first | rfl | (simp [errW_none, errW_some] <;> rfl) | (simp [*, errW_none, errW_some] <;> rfl), by repeat (first | (with_reducible first | exact HB.out | apply below_alloc | apply pw_below_drewN | apply below_drew1) | exact HB.out)⟩

end Go.Proofs.YtlmmbefejmbpeaaDoor.PQry0
