-- WRITTEN BY A PROGRAM OF THIS SESSION (wip/patch_print.py: the kit's printer with rules of this session's own); Lean checks it.
import Derived.Test.YtpigloohccpfiaaDoorPHttpAnswersx0
import Derived.Test.YtpigloohccpfiaaDoorPHttpAnswersx5
import Derived.Test.YtpigloohccpfiaaDoorPHttpAnswersx6
namespace Go.Proofs.YtpigloohccpfiaaDoor.PHttpAnswers
open Go.RowKit Go.Proofs.YtpigloohccpfiaaDoorW.PrintWords Go.Proofs.YtpigloohccpfiaaDoorW.PrintLast Go.Proofs.YtpigloohccpfiaaDoorW.PrintMore
open Go.Proofs.YtpigloohccpfiaaDoor.G
attribute [local go_sem] max2_int min2_int max_two min_two max_three min_three max_four min_four   -- for this text's walks alone
set_option linter.unusedVariables false
set_option linter.unusedSimpArgs false

/-! ### fascineref12_Answer: function 17 -/
mutual
def fascineref12_Answer.j0 : Nat → ByteArray → Bool → Option (Int × ByteArray × Int)
 | 0, _, _ => none
 | k + 1, x0, x20 => if x20 = true then (some (0, (⟨#[]⟩ : ByteArray), 0)) else (if 9 ≤ 12 then (if 12 ≤ (x0.size : Int) then ((fascineref12_length.f k (x0.extract 9 12)).bind fun t205 => (if t205 < 100 then (some (0, (⟨#[]⟩ : ByteArray), 0)) else (fascineref12_Answer.l0 k x0 t205 0))) else (none)) else (none))
def fascineref12_Answer.l0 : Nat → ByteArray → Int → Int → Option (Int × ByteArray × Int)
 | 0, _, _, _ => none
 | k + 1, x0, x5, x6 => if x6 < 2 then ((fascineref12_Dec.f k x5).bind fun t206 => (if 9 + t206.size ≤ 9223372036854775807 then (if 9 + t206.size + 1 ≤ 9223372036854775807 then ((fascineref12_words.f k x5).bind fun t207 => (if 9 + t206.size + 1 + t207.size ≤ 9223372036854775807 then (if 9 + t206.size + 1 + t207.size + 50 ≤ 9223372036854775807 then (if (x0.size : Int) < ((((((⟨#[72, 84, 84, 80, 47, 49, 46, 49, 32]⟩ : ByteArray) ++ t206) ++ (⟨#[32]⟩ : ByteArray)) ++ t207) ++ (⟨#[13, 10, 67, 111, 110, 116, 101, 110, 116, 45, 84, 121, 112, 101, 58, 32, 97, 112, 112, 108, 105, 99, 97, 116, 105, 111, 110, 47, 106, 115, 111, 110, 13, 10, 67, 111, 110, 116, 101, 110, 116, 45, 76, 101, 110, 103, 116, 104, 58, 32]⟩ : ByteArray)).size : Int) then (fascineref12_Answer.j2 k x0 x5 x6 (x6 == 1) (((((⟨#[72, 84, 84, 80, 47, 49, 46, 49, 32]⟩ : ByteArray) ++ t206) ++ (⟨#[32]⟩ : ByteArray)) ++ t207) ++ (⟨#[13, 10, 67, 111, 110, 116, 101, 110, 116, 45, 84, 121, 112, 101, 58, 32, 97, 112, 112, 108, 105, 99, 97, 116, 105, 111, 110, 47, 106, 115, 111, 110, 13, 10, 67, 111, 110, 116, 101, 110, 116, 45, 76, 101, 110, 103, 116, 104, 58, 32]⟩ : ByteArray)) true) else (if 0 ≤ ((((((⟨#[72, 84, 84, 80, 47, 49, 46, 49, 32]⟩ : ByteArray) ++ t206) ++ (⟨#[32]⟩ : ByteArray)) ++ t207) ++ (⟨#[13, 10, 67, 111, 110, 116, 101, 110, 116, 45, 84, 121, 112, 101, 58, 32, 97, 112, 112, 108, 105, 99, 97, 116, 105, 111, 110, 47, 106, 115, 111, 110, 13, 10, 67, 111, 110, 116, 101, 110, 116, 45, 76, 101, 110, 103, 116, 104, 58, 32]⟩ : ByteArray)).size : Int) then (if ((((((⟨#[72, 84, 84, 80, 47, 49, 46, 49, 32]⟩ : ByteArray) ++ t206) ++ (⟨#[32]⟩ : ByteArray)) ++ t207) ++ (⟨#[13, 10, 67, 111, 110, 116, 101, 110, 116, 45, 84, 121, 112, 101, 58, 32, 97, 112, 112, 108, 105, 99, 97, 116, 105, 111, 110, 47, 106, 115, 111, 110, 13, 10, 67, 111, 110, 116, 101, 110, 116, 45, 76, 101, 110, 103, 116, 104, 58, 32]⟩ : ByteArray)).size : Int) ≤ (x0.size : Int) then (fascineref12_Answer.j2 k x0 x5 x6 (x6 == 1) (((((⟨#[72, 84, 84, 80, 47, 49, 46, 49, 32]⟩ : ByteArray) ++ t206) ++ (⟨#[32]⟩ : ByteArray)) ++ t207) ++ (⟨#[13, 10, 67, 111, 110, 116, 101, 110, 116, 45, 84, 121, 112, 101, 58, 32, 97, 112, 112, 108, 105, 99, 97, 116, 105, 111, 110, 47, 106, 115, 111, 110, 13, 10, 67, 111, 110, 116, 101, 110, 116, 45, 76, 101, 110, 103, 116, 104, 58, 32]⟩ : ByteArray)) ((x0.extract 0 (((((((⟨#[72, 84, 84, 80, 47, 49, 46, 49, 32]⟩ : ByteArray) ++ t206) ++ (⟨#[32]⟩ : ByteArray)) ++ t207) ++ (⟨#[13, 10, 67, 111, 110, 116, 101, 110, 116, 45, 84, 121, 112, 101, 58, 32, 97, 112, 112, 108, 105, 99, 97, 116, 105, 111, 110, 47, 106, 115, 111, 110, 13, 10, 67, 111, 110, 116, 101, 110, 116, 45, 76, 101, 110, 103, 116, 104, 58, 32]⟩ : ByteArray)).size : Int) : Int).toNat).toList != (((((⟨#[72, 84, 84, 80, 47, 49, 46, 49, 32]⟩ : ByteArray) ++ t206) ++ (⟨#[32]⟩ : ByteArray)) ++ t207) ++ (⟨#[13, 10, 67, 111, 110, 116, 101, 110, 116, 45, 84, 121, 112, 101, 58, 32, 97, 112, 112, 108, 105, 99, 97, 116, 105, 111, 110, 47, 106, 115, 111, 110, 13, 10, 67, 111, 110, 116, 101, 110, 116, 45, 76, 101, 110, 103, 116, 104, 58, 32]⟩ : ByteArray)).toList)) else (none)) else (none))) else (none)) else (none))) else (none)) else (none))) else (some (0, (⟨#[]⟩ : ByteArray), 0))
def fascineref12_Answer.j2 : Nat → ByteArray → Int → Int → Bool → ByteArray → Bool → Option (Int × ByteArray × Int)
 | 0, _, _, _, _, _, _ => none
 | k + 1, x0, x5, x6, x7, x8, x52 => if x52 = true then (fascineref12_Answer.l0 k x0 x5 (wrap64 (x6 + 1))) else (fascineref12_Answer.l1 k x0 x5 x6 x7 x8 (x8.size : Int))
def fascineref12_Answer.j4 : Nat → ByteArray → Int → Int → Bool → ByteArray → Int → Option (Int × ByteArray × Int)
 | 0, _, _, _, _, _, _ => none
 | k + 1, x0, x5, x6, x7, x8, x9 => if 0 ≤ (x8.size : Int) then (if (x8.size : Int) ≤ x9 then (if x9 ≤ (x0.size : Int) then ((fascineref12_length.f k (x0.extract ((x8.size : Int) : Int).toNat (x9 : Int).toNat)).bind fun t208 => (if t208 < 0 then (fascineref12_Answer.l0 k x0 x5 (wrap64 (x6 + 1))) else (if x7 = true then (if (x0.size : Int) < (wrap64 ((wrap64 (x9 + 23)) + t208)) then (fascineref12_Answer.l0 k x0 x5 (wrap64 (x6 + 1))) else (if 0 ≤ x9 then (if x9 ≤ (wrap64 (x9 + 23)) then (if (wrap64 (x9 + 23)) ≤ (x0.size : Int) then (if (x0.extract (x9 : Int).toNat ((wrap64 (x9 + 23)) : Int).toNat).toList = ([13, 10, 67, 111, 110, 110, 101, 99, 116, 105, 111, 110, 58, 32, 99, 108, 111, 115, 101, 13, 10, 13, 10] : List UInt8) then (if 0 ≤ (wrap64 (x9 + 23)) then (if (wrap64 (x9 + 23)) ≤ (wrap64 ((wrap64 (x9 + 23)) + t208)) then (if (wrap64 ((wrap64 (x9 + 23)) + t208)) ≤ (x0.size : Int) then (some (x5, x0.extract ((wrap64 (x9 + 23)) : Int).toNat ((wrap64 ((wrap64 (x9 + 23)) + t208)) : Int).toNat, wrap64 ((wrap64 (x9 + 23)) + t208))) else (none)) else (none)) else (none)) else (fascineref12_Answer.l0 k x0 x5 (wrap64 (x6 + 1)))) else (none)) else (none)) else (none))) else (if (x0.size : Int) < (wrap64 ((wrap64 (x9 + 4)) + t208)) then (fascineref12_Answer.l0 k x0 x5 (wrap64 (x6 + 1))) else (if 0 ≤ x9 then (if x9 ≤ (wrap64 (x9 + 4)) then (if (wrap64 (x9 + 4)) ≤ (x0.size : Int) then (if (x0.extract (x9 : Int).toNat ((wrap64 (x9 + 4)) : Int).toNat).toList = ([13, 10, 13, 10] : List UInt8) then (if 0 ≤ (wrap64 (x9 + 4)) then (if (wrap64 (x9 + 4)) ≤ (wrap64 ((wrap64 (x9 + 4)) + t208)) then (if (wrap64 ((wrap64 (x9 + 4)) + t208)) ≤ (x0.size : Int) then (some (x5, x0.extract ((wrap64 (x9 + 4)) : Int).toNat ((wrap64 ((wrap64 (x9 + 4)) + t208)) : Int).toNat, wrap64 ((wrap64 (x9 + 4)) + t208))) else (none)) else (none)) else (none)) else (fascineref12_Answer.l0 k x0 x5 (wrap64 (x6 + 1)))) else (none)) else (none)) else (none)))))) else (none)) else (none)) else (none)
def fascineref12_Answer.l1 : Nat → ByteArray → Int → Int → Bool → ByteArray → Int → Option (Int × ByteArray × Int)
 | 0, _, _, _, _, _, _ => none
 | k + 1, x0, x5, x6, x7, x8, x9 => if x9 < (x0.size : Int) then (if 0 ≤ x9 then (if (bt x0 x9) ≥ 48 then (if (bt x0 x9) ≤ 57 then (if (wrap64 (x9 - (x8.size : Int))) < 10 then (fascineref12_Answer.l1 k x0 x5 x6 x7 x8 (wrap64 (x9 + 1))) else (fascineref12_Answer.j4 k x0 x5 x6 x7 x8 x9)) else (fascineref12_Answer.j4 k x0 x5 x6 x7 x8 x9)) else (fascineref12_Answer.j4 k x0 x5 x6 x7 x8 x9)) else (none)) else (fascineref12_Answer.j4 k x0 x5 x6 x7 x8 x9)
end
def fascineref12_Answer.f (k : Nat) (a0 : ByteArray) : Option (Int × ByteArray × Int) := if (a0.size : Int) < 13 then (fascineref12_Answer.j0 k a0 true) else (if 0 ≤ 9 then (if 9 ≤ (a0.size : Int) then (fascineref12_Answer.j0 k a0 ((a0.extract 0 9).toList != ([72, 84, 84, 80, 47, 49, 46, 49, 32] : List UInt8))) else (none)) else (none))
theorem fascineref12_Answer.mono_l : ∀ k, (∀ y0 y1, LeO (fascineref12_Answer.j0 k y0 y1) (fascineref12_Answer.j0 (k + 1) y0 y1)) ∧ (∀ y0 y1 y2, LeO (fascineref12_Answer.l0 k y0 y1 y2) (fascineref12_Answer.l0 (k + 1) y0 y1 y2)) ∧ (∀ y0 y1 y2 y3 y4 y5, LeO (fascineref12_Answer.j2 k y0 y1 y2 y3 y4 y5) (fascineref12_Answer.j2 (k + 1) y0 y1 y2 y3 y4 y5)) ∧ (∀ y0 y1 y2 y3 y4 y5, LeO (fascineref12_Answer.j4 k y0 y1 y2 y3 y4 y5) (fascineref12_Answer.j4 (k + 1) y0 y1 y2 y3 y4 y5)) ∧ (∀ y0 y1 y2 y3 y4 y5, LeO (fascineref12_Answer.l1 k y0 y1 y2 y3 y4 y5) (fascineref12_Answer.l1 (k + 1) y0 y1 y2 y3 y4 y5))
 | 0 => ⟨fun _ _ r h => by simp [fascineref12_Answer.j0] at h, fun _ _ _ r h => by simp [fascineref12_Answer.l0] at h, fun _ _ _ _ _ _ r h => by simp [fascineref12_Answer.j2] at h, fun _ _ _ _ _ _ r h => by simp [fascineref12_Answer.j4] at h, fun _ _ _ _ _ _ r h => by simp [fascineref12_Answer.l1] at h⟩
 | k + 1 => by
  obtain ⟨ih0, ih1, ih2, ih3, ih4⟩ := fascineref12_Answer.mono_l k
  refine ⟨?_, ?_, ?_, ?_, ?_⟩
  ·intro y0 y1
   unfold fascineref12_Answer.j0
   repeat' first
   | (with_reducible exact ih0 _ _)
   | (with_reducible exact ih1 _ _ _)
   | (with_reducible exact ih2 _ _ _ _ _ _)
   | (with_reducible exact ih3 _ _ _ _ _ _)
   | (with_reducible exact ih4 _ _ _ _ _ _)
   | (with_reducible exact fascineref12_Dec.mono _ _)
   | (with_reducible exact fascineref12_length.mono _ _)
   | (with_reducible exact fascineref12_words.mono _ _)
   | (with_reducible exact LeO.refl _)
   | (with_reducible exact LeO.none _)
   | (with_reducible refine LeO.ite ?_ ?_)
   | (with_reducible refine LeO.bind ?_ (fun _ => ?_))
   | exact ih0 _ _
   | exact ih1 _ _ _
   | exact ih2 _ _ _ _ _ _
   | exact ih3 _ _ _ _ _ _
   | exact ih4 _ _ _ _ _ _
   | exact fascineref12_Dec.mono _ _
   | exact fascineref12_length.mono _ _
   | exact fascineref12_words.mono _ _
   | exact LeO.none _
   | refine LeO.ite ?_ ?_
   | refine LeO.bind ?_ (fun _ => ?_)
  ·intro y0 y1 y2
   unfold fascineref12_Answer.l0
   repeat' first
   | (with_reducible exact ih0 _ _)
   | (with_reducible exact ih1 _ _ _)
   | (with_reducible exact ih2 _ _ _ _ _ _)
   | (with_reducible exact ih3 _ _ _ _ _ _)
   | (with_reducible exact ih4 _ _ _ _ _ _)
   | (with_reducible exact fascineref12_Dec.mono _ _)
   | (with_reducible exact fascineref12_length.mono _ _)
   | (with_reducible exact fascineref12_words.mono _ _)
   | (with_reducible exact LeO.refl _)
   | (with_reducible exact LeO.none _)
   | (with_reducible refine LeO.ite ?_ ?_)
   | (with_reducible refine LeO.bind ?_ (fun _ => ?_))
   | exact ih0 _ _
   | exact ih1 _ _ _
   | exact ih2 _ _ _ _ _ _
   | exact ih3 _ _ _ _ _ _
   | exact ih4 _ _ _ _ _ _
   | exact fascineref12_Dec.mono _ _
   | exact fascineref12_length.mono _ _
   | exact fascineref12_words.mono _ _
   | exact LeO.none _
   | refine LeO.ite ?_ ?_
   | refine LeO.bind ?_ (fun _ => ?_)
  ·intro y0 y1 y2 y3 y4 y5
   unfold fascineref12_Answer.j2
   repeat' first
   | (with_reducible exact ih0 _ _)
   | (with_reducible exact ih1 _ _ _)
   | (with_reducible exact ih2 _ _ _ _ _ _)
   | (with_reducible exact ih3 _ _ _ _ _ _)
   | (with_reducible exact ih4 _ _ _ _ _ _)
   | (with_reducible exact fascineref12_Dec.mono _ _)
   | (with_reducible exact fascineref12_length.mono _ _)
   | (with_reducible exact fascineref12_words.mono _ _)
   | (with_reducible exact LeO.refl _)
   | (with_reducible exact LeO.none _)
   | (with_reducible refine LeO.ite ?_ ?_)
   | (with_reducible refine LeO.bind ?_ (fun _ => ?_))
   | exact ih0 _ _
   | exact ih1 _ _ _
   | exact ih2 _ _ _ _ _ _
   | exact ih3 _ _ _ _ _ _
   | exact ih4 _ _ _ _ _ _
   | exact fascineref12_Dec.mono _ _
   | exact fascineref12_length.mono _ _
   | exact fascineref12_words.mono _ _
   | exact LeO.none _
   | refine LeO.ite ?_ ?_
   | refine LeO.bind ?_ (fun _ => ?_)
  ·intro y0 y1 y2 y3 y4 y5
   unfold fascineref12_Answer.j4
   repeat' first
   | (with_reducible exact ih0 _ _)
   | (with_reducible exact ih1 _ _ _)
   | (with_reducible exact ih2 _ _ _ _ _ _)
   | (with_reducible exact ih3 _ _ _ _ _ _)
   | (with_reducible exact ih4 _ _ _ _ _ _)
   | (with_reducible exact fascineref12_Dec.mono _ _)
   | (with_reducible exact fascineref12_length.mono _ _)
   | (with_reducible exact fascineref12_words.mono _ _)
   | (with_reducible exact LeO.refl _)
   | (with_reducible exact LeO.none _)
   | (with_reducible refine LeO.ite ?_ ?_)
   | (with_reducible refine LeO.bind ?_ (fun _ => ?_))
   | exact ih0 _ _
   | exact ih1 _ _ _
   | exact ih2 _ _ _ _ _ _
   | exact ih3 _ _ _ _ _ _
   | exact ih4 _ _ _ _ _ _
   | exact fascineref12_Dec.mono _ _
   | exact fascineref12_length.mono _ _
   | exact fascineref12_words.mono _ _
   | exact LeO.none _
   | refine LeO.ite ?_ ?_
   | refine LeO.bind ?_ (fun _ => ?_)
  ·intro y0 y1 y2 y3 y4 y5
   unfold fascineref12_Answer.l1
   repeat' first
   | (with_reducible exact ih0 _ _)
   | (with_reducible exact ih1 _ _ _)
   | (with_reducible exact ih2 _ _ _ _ _ _)
   | (with_reducible exact ih3 _ _ _ _ _ _)
   | (with_reducible exact ih4 _ _ _ _ _ _)
   | (with_reducible exact fascineref12_Dec.mono _ _)
   | (with_reducible exact fascineref12_length.mono _ _)
   | (with_reducible exact fascineref12_words.mono _ _)
   | (with_reducible exact LeO.refl _)
   | (with_reducible exact LeO.none _)
   | (with_reducible refine LeO.ite ?_ ?_)
   | (with_reducible refine LeO.bind ?_ (fun _ => ?_))
   | exact ih0 _ _
   | exact ih1 _ _ _
   | exact ih2 _ _ _ _ _ _
   | exact ih3 _ _ _ _ _ _
   | exact ih4 _ _ _ _ _ _
   | exact fascineref12_Dec.mono _ _
   | exact fascineref12_length.mono _ _
   | exact fascineref12_words.mono _ _
   | exact LeO.none _
   | refine LeO.ite ?_ ?_
   | refine LeO.bind ?_ (fun _ => ?_)
theorem fascineref12_Answer.mono : ∀ a0 k, LeO (fascineref12_Answer.f k a0) (fascineref12_Answer.f (k + 1) a0) := by
 intro a0 k
 obtain ⟨ih0, ih1, ih2, ih3, ih4⟩ := fascineref12_Answer.mono_l k
 unfold fascineref12_Answer.f
 repeat' first
   | (with_reducible exact ih0 _ _)
   | (with_reducible exact ih1 _ _ _)
   | (with_reducible exact ih2 _ _ _ _ _ _)
   | (with_reducible exact ih3 _ _ _ _ _ _)
   | (with_reducible exact ih4 _ _ _ _ _ _)
   | (with_reducible exact fascineref12_Dec.mono _ _)
   | (with_reducible exact fascineref12_length.mono _ _)
   | (with_reducible exact fascineref12_words.mono _ _)
   | (with_reducible exact LeO.refl _)
   | (with_reducible exact LeO.none _)
   | (with_reducible refine LeO.ite ?_ ?_)
   | (with_reducible refine LeO.bind ?_ (fun _ => ?_))
   | exact ih0 _ _
   | exact ih1 _ _ _
   | exact ih2 _ _ _ _ _ _
   | exact ih3 _ _ _ _ _ _
   | exact ih4 _ _ _ _ _ _
   | exact fascineref12_Dec.mono _ _
   | exact fascineref12_length.mono _ _
   | exact fascineref12_words.mono _ _
   | exact LeO.none _
   | refine LeO.ite ?_ ?_
   | refine LeO.bind ?_ (fun _ => ?_)
set_option maxHeartbeats 8000000 in
set_option maxRecDepth 100000 in
theorem fascineref12_Answer.calls (k : Nat) (a0 : ByteArray) (r1 : Int) (r2 : ByteArray) (r3 : Int) (w : World) (h : fascineref12_Answer.f k a0 = some (r1, r2, r3)) :
  Calls Tryd.prog 17 #[.string a0] w fun e w' => e = .returned (.tuple #[.int .i64 r1, .string r2, .int .i64 r3]) ∧ Below w.heap.size w w' := by
 have HB := Aside0.mk (Below.refl w.heap.size w)
 have H : (if (a0.size : Int) < 13 then (fascineref12_Answer.j0 k a0 true) else (if 0 ≤ 9 then (if 9 ≤ (a0.size : Int) then (fascineref12_Answer.j0 k a0 ((a0.extract 0 9).toList != ([72, 84, 84, 80, 47, 49, 46, 49, 32] : List UInt8))) else (none)) else (none))) = some (r1, r2, r3) := h
 clear h
 have HC2 := Aside0.mk H
 clear H
 go_enter Tryd.func17, Tryd.ntmps17
 go_upto_region 1 with (fail)
 repeat (go_quiet (fail); go_upto_region 1 with (fail))
 go_cut [20] (fun v20 wc => ∃ (kq : Nat) (x20_1 : Bool), v20 = .bool x20_1 ∧ Aside0 (fascineref12_Answer.j0 kq a0 x20_1 = some (r1, r2, r3)) ∧ Aside0 (kq ≤ k) ∧ Aside0 (Below w.heap.size w wc))
 case first =>
  have H := HC2.out
  clear HC2
  by_cases c3 : (a0.size : Int) < 13
  ·rw [if_pos c3] at H
   have c3b0 : decide ((a0.size : Int) < 13) = true := decide_eq_true c3
   have c3b1 : decide (a0.size < 13) = true := decide_eq_true (by omega)
   clear c3
   (first | rw [c3b0] | (simp only [i64_w, i32_w]; rw [c3b0]) | skip)
   have H' := Aside0.mk H
   clear H
   go_wp2
   repeat (go_quiet (fail); try go_wp2)
   go_meet
   case rel => exact ⟨_, (true), (by first | rfl | (simp; done) | (simp [*]; done)), H', ⟨by first | omega | exact Nat.le_refl _⟩, ⟨by repeat (first | (with_reducible first | exact HB.out | apply below_alloc | apply pw_below_drewN | apply below_drew1) | exact HB.out)⟩⟩
  ·rw [if_neg c3] at H
   have c3b0 : decide ((a0.size : Int) < 13) = false := decide_eq_false c3
   have c3b1 : decide (a0.size < 13) = false := decide_eq_false (by omega)
   clear c3
   (first | rw [c3b0] | (simp only [i64_w, i32_w]; rw [c3b0]) | skip)
   by_cases c4 : 0 ≤ 9
   ·rw [if_pos c4] at H
    have c4b0 := eq_true c4
    have c4b1 : decide (0 ≤ 9) = true := decide_eq_true c4
    clear c4
    by_cases c5 : 9 ≤ (a0.size : Int)
    ·rw [if_pos c5] at H
     have c5b0 := eq_true c5
     have c5b1 : decide (9 ≤ (a0.size : Int)) = true := decide_eq_true c5
     clear c5
     have H' := Aside0.mk H
     clear H
     go_wp2
     repeat (go_quiet (fail); try go_wp2)
     go_meet
     case rel => exact ⟨_, (((a0.extract 0 9).toList != ([72, 84, 84, 80, 47, 49, 46, 49, 32] : List UInt8))), (by first | rfl | (simp; done) | (simp [*]; done)), H', ⟨by first | omega | exact Nat.le_refl _⟩, ⟨by repeat (first | (with_reducible first | exact HB.out | apply below_alloc | apply pw_below_drewN | apply below_drew1) | exact HB.out)⟩⟩
    ·rw [if_neg c5] at H
     exact absurd H (by simp)
   ·rw [if_neg c4] at H
    exact absurd H (by simp)
 case rest =>
  clear HC2
  try clear c1
  try clear p2
  try clear c3
  try clear c3b0
  try clear c3b1
  try clear c4
  try clear c4b0
  try clear c4b1
  try clear c5
  try clear c5b0
  try clear c5b1
  obtain ⟨kq, x20_1, rfl, HA, HJ1, HB⟩ := hcut
  cases kq with
  | zero => exact absurd HA.out (by simp [fascineref12_Answer.j0])
  | succ kj1 =>
   have H := HA.out
   clear HA
   simp only [fascineref12_Answer.j0] at H
   by_cases c6 : x20_1 = true
   ·subst c6
    have H1 : (some (0, (⟨#[]⟩ : ByteArray), 0)) = some (r1, r2, r3) := by rw [if_pos rfl] at H; exact H
    clear H
    have H := H1
    clear H1
    simp only [Option.some.injEq, Prod.mk.injEq] at H
    obtain ⟨rfl, rfl, rfl⟩ := H
    go_wp2
    repeat (go_quiet (fail); try go_wp2)
    go_ret3
    exact ⟨by first | rfl | (simp [errW_none, errW_some] <;> rfl) | (simp [*, errW_none, errW_some] <;> rfl), by repeat (first | (with_reducible first | exact HB.out | apply below_alloc | apply pw_below_drewN | apply below_drew1) | exact HB.out)⟩
   ·replace c6 := Bool.eq_false_iff.mpr c6
    subst c6
    have H1 : (if 9 ≤ 12 then (if 12 ≤ (a0.size : Int) then ((fascineref12_length.f kj1 (a0.extract 9 12)).bind fun t205 => (if t205 < 100 then (some (0, (⟨#[]⟩ : ByteArray), 0)) else (fascineref12_Answer.l0 kj1 a0 t205 0))) else (none)) else (none)) = some (r1, r2, r3) := by rw [if_neg (show ¬ (false = true) by decide)] at H; exact H
    clear H
    have H := H1
    clear H1
    by_cases c7 : 9 ≤ 12
    ·rw [if_pos c7] at H
     have c7b0 := eq_true c7
     have c7b1 : decide (9 ≤ 12) = true := decide_eq_true c7
     clear c7
     by_cases c8 : 12 ≤ (a0.size : Int)
     ·rw [if_pos c8] at H
      have c8b0 := eq_true c8
      have c8b1 : decide (12 ≤ (a0.size : Int)) = true := decide_eq_true c8
      clear c8
      replace H := Option.bind_eq_some_iff.mp H
      obtain ⟨t205, A90, H⟩ := H
      replace H : (if t205 < 100 then (some (0, (⟨#[]⟩ : ByteArray), 0)) else (fascineref12_Answer.l0 kj1 a0 t205 0)) = some (r1, r2, r3) := H
      have A9 := Aside0.mk A90
      clear A90
      by_cases c10 : t205 < 100
      ·rw [if_pos c10] at H
       have c10b0 : decide (t205 < 100) = true := decide_eq_true c10
       clear c10
       simp only [Option.some.injEq, Prod.mk.injEq] at H
       obtain ⟨rfl, rfl, rfl⟩ := H
       go_wp2_with (first | (go_at_call 27; (with_reducible refine (fascineref12_length.calls kj1 (a0.extract 9 12) t205 _ A9.out).mono ?_); rintro e w' ⟨rfl, ⟨nd, rfl⟩⟩; (try first | exact ⟨rfl, _, World.drewN_drewN _ _ _⟩ | exact ⟨rfl, _, Eq.trans (World.drewN_drewN _ _ _) (congrArg (World.drewN _) (Nat.add_assoc _ _ _))⟩)))
       repeat (go_quiet (first | (go_at_call 27; (with_reducible refine (fascineref12_length.calls kj1 (a0.extract 9 12) t205 _ A9.out).mono ?_); rintro e w' ⟨rfl, ⟨nd, rfl⟩⟩; (try first | exact ⟨rfl, _, World.drewN_drewN _ _ _⟩ | exact ⟨rfl, _, Eq.trans (World.drewN_drewN _ _ _) (congrArg (World.drewN _) (Nat.add_assoc _ _ _))⟩))); try go_wp2_with (first | (go_at_call 27; (with_reducible refine (fascineref12_length.calls kj1 (a0.extract 9 12) t205 _ A9.out).mono ?_); rintro e w' ⟨rfl, ⟨nd, rfl⟩⟩; (try first | exact ⟨rfl, _, World.drewN_drewN _ _ _⟩ | exact ⟨rfl, _, Eq.trans (World.drewN_drewN _ _ _) (congrArg (World.drewN _) (Nat.add_assoc _ _ _))⟩))))
       go_ret3
       exact ⟨by first | rfl | (simp [errW_none, errW_some] <;> rfl) | (simp [*, errW_none, errW_some] <;> rfl), by repeat (first | (with_reducible first | exact HB.out | apply below_alloc | apply pw_below_drewN | apply below_drew1) | exact HB.out)⟩
      ·rw [if_neg c10] at H
       have c10b0 : decide (t205 < 100) = false := decide_eq_false c10
       clear c10
       have H' := Aside0.mk H
       clear H
       go_wp2_with (first | (go_at_call 27; (with_reducible refine (fascineref12_length.calls kj1 (a0.extract 9 12) t205 _ A9.out).mono ?_); rintro e w' ⟨rfl, ⟨nd, rfl⟩⟩; (try first | exact ⟨rfl, _, World.drewN_drewN _ _ _⟩ | exact ⟨rfl, _, Eq.trans (World.drewN_drewN _ _ _) (congrArg (World.drewN _) (Nat.add_assoc _ _ _))⟩)))
       repeat (go_quiet (first | (go_at_call 27; (with_reducible refine (fascineref12_length.calls kj1 (a0.extract 9 12) t205 _ A9.out).mono ?_); rintro e w' ⟨rfl, ⟨nd, rfl⟩⟩; (try first | exact ⟨rfl, _, World.drewN_drewN _ _ _⟩ | exact ⟨rfl, _, Eq.trans (World.drewN_drewN _ _ _) (congrArg (World.drewN _) (Nat.add_assoc _ _ _))⟩))); try go_wp2_with (first | (go_at_call 27; (with_reducible refine (fascineref12_length.calls kj1 (a0.extract 9 12) t205 _ A9.out).mono ?_); rintro e w' ⟨rfl, ⟨nd, rfl⟩⟩; (try first | exact ⟨rfl, _, World.drewN_drewN _ _ _⟩ | exact ⟨rfl, _, Eq.trans (World.drewN_drewN _ _ _) (congrArg (World.drewN _) (Nat.add_assoc _ _ _))⟩))))
       go_loopg [6] kj1 (fun kq v6 w' => ∃ (x6_2 : Int), v6 = .int .i64 x6_2 ∧ Aside0 (fascineref12_Answer.l0 kq a0 t205 x6_2 = some (r1, r2, r3)) ∧ Aside0 (kq ≤ kj1) ∧ Aside0 (Below w.heap.size w w'))
       case atStart => exact ⟨(0), (by first | rfl | (simp; done) | (simp [*]; done)), H', ⟨Nat.le_refl _⟩, ⟨by repeat (first | (with_reducible first | exact HB.out | apply below_alloc | apply pw_below_drewN | apply below_drew1) | exact HB.out)⟩⟩
       case round =>
        clear H'
        try clear c1
        try clear p2
        try clear c3
        try clear c3b0
        try clear c3b1
        try clear c4
        try clear c4b0
        try clear c4b1
        try clear c5
        try clear c5b0
        try clear c5b1
        try clear c6
        try clear c7
        try clear c7b0
        try clear c7b1
        try clear c8
        try clear c8b0
        try clear c8b1
        try clear c10
        try clear c10b0
        try clear p2
        obtain ⟨x6_2, rfl, HA, HK2, HB⟩ := hrel
        cases gk with
        | zero => exact absurd HA.out (by simp [fascineref12_Answer.l0])
        | succ k2 =>
         have H := HA.out
         clear HA
         simp only [fascineref12_Answer.l0] at H
         by_cases c11 : x6_2 < 2
         ·rw [if_pos c11] at H
          have c11b0 : decide (x6_2 < 2) = true := decide_eq_true c11
          clear c11
          replace H := Option.bind_eq_some_iff.mp H
          obtain ⟨t206, A120, H⟩ := H
          replace H : (if 9 + t206.size ≤ 9223372036854775807 then (if 9 + t206.size + 1 ≤ 9223372036854775807 then ((fascineref12_words.f k2 t205).bind fun t207 => (if 9 + t206.size + 1 + t207.size ≤ 9223372036854775807 then (if 9 + t206.size + 1 + t207.size + 50 ≤ 9223372036854775807 then (if (a0.size : Int) < ((((((⟨#[72, 84, 84, 80, 47, 49, 46, 49, 32]⟩ : ByteArray) ++ t206) ++ (⟨#[32]⟩ : ByteArray)) ++ t207) ++ (⟨#[13, 10, 67, 111, 110, 116, 101, 110, 116, 45, 84, 121, 112, 101, 58, 32, 97, 112, 112, 108, 105, 99, 97, 116, 105, 111, 110, 47, 106, 115, 111, 110, 13, 10, 67, 111, 110, 116, 101, 110, 116, 45, 76, 101, 110, 103, 116, 104, 58, 32]⟩ : ByteArray)).size : Int) then (fascineref12_Answer.j2 k2 a0 t205 x6_2 (x6_2 == 1) (((((⟨#[72, 84, 84, 80, 47, 49, 46, 49, 32]⟩ : ByteArray) ++ t206) ++ (⟨#[32]⟩ : ByteArray)) ++ t207) ++ (⟨#[13, 10, 67, 111, 110, 116, 101, 110, 116, 45, 84, 121, 112, 101, 58, 32, 97, 112, 112, 108, 105, 99, 97, 116, 105, 111, 110, 47, 106, 115, 111, 110, 13, 10, 67, 111, 110, 116, 101, 110, 116, 45, 76, 101, 110, 103, 116, 104, 58, 32]⟩ : ByteArray)) true) else (if 0 ≤ ((((((⟨#[72, 84, 84, 80, 47, 49, 46, 49, 32]⟩ : ByteArray) ++ t206) ++ (⟨#[32]⟩ : ByteArray)) ++ t207) ++ (⟨#[13, 10, 67, 111, 110, 116, 101, 110, 116, 45, 84, 121, 112, 101, 58, 32, 97, 112, 112, 108, 105, 99, 97, 116, 105, 111, 110, 47, 106, 115, 111, 110, 13, 10, 67, 111, 110, 116, 101, 110, 116, 45, 76, 101, 110, 103, 116, 104, 58, 32]⟩ : ByteArray)).size : Int) then (if ((((((⟨#[72, 84, 84, 80, 47, 49, 46, 49, 32]⟩ : ByteArray) ++ t206) ++ (⟨#[32]⟩ : ByteArray)) ++ t207) ++ (⟨#[13, 10, 67, 111, 110, 116, 101, 110, 116, 45, 84, 121, 112, 101, 58, 32, 97, 112, 112, 108, 105, 99, 97, 116, 105, 111, 110, 47, 106, 115, 111, 110, 13, 10, 67, 111, 110, 116, 101, 110, 116, 45, 76, 101, 110, 103, 116, 104, 58, 32]⟩ : ByteArray)).size : Int) ≤ (a0.size : Int) then (fascineref12_Answer.j2 k2 a0 t205 x6_2 (x6_2 == 1) (((((⟨#[72, 84, 84, 80, 47, 49, 46, 49, 32]⟩ : ByteArray) ++ t206) ++ (⟨#[32]⟩ : ByteArray)) ++ t207) ++ (⟨#[13, 10, 67, 111, 110, 116, 101, 110, 116, 45, 84, 121, 112, 101, 58, 32, 97, 112, 112, 108, 105, 99, 97, 116, 105, 111, 110, 47, 106, 115, 111, 110, 13, 10, 67, 111, 110, 116, 101, 110, 116, 45, 76, 101, 110, 103, 116, 104, 58, 32]⟩ : ByteArray)) ((a0.extract 0 (((((((⟨#[72, 84, 84, 80, 47, 49, 46, 49, 32]⟩ : ByteArray) ++ t206) ++ (⟨#[32]⟩ : ByteArray)) ++ t207) ++ (⟨#[13, 10, 67, 111, 110, 116, 101, 110, 116, 45, 84, 121, 112, 101, 58, 32, 97, 112, 112, 108, 105, 99, 97, 116, 105, 111, 110, 47, 106, 115, 111, 110, 13, 10, 67, 111, 110, 116, 101, 110, 116, 45, 76, 101, 110, 103, 116, 104, 58, 32]⟩ : ByteArray)).size : Int) : Int).toNat).toList != (((((⟨#[72, 84, 84, 80, 47, 49, 46, 49, 32]⟩ : ByteArray) ++ t206) ++ (⟨#[32]⟩ : ByteArray)) ++ t207) ++ (⟨#[13, 10, 67, 111, 110, 116, 101, 110, 116, 45, 84, 121, 112, 101, 58, 32, 97, 112, 112, 108, 105, 99, 97, 116, 105, 111, 110, 47, 106, 115, 111, 110, 13, 10, 67, 111, 110, 116, 101, 110, 116, 45, 76, 101, 110, 103, 116, 104, 58, 32]⟩ : ByteArray)).toList)) else (none)) else (none))) else (none)) else (none))) else (none)) else (none)) = some (r1, r2, r3) := H
          have A12 := Aside0.mk A120
          clear A120
          by_cases c13 : 9 + t206.size ≤ 9223372036854775807
          ·rw [if_pos c13] at H
           have c13b0 := eq_true c13
           have c13b1 : decide (9 + t206.size ≤ 9223372036854775807) = true := decide_eq_true c13
           try have c13b2 : (9223372036854775807 < 9 + t206.size) = False := eq_false (Nat.not_lt.2 c13)
           by_cases c14 : 9 + t206.size + 1 ≤ 9223372036854775807
           ·rw [if_pos c14] at H
            have c14b0 := eq_true c14
            have c14b1 : decide (9 + t206.size + 1 ≤ 9223372036854775807) = true := decide_eq_true c14
            try have c14b2 : (9223372036854775807 < 9 + t206.size + 1) = False := eq_false (Nat.not_lt.2 c14)
            replace H := Option.bind_eq_some_iff.mp H
            obtain ⟨t207, A150, H⟩ := H
            replace H : (if 9 + t206.size + 1 + t207.size ≤ 9223372036854775807 then (if 9 + t206.size + 1 + t207.size + 50 ≤ 9223372036854775807 then (if (a0.size : Int) < ((((((⟨#[72, 84, 84, 80, 47, 49, 46, 49, 32]⟩ : ByteArray) ++ t206) ++ (⟨#[32]⟩ : ByteArray)) ++ t207) ++ (⟨#[13, 10, 67, 111, 110, 116, 101, 110, 116, 45, 84, 121, 112, 101, 58, 32, 97, 112, 112, 108, 105, 99, 97, 116, 105, 111, 110, 47, 106, 115, 111, 110, 13, 10, 67, 111, 110, 116, 101, 110, 116, 45, 76, 101, 110, 103, 116, 104, 58, 32]⟩ : ByteArray)).size : Int) then (fascineref12_Answer.j2 k2 a0 t205 x6_2 (x6_2 == 1) (((((⟨#[72, 84, 84, 80, 47, 49, 46, 49, 32]⟩ : ByteArray) ++ t206) ++ (⟨#[32]⟩ : ByteArray)) ++ t207) ++ (⟨#[13, 10, 67, 111, 110, 116, 101, 110, 116, 45, 84, 121, 112, 101, 58, 32, 97, 112, 112, 108, 105, 99, 97, 116, 105, 111, 110, 47, 106, 115, 111, 110, 13, 10, 67, 111, 110, 116, 101, 110, 116, 45, 76, 101, 110, 103, 116, 104, 58, 32]⟩ : ByteArray)) true) else (if 0 ≤ ((((((⟨#[72, 84, 84, 80, 47, 49, 46, 49, 32]⟩ : ByteArray) ++ t206) ++ (⟨#[32]⟩ : ByteArray)) ++ t207) ++ (⟨#[13, 10, 67, 111, 110, 116, 101, 110, 116, 45, 84, 121, 112, 101, 58, 32, 97, 112, 112, 108, 105, 99, 97, 116, 105, 111, 110, 47, 106, 115, 111, 110, 13, 10, 67, 111, 110, 116, 101, 110, 116, 45, 76, 101, 110, 103, 116, 104, 58, 32]⟩ : ByteArray)).size : Int) then (if ((((((⟨#[72, 84, 84, 80, 47, 49, 46, 49, 32]⟩ : ByteArray) ++ t206) ++ (⟨#[32]⟩ : ByteArray)) ++ t207) ++ (⟨#[13, 10, 67, 111, 110, 116, 101, 110, 116, 45, 84, 121, 112, 101, 58, 32, 97, 112, 112, 108, 105, 99, 97, 116, 105, 111, 110, 47, 106, 115, 111, 110, 13, 10, 67, 111, 110, 116, 101, 110, 116, 45, 76, 101, 110, 103, 116, 104, 58, 32]⟩ : ByteArray)).size : Int) ≤ (a0.size : Int) then (fascineref12_Answer.j2 k2 a0 t205 x6_2 (x6_2 == 1) (((((⟨#[72, 84, 84, 80, 47, 49, 46, 49, 32]⟩ : ByteArray) ++ t206) ++ (⟨#[32]⟩ : ByteArray)) ++ t207) ++ (⟨#[13, 10, 67, 111, 110, 116, 101, 110, 116, 45, 84, 121, 112, 101, 58, 32, 97, 112, 112, 108, 105, 99, 97, 116, 105, 111, 110, 47, 106, 115, 111, 110, 13, 10, 67, 111, 110, 116, 101, 110, 116, 45, 76, 101, 110, 103, 116, 104, 58, 32]⟩ : ByteArray)) ((a0.extract 0 (((((((⟨#[72, 84, 84, 80, 47, 49, 46, 49, 32]⟩ : ByteArray) ++ t206) ++ (⟨#[32]⟩ : ByteArray)) ++ t207) ++ (⟨#[13, 10, 67, 111, 110, 116, 101, 110, 116, 45, 84, 121, 112, 101, 58, 32, 97, 112, 112, 108, 105, 99, 97, 116, 105, 111, 110, 47, 106, 115, 111, 110, 13, 10, 67, 111, 110, 116, 101, 110, 116, 45, 76, 101, 110, 103, 116, 104, 58, 32]⟩ : ByteArray)).size : Int) : Int).toNat).toList != (((((⟨#[72, 84, 84, 80, 47, 49, 46, 49, 32]⟩ : ByteArray) ++ t206) ++ (⟨#[32]⟩ : ByteArray)) ++ t207) ++ (⟨#[13, 10, 67, 111, 110, 116, 101, 110, 116, 45, 84, 121, 112, 101, 58, 32, 97, 112, 112, 108, 105, 99, 97, 116, 105, 111, 110, 47, 106, 115, 111, 110, 13, 10, 67, 111, 110, 116, 101, 110, 116, 45, 76, 101, 110, 103, 116, 104, 58, 32]⟩ : ByteArray)).toList)) else (none)) else (none))) else (none)) else (none)) = some (r1, r2, r3) := H
            have A15 := Aside0.mk A150
            clear A150
            by_cases c16 : 9 + t206.size + 1 + t207.size ≤ 9223372036854775807
            ·rw [if_pos c16] at H
             have c16b0 := eq_true c16
             have c16b1 : decide (9 + t206.size + 1 + t207.size ≤ 9223372036854775807) = true := decide_eq_true c16
             try have c16b2 : (9223372036854775807 < 9 + t206.size + 1 + t207.size) = False := eq_false (Nat.not_lt.2 c16)
             by_cases c17 : 9 + t206.size + 1 + t207.size + 50 ≤ 9223372036854775807
             ·rw [if_pos c17] at H
              have c17b0 := eq_true c17
              have c17b1 : decide (9 + t206.size + 1 + t207.size + 50 ≤ 9223372036854775807) = true := decide_eq_true c17
              try have c17b2 : (9223372036854775807 < 9 + t206.size + 1 + t207.size + 50) = False := eq_false (Nat.not_lt.2 c17)
              have HC18 := Aside0.mk H
              clear H
              go_upto_region 11 with (first | (go_at_call 13; (with_reducible refine (fascineref12_Dec.calls k2 t205 t206 _ A12.out).mono ?_); rintro e w19 ⟨rfl, hb⟩; have n0_ := Aside0.mk (below_step (by repeat (first | (with_reducible first | exact HB.out | apply below_alloc | apply pw_below_drewN | apply below_drew1) | exact HB.out)) hb); clear HB; have HB := n0_; clear n0_; (try clear hb); (try clear hb2); (try clear hk); (try clear hi)) | (go_at_call 30; (with_reducible refine (fascineref12_words.calls k2 t205 t207 _ A15.out).mono ?_); rintro e w20 ⟨rfl, hb⟩; have n0_ := Aside0.mk (below_step (by repeat (first | (with_reducible first | exact HB.out | apply below_alloc | apply pw_below_drewN | apply below_drew1) | exact HB.out)) hb); clear HB; have HB := n0_; clear n0_; (try clear hb); (try clear hb2); (try clear hk); (try clear hi)))
              repeat (go_quiet (first | (go_at_call 13; (with_reducible refine (fascineref12_Dec.calls k2 t205 t206 _ A12.out).mono ?_); rintro e w19 ⟨rfl, hb⟩; have n0_ := Aside0.mk (below_step (by repeat (first | (with_reducible first | exact HB.out | apply below_alloc | apply pw_below_drewN | apply below_drew1) | exact HB.out)) hb); clear HB; have HB := n0_; clear n0_; (try clear hb); (try clear hb2); (try clear hk); (try clear hi)) | (go_at_call 30; (with_reducible refine (fascineref12_words.calls k2 t205 t207 _ A15.out).mono ?_); rintro e w20 ⟨rfl, hb⟩; have n0_ := Aside0.mk (below_step (by repeat (first | (with_reducible first | exact HB.out | apply below_alloc | apply pw_below_drewN | apply below_drew1) | exact HB.out)) hb); clear HB; have HB := n0_; clear n0_; (try clear hb); (try clear hb2); (try clear hk); (try clear hi))); go_upto_region 11 with (first | (go_at_call 13; (with_reducible refine (fascineref12_Dec.calls k2 t205 t206 _ A12.out).mono ?_); rintro e w19 ⟨rfl, hb⟩; have n0_ := Aside0.mk (below_step (by repeat (first | (with_reducible first | exact HB.out | apply below_alloc | apply pw_below_drewN | apply below_drew1) | exact HB.out)) hb); clear HB; have HB := n0_; clear n0_; (try clear hb); (try clear hb2); (try clear hk); (try clear hi)) | (go_at_call 30; (with_reducible refine (fascineref12_words.calls k2 t205 t207 _ A15.out).mono ?_); rintro e w20 ⟨rfl, hb⟩; have n0_ := Aside0.mk (below_step (by repeat (first | (with_reducible first | exact HB.out | apply below_alloc | apply pw_below_drewN | apply below_drew1) | exact HB.out)) hb); clear HB; have HB := n0_; clear n0_; (try clear hb); (try clear hb2); (try clear hk); (try clear hi))))
              (try simp only [Act.put, List.setIfInBounds_toArray, List.set_cons_zero, List.set_cons_succ])
              generalize (((((⟨#[72, 84, 84, 80, 47, 49, 46, 49, 32]⟩ : ByteArray) ++ t206) ++ (⟨#[32]⟩ : ByteArray)) ++ t207) ++ (⟨#[13, 10, 67, 111, 110, 116, 101, 110, 116, 45, 84, 121, 112, 101, 58, 32, 97, 112, 112, 108, 105, 99, 97, 116, 105, 111, 110, 47, 106, 115, 111, 110, 13, 10, 67, 111, 110, 116, 101, 110, 116, 45, 76, 101, 110, 103, 116, 104, 58, 32]⟩ : ByteArray)) = hd_ at HC18 ⊢
              go_cut [52] (fun v52 wc => ∃ (kq : Nat) (x52_17 : Bool), v52 = .bool x52_17 ∧ Aside0 (fascineref12_Answer.j2 kq a0 t205 x6_2 (x6_2 == 1) hd_ x52_17 = some (r1, r2, r3)) ∧ Aside0 (kq ≤ k2) ∧ Aside0 (Below w.heap.size w wc))
              case first =>
               have H := HC18.out
               clear HC18
               by_cases c21 : (a0.size : Int) < (hd_.size : Int)
               ·rw [if_pos c21] at H
                have c21b0 : decide ((a0.size : Int) < (hd_.size : Int)) = true := decide_eq_true c21
                have c21b1 : decide (a0.size < hd_.size) = true := decide_eq_true (Int.ofNat_lt.mp c21)
                clear c21
                (first | rw [c21b0] | (simp only [i64_w, i32_w]; rw [c21b0]) | skip)
                have H' := Aside0.mk H
                clear H
                go_wp2
                repeat (go_quiet (fail); try go_wp2)
                go_meet
                case rel => exact ⟨_, (true), (by first | rfl | (simp; done) | (simp [*]; done)), H', ⟨by have := HJ1.out; have := HK2.out; first | omega | exact Nat.le_refl _⟩, ⟨by repeat (first | (with_reducible first | exact HB.out | apply below_alloc | apply pw_below_drewN | apply below_drew1) | exact HB.out)⟩⟩
               ·rw [if_neg c21] at H
                have c21b0 : decide ((a0.size : Int) < (hd_.size : Int)) = false := decide_eq_false c21
                have c21b1 : decide (a0.size < hd_.size) = false := decide_eq_false (fun h => c21 (Int.ofNat_lt.mpr h))
                clear c21
                (first | rw [c21b0] | (simp only [i64_w, i32_w]; rw [c21b0]) | skip)
                by_cases c22 : 0 ≤ (hd_.size : Int)
                ·rw [if_pos c22] at H
                 have c22b0 := eq_true c22
                 have c22b1 : decide (0 ≤ (hd_.size : Int)) = true := decide_eq_true c22
                 by_cases c23 : (hd_.size : Int) ≤ (a0.size : Int)
                 ·rw [if_pos c23] at H
                  have c23b0 := eq_true c23
                  have c23b1 : decide ((hd_.size : Int) ≤ (a0.size : Int)) = true := decide_eq_true c23
                  have H' := Aside0.mk H
                  clear H
                  go_wp2
                  repeat (go_quiet (fail); try go_wp2)
                  go_meet
                  case rel => exact ⟨_, (((a0.extract 0 hd_.size).toList != hd_.toList)), (by first | rfl | (simp; done) | (simp [*]; done)), H', ⟨by have := HJ1.out; have := HK2.out; first | omega | exact Nat.le_refl _⟩, ⟨by repeat (first | (with_reducible first | exact HB.out | apply below_alloc | apply pw_below_drewN | apply below_drew1) | exact HB.out)⟩⟩
                 ·rw [if_neg c23] at H
                  exact absurd H (by simp)
                ·rw [if_neg c22] at H
                 exact absurd H (by simp)
              case rest =>
               clear HC18
               try clear c1
               try clear c2
               try clear p2
               try clear c3
               try clear c3b0
               try clear c3b1
               try clear c4
               try clear c4b0
               try clear c4b1
               try clear c5
               try clear c5b0
               try clear c5b1
               try clear c6
               try clear c7
               try clear c7b0
               try clear c7b1
               try clear c8
               try clear c8b0
               try clear c8b1
               try clear c10
               try clear c10b0
               try clear c11
               try clear c11b0
               try clear c13
               try clear c13b0
               try clear c13b1
               try clear c13b2
               try clear c14
               try clear c14b0
               try clear c14b1
               try clear c14b2
               try clear c16
               try clear c16b0
               try clear c16b1
               try clear c16b2
               try clear c17
               try clear c17b0
               try clear c17b1
               try clear c17b2
               try clear c21
               try clear c21b0
               try clear c21b1
               try clear c22
               try clear c22b0
               try clear c22b1
               try clear c23
               try clear c23b0
               try clear c23b1
               try clear p2
               obtain ⟨kq, x52_17, rfl, HA, HJ17, HB⟩ := hcut
               cases kq with
               | zero => exact absurd HA.out (by simp [fascineref12_Answer.j2])
               | succ kj17 =>
                have H := HA.out
                clear HA
                simp only [fascineref12_Answer.j2] at H
                by_cases c24 : x52_17 = true
                ·subst c24
                 have H1 : (fascineref12_Answer.l0 kj17 a0 t205 (wrap64 (x6_2 + 1))) = some (r1, r2, r3) := by rw [if_pos rfl] at H; exact H
                 clear H
                 have H := H1
                 clear H1
                 have H' := Aside0.mk H
                 clear H
                 go_wp2
                 repeat (go_quiet (fail); try go_wp2)
                 go_roundg kj17
                 case measure => have := HJ1.out; have := HK2.out; have := HJ17.out; omega
                 case rel => exact ⟨(wrap64 (x6_2 + 1)), (by first | rfl | (simp; done) | (simp [*]; done)), H', ⟨by have := HJ1.out; have := HK2.out; have := HJ17.out; omega⟩, ⟨by repeat (first | (with_reducible first | exact HB.out | apply below_alloc | apply pw_below_drewN | apply below_drew1) | exact HB.out)⟩⟩
                ·replace c24 := Bool.eq_false_iff.mpr c24
                 subst c24
                 have H1 : (fascineref12_Answer.l1 kj17 a0 t205 x6_2 (x6_2 == 1) hd_ (hd_.size : Int)) = some (r1, r2, r3) := by rw [if_neg (show ¬ (false = true) by decide)] at H; exact H
                 clear H
                 have H := H1
                 clear H1
                 have HC25 := Aside0.mk H
                 clear H
                 go_upto_block 2 with (fail)
                 repeat (go_quiet (fail); go_upto_block 2 with (fail))
                 go_cut [9] (fun v9 wc => ∃ (kq : Nat) (x9_24 : Int), v9 = .int .i64 x9_24 ∧ Aside0 (fascineref12_Answer.j4 kq a0 t205 x6_2 (x6_2 == 1) hd_ x9_24 = some (r1, r2, r3)) ∧ Aside0 (kq ≤ kj17) ∧ Aside0 (Below w.heap.size w wc))
                 case first =>
                  have H := HC25.out
                  clear HC25
                  have H' := Aside0.mk H
                  clear H
                  go_wp2
                  repeat (go_quiet (fail); try go_wp2)
                  go_loopg [9] kj17 (fun kq v9 w' => ∃ (x9_4 : Int), v9 = .int .i64 x9_4 ∧ Aside0 (fascineref12_Answer.l1 kq a0 t205 x6_2 (x6_2 == 1) hd_ x9_4 = some (r1, r2, r3)) ∧ Aside0 (kq ≤ kj17) ∧ Aside0 (Below w.heap.size w w'))
                  case atStart => exact ⟨((hd_.size : Int)), (by first | rfl | (simp; done) | (simp [*]; done)), H', ⟨Nat.le_refl _⟩, ⟨by repeat (first | (with_reducible first | exact HB.out | apply below_alloc | apply pw_below_drewN | apply below_drew1) | exact HB.out)⟩⟩
                  case round =>
                   clear H'
                   try clear c1
                   try clear c2
                   try clear p2
                   try clear c3
                   try clear c3b0
                   try clear c3b1
                   try clear c4
                   try clear c4b0
                   try clear c4b1
                   try clear c5
                   try clear c5b0
                   try clear c5b1
                   try clear c6
                   try clear p6
                   try clear c7
                   try clear c7b0
                   try clear c7b1
                   try clear c8
                   try clear c8b0
                   try clear c8b1
                   try clear c10
                   try clear c10b0
                   try clear c11
                   try clear c11b0
                   try clear c13
                   try clear c13b0
                   try clear c13b1
                   try clear c13b2
                   try clear c14
                   try clear c14b0
                   try clear c14b1
                   try clear c14b2
                   try clear c16
                   try clear c16b0
                   try clear c16b1
                   try clear c16b2
                   try clear c17
                   try clear c17b0
                   try clear c17b1
                   try clear c17b2
                   try clear c21
                   try clear c21b0
                   try clear c21b1
                   try clear c22
                   try clear c22b0
                   try clear c22b1
                   try clear c23
                   try clear c23b0
                   try clear c23b1
                   try clear c24
                   try clear p2
                   obtain ⟨x9_4, rfl, HA, HK4, HB⟩ := hrel
                   cases gk with
                   | zero => exact absurd HA.out (by simp [fascineref12_Answer.l1])
                   | succ k4 =>
                    have H := HA.out
                    clear HA
                    simp only [fascineref12_Answer.l1] at H
                    by_cases c26 : x9_4 < (a0.size : Int)
                    ·rw [if_pos c26] at H
                     have c26b0 : decide (x9_4 < (a0.size : Int)) = true := decide_eq_true c26
                     clear c26
                     (first | rw [c26b0] | (simp only [i64_w, i32_w]; rw [c26b0]) | skip)
                     by_cases c27 : 0 ≤ x9_4
                     ·rw [if_pos c27] at H
                      have c27b0 : decide (0 ≤ x9_4) = true := decide_eq_true c27
                      clear c27
                      by_cases c29 : (bt a0 x9_4) ≥ 48
                      ·rw [if_pos c29] at H
                       have c29b0 : decide (48 ≤ (bt a0 x9_4)) = true := decide_eq_true c29
                       clear c29
                       by_cases c31 : (bt a0 x9_4) ≤ 57
                       ·rw [if_pos c31] at H
                        have c31b0 : decide ((bt a0 x9_4) ≤ 57) = true := decide_eq_true c31
                        clear c31
                        by_cases c32 : (wrap64 (x9_4 - (hd_.size : Int))) < 10
                        ·rw [if_pos c32] at H
                         have c32b0 : decide ((wrap64 (x9_4 - (hd_.size : Int))) < 10) = true := decide_eq_true c32
                         clear c32
                         have H' := Aside0.mk H
                         clear H
                         have p28 : 0 ≤ (x9_4 : Int) := of_decide_eq_true (by first | (with_reducible assumption) | assumption)
                         have q28 : x9_4 < (a0.size : Int) := of_decide_eq_true (by first | (with_reducible assumption) | assumption)
                         have hx28 := bt_at a0 x9_4
                         replace p28 := eq_true p28
                         replace q28 := eq_true q28
                         have p30 : 0 ≤ (x9_4 : Int) := of_decide_eq_true (by first | (with_reducible assumption) | assumption)
                         have q30 : x9_4 < (a0.size : Int) := of_decide_eq_true (by first | (with_reducible assumption) | assumption)
                         have hx30 := bt_at a0 x9_4
                         replace p30 := eq_true p30
                         replace q30 := eq_true q30
                         go_wp2
                         repeat (go_quiet (fail); try go_wp2)
                         go_roundg k4
                         case measure => have := HJ1.out; have := HK2.out; have := HJ17.out; have := HK4.out; omega
                         case rel => exact ⟨(wrap64 (x9_4 + 1)), (by first | rfl | (simp; done) | (simp [*]; done)), H', ⟨by have := HJ1.out; have := HK2.out; have := HJ17.out; have := HK4.out; omega⟩, ⟨by repeat (first | (with_reducible first | exact HB.out | apply below_alloc | apply pw_below_drewN | apply below_drew1) | exact HB.out)⟩⟩
                        ·rw [if_neg c32] at H
                         have c32b0 : decide ((wrap64 (x9_4 - (hd_.size : Int))) < 10) = false := decide_eq_false c32
                         clear c32
                         have H' := Aside0.mk H
                         clear H
                         have p28 : 0 ≤ (x9_4 : Int) := of_decide_eq_true (by first | (with_reducible assumption) | assumption)
                         have q28 : x9_4 < (a0.size : Int) := of_decide_eq_true (by first | (with_reducible assumption) | assumption)
                         have hx28 := bt_at a0 x9_4
                         replace p28 := eq_true p28
                         replace q28 := eq_true q28
                         have p30 : 0 ≤ (x9_4 : Int) := of_decide_eq_true (by first | (with_reducible assumption) | assumption)
                         have q30 : x9_4 < (a0.size : Int) := of_decide_eq_true (by first | (with_reducible assumption) | assumption)
                         have hx30 := bt_at a0 x9_4
                         replace p30 := eq_true p30
                         replace q30 := eq_true q30
                         go_wp2
                         repeat (go_quiet (fail); try go_wp2)
                         go_meet
                         case rel => exact ⟨_, (x9_4), (by first | rfl | (simp; done) | (simp [*]; done)), H', ⟨by have := HJ1.out; have := HK2.out; have := HJ17.out; have := HK4.out; first | omega | exact Nat.le_refl _⟩, ⟨by repeat (first | (with_reducible first | exact HB.out | apply below_alloc | apply pw_below_drewN | apply below_drew1) | exact HB.out)⟩⟩
                       ·rw [if_neg c31] at H
                        have c31b0 : decide ((bt a0 x9_4) ≤ 57) = false := decide_eq_false c31
                        clear c31
                        have H' := Aside0.mk H
                        clear H
                        have p28 : 0 ≤ (x9_4 : Int) := of_decide_eq_true (by first | (with_reducible assumption) | assumption)
                        have q28 : x9_4 < (a0.size : Int) := of_decide_eq_true (by first | (with_reducible assumption) | assumption)
                        have hx28 := bt_at a0 x9_4
                        replace p28 := eq_true p28
                        replace q28 := eq_true q28
                        have p30 : 0 ≤ (x9_4 : Int) := of_decide_eq_true (by first | (with_reducible assumption) | assumption)
                        have q30 : x9_4 < (a0.size : Int) := of_decide_eq_true (by first | (with_reducible assumption) | assumption)
                        have hx30 := bt_at a0 x9_4
                        replace p30 := eq_true p30
                        replace q30 := eq_true q30
                        go_wp2
                        repeat (go_quiet (fail); try go_wp2)
                        go_meet
                        case rel => exact ⟨_, (x9_4), (by first | rfl | (simp; done) | (simp [*]; done)), H', ⟨by have := HJ1.out; have := HK2.out; have := HJ17.out; have := HK4.out; first | omega | exact Nat.le_refl _⟩, ⟨by repeat (first | (with_reducible first | exact HB.out | apply below_alloc | apply pw_below_drewN | apply below_drew1) | exact HB.out)⟩⟩
                      ·rw [if_neg c29] at H
                       have c29b0 : decide (48 ≤ (bt a0 x9_4)) = false := decide_eq_false c29
                       clear c29
                       have H' := Aside0.mk H
                       clear H
                       have p28 : 0 ≤ (x9_4 : Int) := of_decide_eq_true (by first | (with_reducible assumption) | assumption)
                       have q28 : x9_4 < (a0.size : Int) := of_decide_eq_true (by first | (with_reducible assumption) | assumption)
                       have hx28 := bt_at a0 x9_4
                       replace p28 := eq_true p28
                       replace q28 := eq_true q28
                       go_wp2
                       repeat (go_quiet (fail); try go_wp2)
                       go_meet
                       case rel => exact ⟨_, (x9_4), (by first | rfl | (simp; done) | (simp [*]; done)), H', ⟨by have := HJ1.out; have := HK2.out; have := HJ17.out; have := HK4.out; first | omega | exact Nat.le_refl _⟩, ⟨by repeat (first | (with_reducible first | exact HB.out | apply below_alloc | apply pw_below_drewN | apply below_drew1) | exact HB.out)⟩⟩
                     ·rw [if_neg c27] at H
                      exact absurd H (by simp)
                    ·rw [if_neg c26] at H
                     have c26b0 : decide (x9_4 < (a0.size : Int)) = false := decide_eq_false c26
                     clear c26
                     (first | rw [c26b0] | (simp only [i64_w, i32_w]; rw [c26b0]) | skip)
                     have H' := Aside0.mk H
                     clear H
                     go_wp2
                     repeat (go_quiet (fail); try go_wp2)
                     go_meet
                     case rel => exact ⟨_, (x9_4), (by first | rfl | (simp; done) | (simp [*]; done)), H', ⟨by have := HJ1.out; have := HK2.out; have := HJ17.out; have := HK4.out; first | omega | exact Nat.le_refl _⟩, ⟨by repeat (first | (with_reducible first | exact HB.out | apply below_alloc | apply pw_below_drewN | apply below_drew1) | exact HB.out)⟩⟩
                 case rest =>
                  clear HC25
                  try clear c1
                  try clear c2
                  try clear p2
                  try clear q2
                  try clear hx2
                  try clear c3
                  try clear c3b0
                  try clear c3b1
                  try clear p3
                  try clear q3
                  try clear hx3
                  try clear c4
                  try clear c4b0
                  try clear c4b1
                  try clear c5
                  try clear c5b0
                  try clear c5b1
                  try clear c6
                  try clear p6
                  try clear c7
                  try clear c7b0
                  try clear c7b1
                  try clear c8
                  try clear c8b0
                  try clear c8b1
                  try clear c10
                  try clear c10b0
                  try clear c11
                  try clear c11b0
                  try clear c13
                  try clear c13b0
                  try clear c13b1
                  try clear c13b2
                  try clear c14
                  try clear c14b0
                  try clear c14b1
                  try clear c14b2
                  try clear c16
                  try clear c16b0
                  try clear c16b1
                  try clear c16b2
                  try clear c17
                  try clear c17b0
                  try clear c17b1
                  try clear c17b2
                  try clear c21
                  try clear c21b0
                  try clear c21b1
                  try clear c22
                  try clear c22b0
                  try clear c22b1
                  try clear c23
                  try clear c23b0
                  try clear c23b1
                  try clear c24
                  try clear c26
                  try clear c26b0
                  try clear c27
                  try clear c27b0
                  try clear p28
                  try clear q28
                  try clear hx28
                  try clear c29
                  try clear c29b0
                  try clear p30
                  try clear q30
                  try clear hx30
                  try clear c31
                  try clear c31b0
                  try clear c32
                  try clear c32b0
                  try clear p2
                  try clear p28
                  try clear p30
                  try clear p6
                  try clear q28
                  try clear q30
                  obtain ⟨kq, x9_24, rfl, HA, HJ24, HB⟩ := hcut
                  cases kq with
                  | zero => exact absurd HA.out (by simp [fascineref12_Answer.j4])
                  | succ kj24 =>
                   have H := HA.out
                   clear HA
                   simp only [fascineref12_Answer.j4] at H
                   by_cases c33 : 0 ≤ (hd_.size : Int)
                   ·rw [if_pos c33] at H
                    have c33b0 := eq_true c33
                    have c33b1 : decide (0 ≤ (hd_.size : Int)) = true := decide_eq_true c33
                    by_cases c34 : (hd_.size : Int) ≤ x9_24
                    ·rw [if_pos c34] at H
                     have c34b0 := eq_true c34
                     have c34b1 : decide ((hd_.size : Int) ≤ x9_24) = true := decide_eq_true c34
                     by_cases c35 : x9_24 ≤ (a0.size : Int)
                     ·rw [if_pos c35] at H
                      have c35b0 := eq_true c35
                      have c35b1 : decide (x9_24 ≤ (a0.size : Int)) = true := decide_eq_true c35
                      clear c35
                      replace H := Option.bind_eq_some_iff.mp H
                      obtain ⟨t208, A360, H⟩ := H
                      replace H : (if t208 < 0 then (fascineref12_Answer.l0 kj24 a0 t205 (wrap64 (x6_2 + 1))) else (if (x6_2 == 1) = true then (if (a0.size : Int) < (wrap64 ((wrap64 (x9_24 + 23)) + t208)) then (fascineref12_Answer.l0 kj24 a0 t205 (wrap64 (x6_2 + 1))) else (if 0 ≤ x9_24 then (if x9_24 ≤ (wrap64 (x9_24 + 23)) then (if (wrap64 (x9_24 + 23)) ≤ (a0.size : Int) then (if (a0.extract (x9_24 : Int).toNat ((wrap64 (x9_24 + 23)) : Int).toNat).toList = ([13, 10, 67, 111, 110, 110, 101, 99, 116, 105, 111, 110, 58, 32, 99, 108, 111, 115, 101, 13, 10, 13, 10] : List UInt8) then (if 0 ≤ (wrap64 (x9_24 + 23)) then (if (wrap64 (x9_24 + 23)) ≤ (wrap64 ((wrap64 (x9_24 + 23)) + t208)) then (if (wrap64 ((wrap64 (x9_24 + 23)) + t208)) ≤ (a0.size : Int) then (some (t205, a0.extract ((wrap64 (x9_24 + 23)) : Int).toNat ((wrap64 ((wrap64 (x9_24 + 23)) + t208)) : Int).toNat, wrap64 ((wrap64 (x9_24 + 23)) + t208))) else (none)) else (none)) else (none)) else (fascineref12_Answer.l0 kj24 a0 t205 (wrap64 (x6_2 + 1)))) else (none)) else (none)) else (none))) else (if (a0.size : Int) < (wrap64 ((wrap64 (x9_24 + 4)) + t208)) then (fascineref12_Answer.l0 kj24 a0 t205 (wrap64 (x6_2 + 1))) else (if 0 ≤ x9_24 then (if x9_24 ≤ (wrap64 (x9_24 + 4)) then (if (wrap64 (x9_24 + 4)) ≤ (a0.size : Int) then (if (a0.extract (x9_24 : Int).toNat ((wrap64 (x9_24 + 4)) : Int).toNat).toList = ([13, 10, 13, 10] : List UInt8) then (if 0 ≤ (wrap64 (x9_24 + 4)) then (if (wrap64 (x9_24 + 4)) ≤ (wrap64 ((wrap64 (x9_24 + 4)) + t208)) then (if (wrap64 ((wrap64 (x9_24 + 4)) + t208)) ≤ (a0.size : Int) then (some (t205, a0.extract ((wrap64 (x9_24 + 4)) : Int).toNat ((wrap64 ((wrap64 (x9_24 + 4)) + t208)) : Int).toNat, wrap64 ((wrap64 (x9_24 + 4)) + t208))) else (none)) else (none)) else (none)) else (fascineref12_Answer.l0 kj24 a0 t205 (wrap64 (x6_2 + 1)))) else (none)) else (none)) else (none))))) = some (r1, r2, r3) := H
                      (try simp only [Int.toNat_natCast] at A360)
                      have A36 := Aside0.mk A360
                      clear A360
                      by_cases c37 : t208 < 0
                      ·rw [if_pos c37] at H
                       have c37b0 : decide (t208 < 0) = true := decide_eq_true c37
                       clear c37
                       have H' := Aside0.mk H
                       clear H
                       go_wp2_with (first | (go_at_call 27; (with_reducible refine (fascineref12_length.calls kj24 (a0.extract hd_.size (x9_24 : Int).toNat) t208 _ A36.out).mono ?_); rintro e w' ⟨rfl, ⟨nd, rfl⟩⟩; (try first | exact ⟨rfl, _, World.drewN_drewN _ _ _⟩ | exact ⟨rfl, _, Eq.trans (World.drewN_drewN _ _ _) (congrArg (World.drewN _) (Nat.add_assoc _ _ _))⟩)))
                       repeat (go_quiet (first | (go_at_call 27; (with_reducible refine (fascineref12_length.calls kj24 (a0.extract hd_.size (x9_24 : Int).toNat) t208 _ A36.out).mono ?_); rintro e w' ⟨rfl, ⟨nd, rfl⟩⟩; (try first | exact ⟨rfl, _, World.drewN_drewN _ _ _⟩ | exact ⟨rfl, _, Eq.trans (World.drewN_drewN _ _ _) (congrArg (World.drewN _) (Nat.add_assoc _ _ _))⟩))); try go_wp2_with (first | (go_at_call 27; (with_reducible refine (fascineref12_length.calls kj24 (a0.extract hd_.size (x9_24 : Int).toNat) t208 _ A36.out).mono ?_); rintro e w' ⟨rfl, ⟨nd, rfl⟩⟩; (try first | exact ⟨rfl, _, World.drewN_drewN _ _ _⟩ | exact ⟨rfl, _, Eq.trans (World.drewN_drewN _ _ _) (congrArg (World.drewN _) (Nat.add_assoc _ _ _))⟩))))
                       go_roundg kj24
                       case measure => have := HJ1.out; have := HK2.out; have := HJ17.out; have := HJ24.out; omega
                       case rel => exact ⟨(wrap64 (x6_2 + 1)), (by first | rfl | (simp; done) | (simp [*]; done)), H', ⟨by have := HJ1.out; have := HK2.out; have := HJ17.out; have := HJ24.out; omega⟩, ⟨by repeat (first | (with_reducible first | exact HB.out | apply below_alloc | apply pw_below_drewN | apply below_drew1) | exact HB.out)⟩⟩
                      ·rw [if_neg c37] at H
                       have c37b0 : decide (t208 < 0) = false := decide_eq_false c37
                       clear c37
                       by_cases c38 : (x6_2 == 1) = true
                       ·rw [if_pos c38] at H
                        have c38b0 : (x6_2 == 1) = true := c38
                        (try (have c38b1 : decide (x6_2 = 1) = true := by simpa using c38))
                        (try (have c38b2 : (x6_2 == 1) = true := by simpa using c38))
                        clear c38
                        by_cases c39 : (a0.size : Int) < (wrap64 ((wrap64 (x9_24 + 23)) + t208))
                        ·rw [if_pos c39] at H
                         have c39b0 : decide ((a0.size : Int) < (wrap64 ((wrap64 (x9_24 + 23)) + t208))) = true := decide_eq_true c39
                         clear c39
                         have H' := Aside0.mk H
                         clear H
                         go_wp2_with (first | (go_at_call 27; (with_reducible refine (fascineref12_length.calls kj24 (a0.extract hd_.size (x9_24 : Int).toNat) t208 _ A36.out).mono ?_); rintro e w' ⟨rfl, ⟨nd, rfl⟩⟩; (try first | exact ⟨rfl, _, World.drewN_drewN _ _ _⟩ | exact ⟨rfl, _, Eq.trans (World.drewN_drewN _ _ _) (congrArg (World.drewN _) (Nat.add_assoc _ _ _))⟩)))
                         repeat (go_quiet (first | (go_at_call 27; (with_reducible refine (fascineref12_length.calls kj24 (a0.extract hd_.size (x9_24 : Int).toNat) t208 _ A36.out).mono ?_); rintro e w' ⟨rfl, ⟨nd, rfl⟩⟩; (try first | exact ⟨rfl, _, World.drewN_drewN _ _ _⟩ | exact ⟨rfl, _, Eq.trans (World.drewN_drewN _ _ _) (congrArg (World.drewN _) (Nat.add_assoc _ _ _))⟩))); try go_wp2_with (first | (go_at_call 27; (with_reducible refine (fascineref12_length.calls kj24 (a0.extract hd_.size (x9_24 : Int).toNat) t208 _ A36.out).mono ?_); rintro e w' ⟨rfl, ⟨nd, rfl⟩⟩; (try first | exact ⟨rfl, _, World.drewN_drewN _ _ _⟩ | exact ⟨rfl, _, Eq.trans (World.drewN_drewN _ _ _) (congrArg (World.drewN _) (Nat.add_assoc _ _ _))⟩))))
                         go_roundg kj24
                         case measure => have := HJ1.out; have := HK2.out; have := HJ17.out; have := HJ24.out; omega
                         case rel => exact ⟨(wrap64 (x6_2 + 1)), (by first | rfl | (simp; done) | (simp [*]; done)), H', ⟨by have := HJ1.out; have := HK2.out; have := HJ17.out; have := HJ24.out; omega⟩, ⟨by repeat (first | (with_reducible first | exact HB.out | apply below_alloc | apply pw_below_drewN | apply below_drew1) | exact HB.out)⟩⟩
                        ·rw [if_neg c39] at H
                         have c39b0 : decide ((a0.size : Int) < (wrap64 ((wrap64 (x9_24 + 23)) + t208))) = false := decide_eq_false c39
                         clear c39
                         by_cases c40 : 0 ≤ x9_24
                         ·rw [if_pos c40] at H
                          have c40b0 := eq_true c40
                          have c40b1 : decide (0 ≤ x9_24) = true := decide_eq_true c40
                          clear c40
                          by_cases c41 : x9_24 ≤ (wrap64 (x9_24 + 23))
                          ·rw [if_pos c41] at H
                           have c41b0 := eq_true c41
                           have c41b1 : decide (x9_24 ≤ (wrap64 (x9_24 + 23))) = true := decide_eq_true c41
                           by_cases c42 : (wrap64 (x9_24 + 23)) ≤ (a0.size : Int)
                           ·rw [if_pos c42] at H
                            have c42b0 := eq_true c42
                            have c42b1 : decide ((wrap64 (x9_24 + 23)) ≤ (a0.size : Int)) = true := decide_eq_true c42
                            by_cases c43 : (a0.extract (x9_24 : Int).toNat ((wrap64 (x9_24 + 23)) : Int).toNat).toList = ([13, 10, 67, 111, 110, 110, 101, 99, 116, 105, 111, 110, 58, 32, 99, 108, 111, 115, 101, 13, 10, 13, 10] : List UInt8)
                            ·rw [if_pos c43] at H
                             have c43b0 : ((a0.extract (x9_24 : Int).toNat ((wrap64 (x9_24 + 23)) : Int).toNat).toList == ([13, 10, 67, 111, 110, 110, 101, 99, 116, 105, 111, 110, 58, 32, 99, 108, 111, 115, 101, 13, 10, 13, 10] : List UInt8)) = true := beq_iff_eq.mpr c43
                             have c43b1 : ((a0.extract (x9_24 : Int).toNat ((wrap64 (x9_24 + 23)) : Int).toNat).toList != ([13, 10, 67, 111, 110, 110, 101, 99, 116, 105, 111, 110, 58, 32, 99, 108, 111, 115, 101, 13, 10, 13, 10] : List UInt8)) = false := bne_eq_false_iff_eq.mpr c43
                             clear c43
                             obtain ⟨ji44, hji44⟩ : ∃ j_ : Int, (wrap64 (x9_24 + 23)) = j_ := ⟨_, rfl⟩
                             replace H : (if 0 ≤ (ji44) then (if (ji44) ≤ (wrap64 ((ji44) + t208)) then (if (wrap64 ((ji44) + t208)) ≤ (a0.size : Int) then (some (t205, a0.extract ((ji44) : Int).toNat ((wrap64 ((ji44) + t208)) : Int).toNat, wrap64 ((ji44) + t208))) else (none)) else (none)) else (none)) = some (r1, r2, r3) := by first | (rw [hji44] at H; exact H) | (simp only [hji44] at H ⊢; exact H)
                             (try rw [hji44] at c39b0)
                             (try rw [hji44] at c41b0)
                             (try rw [hji44] at c41b1)
                             (try rw [hji44] at c41)
                             (try rw [hji44] at c42b0)
                             (try rw [hji44] at c42b1)
                             (try rw [hji44] at c42)
                             (try rw [hji44] at c43b0)
                             (try rw [hji44] at c43b1)
                             (try rw [hji44] at A36)
                             have hji44w : (IntKind.i64.wrap (x9_24 + 23)) = ji44 := (i64_w _).trans hji44
                             by_cases c45 : 0 ≤ (ji44)
                             ·rw [if_pos c45] at H
                              have c45b0 := eq_true c45
                              have c45b1 : decide (0 ≤ (ji44)) = true := decide_eq_true c45
                              clear c45
                              by_cases c46 : (ji44) ≤ (wrap64 ((ji44) + t208))
                              ·rw [if_pos c46] at H
                               have c46b0 := eq_true c46
                               have c46b1 : decide ((ji44) ≤ (wrap64 ((ji44) + t208))) = true := decide_eq_true c46
                               by_cases c47 : (wrap64 ((ji44) + t208)) ≤ (a0.size : Int)
                               ·rw [if_pos c47] at H
                                have c47b0 := eq_true c47
                                have c47b1 : decide ((wrap64 ((ji44) + t208)) ≤ (a0.size : Int)) = true := decide_eq_true c47
                                simp only [Option.some.injEq, Prod.mk.injEq] at H
                                obtain ⟨rfl, rfl, rfl⟩ := H
                                go_wp2_with (first | (go_at_call 27; (with_reducible refine (fascineref12_length.calls kj24 (a0.extract hd_.size (x9_24 : Int).toNat) t208 _ A36.out).mono ?_); rintro e w' ⟨rfl, ⟨nd, rfl⟩⟩; (try first | exact ⟨rfl, _, World.drewN_drewN _ _ _⟩ | exact ⟨rfl, _, Eq.trans (World.drewN_drewN _ _ _) (congrArg (World.drewN _) (Nat.add_assoc _ _ _))⟩)))
                                repeat (go_quiet (first | (go_at_call 27; (with_reducible refine (fascineref12_length.calls kj24 (a0.extract hd_.size (x9_24 : Int).toNat) t208 _ A36.out).mono ?_); rintro e w' ⟨rfl, ⟨nd, rfl⟩⟩; (try first | exact ⟨rfl, _, World.drewN_drewN _ _ _⟩ | exact ⟨rfl, _, Eq.trans (World.drewN_drewN _ _ _) (congrArg (World.drewN _) (Nat.add_assoc _ _ _))⟩))); try go_wp2_with (first | (go_at_call 27; (with_reducible refine (fascineref12_length.calls kj24 (a0.extract hd_.size (x9_24 : Int).toNat) t208 _ A36.out).mono ?_); rintro e w' ⟨rfl, ⟨nd, rfl⟩⟩; (try first | exact ⟨rfl, _, World.drewN_drewN _ _ _⟩ | exact ⟨rfl, _, Eq.trans (World.drewN_drewN _ _ _) (congrArg (World.drewN _) (Nat.add_assoc _ _ _))⟩))))
                                go_ret3
                                exact ⟨by first | rfl | (simp [errW_none, errW_some] <;> rfl) | (simp only [← hji44]; first | rfl | (simp [errW_none, errW_some] <;> rfl)) | (simp [*, errW_none, errW_some] <;> rfl), by repeat (first | (with_reducible first | exact HB.out | apply below_alloc | apply pw_below_drewN | apply below_drew1) | exact HB.out)⟩
                               ·rw [if_neg c47] at H
                                exact absurd H (by simp)
                              ·rw [if_neg c46] at H
                               exact absurd H (by simp)
                             ·rw [if_neg c45] at H
                              exact absurd H (by simp)
                            ·rw [if_neg c43] at H
                             have c43b0 : ((a0.extract (x9_24 : Int).toNat ((wrap64 (x9_24 + 23)) : Int).toNat).toList == ([13, 10, 67, 111, 110, 110, 101, 99, 116, 105, 111, 110, 58, 32, 99, 108, 111, 115, 101, 13, 10, 13, 10] : List UInt8)) = false := beq_eq_false_iff_ne.mpr c43
                             have c43b1 : ((a0.extract (x9_24 : Int).toNat ((wrap64 (x9_24 + 23)) : Int).toNat).toList != ([13, 10, 67, 111, 110, 110, 101, 99, 116, 105, 111, 110, 58, 32, 99, 108, 111, 115, 101, 13, 10, 13, 10] : List UInt8)) = true := bne_iff_ne.mpr c43
                             have H' := Aside0.mk H
                             clear H
                             go_wp2_with (first | (go_at_call 27; (with_reducible refine (fascineref12_length.calls kj24 (a0.extract hd_.size (x9_24 : Int).toNat) t208 _ A36.out).mono ?_); rintro e w' ⟨rfl, ⟨nd, rfl⟩⟩; (try first | exact ⟨rfl, _, World.drewN_drewN _ _ _⟩ | exact ⟨rfl, _, Eq.trans (World.drewN_drewN _ _ _) (congrArg (World.drewN _) (Nat.add_assoc _ _ _))⟩)))
                             repeat (go_quiet (first | (go_at_call 27; (with_reducible refine (fascineref12_length.calls kj24 (a0.extract hd_.size (x9_24 : Int).toNat) t208 _ A36.out).mono ?_); rintro e w' ⟨rfl, ⟨nd, rfl⟩⟩; (try first | exact ⟨rfl, _, World.drewN_drewN _ _ _⟩ | exact ⟨rfl, _, Eq.trans (World.drewN_drewN _ _ _) (congrArg (World.drewN _) (Nat.add_assoc _ _ _))⟩))); try go_wp2_with (first | (go_at_call 27; (with_reducible refine (fascineref12_length.calls kj24 (a0.extract hd_.size (x9_24 : Int).toNat) t208 _ A36.out).mono ?_); rintro e w' ⟨rfl, ⟨nd, rfl⟩⟩; (try first | exact ⟨rfl, _, World.drewN_drewN _ _ _⟩ | exact ⟨rfl, _, Eq.trans (World.drewN_drewN _ _ _) (congrArg (World.drewN _) (Nat.add_assoc _ _ _))⟩))))
                             go_roundg kj24
                             case measure => have := HJ1.out; have := HK2.out; have := HJ17.out; have := HJ24.out; omega
                             case rel => exact ⟨(wrap64 (x6_2 + 1)), (by first | rfl | (simp; done) | (simp [*]; done)), H', ⟨by have := HJ1.out; have := HK2.out; have := HJ17.out; have := HJ24.out; omega⟩, ⟨by repeat (first | (with_reducible first | exact HB.out | apply below_alloc | apply pw_below_drewN | apply below_drew1) | exact HB.out)⟩⟩
                           ·rw [if_neg c42] at H
                            exact absurd H (by simp)
                          ·rw [if_neg c41] at H
                           exact absurd H (by simp)
                         ·rw [if_neg c40] at H
                          exact absurd H (by simp)
                       ·rw [if_neg c38] at H
                        have c38b0 : (x6_2 == 1) = false := (by first | exact Bool.eq_false_iff.mpr c38 | simpa using c38)
                        (try (have c38b1 : decide (x6_2 = 1) = false := by simpa using c38))
                        (try (have c38b2 : (x6_2 == 1) = false := by simpa using c38))
                        (try (have c38b3 : ¬ (x6_2 = 1) := by simpa using c38))
                        clear c38
                        by_cases c48 : (a0.size : Int) < (wrap64 ((wrap64 (x9_24 + 4)) + t208))
                        ·rw [if_pos c48] at H
                         have c48b0 : decide ((a0.size : Int) < (wrap64 ((wrap64 (x9_24 + 4)) + t208))) = true := decide_eq_true c48
                         clear c48
                         have H' := Aside0.mk H
                         clear H
                         go_wp2_with (first | (go_at_call 27; (with_reducible refine (fascineref12_length.calls kj24 (a0.extract hd_.size (x9_24 : Int).toNat) t208 _ A36.out).mono ?_); rintro e w' ⟨rfl, ⟨nd, rfl⟩⟩; (try first | exact ⟨rfl, _, World.drewN_drewN _ _ _⟩ | exact ⟨rfl, _, Eq.trans (World.drewN_drewN _ _ _) (congrArg (World.drewN _) (Nat.add_assoc _ _ _))⟩)))
                         repeat (go_quiet (first | (go_at_call 27; (with_reducible refine (fascineref12_length.calls kj24 (a0.extract hd_.size (x9_24 : Int).toNat) t208 _ A36.out).mono ?_); rintro e w' ⟨rfl, ⟨nd, rfl⟩⟩; (try first | exact ⟨rfl, _, World.drewN_drewN _ _ _⟩ | exact ⟨rfl, _, Eq.trans (World.drewN_drewN _ _ _) (congrArg (World.drewN _) (Nat.add_assoc _ _ _))⟩))); try go_wp2_with (first | (go_at_call 27; (with_reducible refine (fascineref12_length.calls kj24 (a0.extract hd_.size (x9_24 : Int).toNat) t208 _ A36.out).mono ?_); rintro e w' ⟨rfl, ⟨nd, rfl⟩⟩; (try first | exact ⟨rfl, _, World.drewN_drewN _ _ _⟩ | exact ⟨rfl, _, Eq.trans (World.drewN_drewN _ _ _) (congrArg (World.drewN _) (Nat.add_assoc _ _ _))⟩))))
                         go_roundg kj24
                         case measure => have := HJ1.out; have := HK2.out; have := HJ17.out; have := HJ24.out; omega
                         case rel => exact ⟨(wrap64 (x6_2 + 1)), (by first | rfl | (simp; done) | (simp [*]; done)), H', ⟨by have := HJ1.out; have := HK2.out; have := HJ17.out; have := HJ24.out; omega⟩, ⟨by repeat (first | (with_reducible first | exact HB.out | apply below_alloc | apply pw_below_drewN | apply below_drew1) | exact HB.out)⟩⟩
                        ·rw [if_neg c48] at H
                         have c48b0 : decide ((a0.size : Int) < (wrap64 ((wrap64 (x9_24 + 4)) + t208))) = false := decide_eq_false c48
                         clear c48
                         by_cases c49 : 0 ≤ x9_24
                         ·rw [if_pos c49] at H
                          have c49b0 := eq_true c49
                          have c49b1 : decide (0 ≤ x9_24) = true := decide_eq_true c49
                          clear c49
                          by_cases c50 : x9_24 ≤ (wrap64 (x9_24 + 4))
                          ·rw [if_pos c50] at H
                           have c50b0 := eq_true c50
                           have c50b1 : decide (x9_24 ≤ (wrap64 (x9_24 + 4))) = true := decide_eq_true c50
                           by_cases c51 : (wrap64 (x9_24 + 4)) ≤ (a0.size : Int)
                           ·rw [if_pos c51] at H
                            have c51b0 := eq_true c51
                            have c51b1 : decide ((wrap64 (x9_24 + 4)) ≤ (a0.size : Int)) = true := decide_eq_true c51
                            by_cases c52 : (a0.extract (x9_24 : Int).toNat ((wrap64 (x9_24 + 4)) : Int).toNat).toList = ([13, 10, 13, 10] : List UInt8)
                            ·rw [if_pos c52] at H
                             have c52b0 : ((a0.extract (x9_24 : Int).toNat ((wrap64 (x9_24 + 4)) : Int).toNat).toList == ([13, 10, 13, 10] : List UInt8)) = true := beq_iff_eq.mpr c52
                             have c52b1 : ((a0.extract (x9_24 : Int).toNat ((wrap64 (x9_24 + 4)) : Int).toNat).toList != ([13, 10, 13, 10] : List UInt8)) = false := bne_eq_false_iff_eq.mpr c52
                             clear c52
                             obtain ⟨ji53, hji53⟩ : ∃ j_ : Int, (wrap64 (x9_24 + 4)) = j_ := ⟨_, rfl⟩
                             replace H : (if 0 ≤ (ji53) then (if (ji53) ≤ (wrap64 ((ji53) + t208)) then (if (wrap64 ((ji53) + t208)) ≤ (a0.size : Int) then (some (t205, a0.extract ((ji53) : Int).toNat ((wrap64 ((ji53) + t208)) : Int).toNat, wrap64 ((ji53) + t208))) else (none)) else (none)) else (none)) = some (r1, r2, r3) := by first | (rw [hji53] at H; exact H) | (simp only [hji53] at H ⊢; exact H)
                             (try rw [hji53] at c48b0)
                             (try rw [hji53] at c50b0)
                             (try rw [hji53] at c50b1)
                             (try rw [hji53] at c50)
                             (try rw [hji53] at c51b0)
                             (try rw [hji53] at c51b1)
                             (try rw [hji53] at c51)
                             (try rw [hji53] at c52b0)
                             (try rw [hji53] at c52b1)
                             (try rw [hji53] at A36)
                             have hji53w : (IntKind.i64.wrap (x9_24 + 4)) = ji53 := (i64_w _).trans hji53
                             by_cases c54 : 0 ≤ (ji53)
                             ·rw [if_pos c54] at H
                              have c54b0 := eq_true c54
                              have c54b1 : decide (0 ≤ (ji53)) = true := decide_eq_true c54
                              clear c54
                              by_cases c55 : (ji53) ≤ (wrap64 ((ji53) + t208))
                              ·rw [if_pos c55] at H
                               have c55b0 := eq_true c55
                               have c55b1 : decide ((ji53) ≤ (wrap64 ((ji53) + t208))) = true := decide_eq_true c55
                               by_cases c56 : (wrap64 ((ji53) + t208)) ≤ (a0.size : Int)
                               ·rw [if_pos c56] at H
                                have c56b0 := eq_true c56
                                have c56b1 : decide ((wrap64 ((ji53) + t208)) ≤ (a0.size : Int)) = true := decide_eq_true c56
                                simp only [Option.some.injEq, Prod.mk.injEq] at H
                                obtain ⟨rfl, rfl, rfl⟩ := H
                                go_wp2_with (first | (go_at_call 27; (with_reducible refine (fascineref12_length.calls kj24 (a0.extract hd_.size (x9_24 : Int).toNat) t208 _ A36.out).mono ?_); rintro e w' ⟨rfl, ⟨nd, rfl⟩⟩; (try first | exact ⟨rfl, _, World.drewN_drewN _ _ _⟩ | exact ⟨rfl, _, Eq.trans (World.drewN_drewN _ _ _) (congrArg (World.drewN _) (Nat.add_assoc _ _ _))⟩)))
                                repeat (go_quiet (first | (go_at_call 27; (with_reducible refine (fascineref12_length.calls kj24 (a0.extract hd_.size (x9_24 : Int).toNat) t208 _ A36.out).mono ?_); rintro e w' ⟨rfl, ⟨nd, rfl⟩⟩; (try first | exact ⟨rfl, _, World.drewN_drewN _ _ _⟩ | exact ⟨rfl, _, Eq.trans (World.drewN_drewN _ _ _) (congrArg (World.drewN _) (Nat.add_assoc _ _ _))⟩))); try go_wp2_with (first | (go_at_call 27; (with_reducible refine (fascineref12_length.calls kj24 (a0.extract hd_.size (x9_24 : Int).toNat) t208 _ A36.out).mono ?_); rintro e w' ⟨rfl, ⟨nd, rfl⟩⟩; (try first | exact ⟨rfl, _, World.drewN_drewN _ _ _⟩ | exact ⟨rfl, _, Eq.trans (World.drewN_drewN _ _ _) (congrArg (World.drewN _) (Nat.add_assoc _ _ _))⟩))))
                                go_ret3
                                exact ⟨by first | rfl | (simp [errW_none, errW_some] <;> rfl) | (simp only [← hji53]; first | rfl | (simp [errW_none, errW_some] <;> rfl)) | (simp [*, errW_none, errW_some] <;> rfl), by repeat (first | (with_reducible first | exact HB.out | apply below_alloc | apply pw_below_drewN | apply below_drew1) | exact HB.out)⟩
                               ·rw [if_neg c56] at H
                                exact absurd H (by simp)
                              ·rw [if_neg c55] at H
                               exact absurd H (by simp)
                             ·rw [if_neg c54] at H
                              exact absurd H (by simp)
                            ·rw [if_neg c52] at H
                             have c52b0 : ((a0.extract (x9_24 : Int).toNat ((wrap64 (x9_24 + 4)) : Int).toNat).toList == ([13, 10, 13, 10] : List UInt8)) = false := beq_eq_false_iff_ne.mpr c52
                             have c52b1 : ((a0.extract (x9_24 : Int).toNat ((wrap64 (x9_24 + 4)) : Int).toNat).toList != ([13, 10, 13, 10] : List UInt8)) = true := bne_iff_ne.mpr c52
                             have H' := Aside0.mk H
                             clear H
                             go_wp2_with (first | (go_at_call 27; (with_reducible refine (fascineref12_length.calls kj24 (a0.extract hd_.size (x9_24 : Int).toNat) t208 _ A36.out).mono ?_); rintro e w' ⟨rfl, ⟨nd, rfl⟩⟩; (try first | exact ⟨rfl, _, World.drewN_drewN _ _ _⟩ | exact ⟨rfl, _, Eq.trans (World.drewN_drewN _ _ _) (congrArg (World.drewN _) (Nat.add_assoc _ _ _))⟩)))
                             repeat (go_quiet (first | (go_at_call 27; (with_reducible refine (fascineref12_length.calls kj24 (a0.extract hd_.size (x9_24 : Int).toNat) t208 _ A36.out).mono ?_); rintro e w' ⟨rfl, ⟨nd, rfl⟩⟩; (try first | exact ⟨rfl, _, World.drewN_drewN _ _ _⟩ | exact ⟨rfl, _, Eq.trans (World.drewN_drewN _ _ _) (congrArg (World.drewN _) (Nat.add_assoc _ _ _))⟩))); try go_wp2_with (first | (go_at_call 27; (with_reducible refine (fascineref12_length.calls kj24 (a0.extract hd_.size (x9_24 : Int).toNat) t208 _ A36.out).mono ?_); rintro e w' ⟨rfl, ⟨nd, rfl⟩⟩; (try first | exact ⟨rfl, _, World.drewN_drewN _ _ _⟩ | exact ⟨rfl, _, Eq.trans (World.drewN_drewN _ _ _) (congrArg (World.drewN _) (Nat.add_assoc _ _ _))⟩))))
                             go_roundg kj24
                             case measure => have := HJ1.out; have := HK2.out; have := HJ17.out; have := HJ24.out; omega
                             case rel => exact ⟨(wrap64 (x6_2 + 1)), (by first | rfl | (simp; done) | (simp [*]; done)), H', ⟨by have := HJ1.out; have := HK2.out; have := HJ17.out; have := HJ24.out; omega⟩, ⟨by repeat (first | (with_reducible first | exact HB.out | apply below_alloc | apply pw_below_drewN | apply below_drew1) | exact HB.out)⟩⟩
                           ·rw [if_neg c51] at H
                            exact absurd H (by simp)
                          ·rw [if_neg c50] at H
                           exact absurd H (by simp)
                         ·rw [if_neg c49] at H
                          exact absurd H (by simp)
                     ·rw [if_neg c35] at H
                      exact absurd H (by simp)
                    ·rw [if_neg c34] at H
                     exact absurd H (by simp)
                   ·rw [if_neg c33] at H
                    exact absurd H (by simp)
             ·rw [if_neg c17] at H
              exact absurd H (by simp)
            ·rw [if_neg c16] at H
             exact absurd H (by simp)
           ·rw [if_neg c14] at H
            exact absurd H (by simp)
          ·rw [if_neg c13] at H
           exact absurd H (by simp)
         ·rw [if_neg c11] at H
          have c11b0 : decide (x6_2 < 2) = false := decide_eq_false c11
          clear c11
          simp only [Option.some.injEq, Prod.mk.injEq] at H
          obtain ⟨rfl, rfl, rfl⟩ := H
          go_wp2
          repeat (go_quiet (fail); try go_wp2)
          go_ret3
          exact ⟨by first | rfl | (simp [errW_none, errW_some] <;> rfl) | (simp [*, errW_none, errW_some] <;> rfl), by repeat (first | (with_reducible first | exact HB.out | apply below_alloc | apply pw_below_drewN | apply below_drew1) | exact HB.out)⟩
     ·rw [if_neg c8] at H
      exact absurd H (by simp)
    ·rw [if_neg c7] at H
     exact absurd H (by simp)

end Go.Proofs.YtpigloohccpfiaaDoor.PHttpAnswers
-- HEAD
