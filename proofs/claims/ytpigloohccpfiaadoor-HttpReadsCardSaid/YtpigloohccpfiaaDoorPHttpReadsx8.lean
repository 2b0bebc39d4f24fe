-- WRITTEN BY A PROGRAM OF THIS SESSION (wip/patch_print.py: the kit's printer with rules of this session's own); Lean checks it.
import Derived.Test.YtpigloohccpfiaaDoorPHttpReadsx0
namespace Go.Proofs.YtpigloohccpfiaaDoor.PHttpReads
open Go.RowKit Go.Proofs.YtpigloohccpfiaaDoorW.PrintWords Go.Proofs.YtpigloohccpfiaaDoorW.PrintLast Go.Proofs.YtpigloohccpfiaaDoorW.PrintMore
open Go.Proofs.YtpigloohccpfiaaDoor.G
attribute [local go_sem] max2_int min2_int max_two min_two max_three min_three max_four min_four   -- for this text's walks alone
set_option linter.unusedVariables false
set_option linter.unusedSimpArgs false

/-! ### fascineref12_trim: function 25 -/
mutual
def fascineref12_trim.j1 : Nat → ByteArray → Option (ByteArray)
 | 0, _ => none
 | k + 1, x0 => fascineref12_trim.l1 k x0
def fascineref12_trim.l1 : Nat → ByteArray → Option (ByteArray)
 | 0, _ => none
 | k + 1, x0 => if (x0.size : Int) > 0 then (if 0 ≤ (wrap64 ((x0.size : Int) - 1)) then (if (wrap64 ((x0.size : Int) - 1)) < (x0.size : Int) then (if (bt x0 (wrap64 ((x0.size : Int) - 1))) = 32 then (if (wrap64 ((x0.size : Int) - 1)) ≤ (x0.size : Int) then (fascineref12_trim.l1 k (x0.extract 0 ((wrap64 ((x0.size : Int) - 1)) : Int).toNat)) else (none)) else (if (bt x0 (wrap64 ((x0.size : Int) - 1))) = 9 then (if (wrap64 ((x0.size : Int) - 1)) ≤ (x0.size : Int) then (fascineref12_trim.l1 k (x0.extract 0 ((wrap64 ((x0.size : Int) - 1)) : Int).toNat)) else (none)) else (some x0))) else (none)) else (none)) else (some x0)
def fascineref12_trim.l0 : Nat → ByteArray → Option (ByteArray)
 | 0, _ => none
 | k + 1, x0 => if (x0.size : Int) > 0 then (if 0 < (x0.size : Int) then (if (bt x0 0) = 32 then (if 1 ≤ (x0.size : Int) then (fascineref12_trim.l0 k (x0.extract 1 x0.size)) else (none)) else (if (bt x0 0) = 9 then (if 1 ≤ (x0.size : Int) then (fascineref12_trim.l0 k (x0.extract 1 x0.size)) else (none)) else (fascineref12_trim.j1 k x0))) else (none)) else (fascineref12_trim.j1 k x0)
end
def fascineref12_trim.f (k : Nat) (a0 : ByteArray) : Option (ByteArray) := fascineref12_trim.l0 k a0
theorem fascineref12_trim.mono_l : ∀ k, (∀ y0, LeO (fascineref12_trim.j1 k y0) (fascineref12_trim.j1 (k + 1) y0)) ∧ (∀ y0, LeO (fascineref12_trim.l1 k y0) (fascineref12_trim.l1 (k + 1) y0)) ∧ (∀ y0, LeO (fascineref12_trim.l0 k y0) (fascineref12_trim.l0 (k + 1) y0))
 | 0 => ⟨fun _ r h => by simp [fascineref12_trim.j1] at h, fun _ r h => by simp [fascineref12_trim.l1] at h, fun _ r h => by simp [fascineref12_trim.l0] at h⟩
 | k + 1 => by
  obtain ⟨ih0, ih1, ih2⟩ := fascineref12_trim.mono_l k
  refine ⟨?_, ?_, ?_⟩
  ·intro y0
   unfold fascineref12_trim.j1
   repeat' first
   | (with_reducible exact ih0 _)
   | (with_reducible exact ih1 _)
   | (with_reducible exact ih2 _)
   | (with_reducible exact LeO.refl _)
   | (with_reducible exact LeO.none _)
   | (with_reducible refine LeO.ite ?_ ?_)
   | (with_reducible refine LeO.bind ?_ (fun _ => ?_))
   | exact ih0 _
   | exact ih1 _
   | exact ih2 _
   | exact LeO.none _
   | refine LeO.ite ?_ ?_
   | refine LeO.bind ?_ (fun _ => ?_)
  ·intro y0
   unfold fascineref12_trim.l1
   repeat' first
   | (with_reducible exact ih0 _)
   | (with_reducible exact ih1 _)
   | (with_reducible exact ih2 _)
   | (with_reducible exact LeO.refl _)
   | (with_reducible exact LeO.none _)
   | (with_reducible refine LeO.ite ?_ ?_)
   | (with_reducible refine LeO.bind ?_ (fun _ => ?_))
   | exact ih0 _
   | exact ih1 _
   | exact ih2 _
   | exact LeO.none _
   | refine LeO.ite ?_ ?_
   | refine LeO.bind ?_ (fun _ => ?_)
  ·intro y0
   unfold fascineref12_trim.l0
   repeat' first
   | (with_reducible exact ih0 _)
   | (with_reducible exact ih1 _)
   | (with_reducible exact ih2 _)
   | (with_reducible exact LeO.refl _)
   | (with_reducible exact LeO.none _)
   | (with_reducible refine LeO.ite ?_ ?_)
   | (with_reducible refine LeO.bind ?_ (fun _ => ?_))
   | exact ih0 _
   | exact ih1 _
   | exact ih2 _
   | exact LeO.none _
   | refine LeO.ite ?_ ?_
   | refine LeO.bind ?_ (fun _ => ?_)
theorem fascineref12_trim.mono : ∀ a0 k, LeO (fascineref12_trim.f k a0) (fascineref12_trim.f (k + 1) a0) := by
 intro a0 k
 obtain ⟨ih0, ih1, ih2⟩ := fascineref12_trim.mono_l k
 unfold fascineref12_trim.f
 repeat' first
   | (with_reducible exact ih0 _)
   | (with_reducible exact ih1 _)
   | (with_reducible exact ih2 _)
   | (with_reducible exact LeO.refl _)
   | (with_reducible exact LeO.none _)
   | (with_reducible refine LeO.ite ?_ ?_)
   | (with_reducible refine LeO.bind ?_ (fun _ => ?_))
   | exact ih0 _
   | exact ih1 _
   | exact ih2 _
   | exact LeO.none _
   | refine LeO.ite ?_ ?_
   | refine LeO.bind ?_ (fun _ => ?_)
set_option maxHeartbeats 8000000 in
set_option maxRecDepth 100000 in
theorem fascineref12_trim.calls (k : Nat) (a0 : ByteArray) (r : ByteArray) (w : World) (h : fascineref12_trim.f k a0 = some r) :
  Calls Tryd.prog 25 #[.string a0] w fun e w' => e = .returned (.string r) ∧ Drawn0 w w' := by
 have H : (fascineref12_trim.l0 k a0) = some r := h
 clear h
 have HC2 := Aside0.mk H
 clear H
 go_enter Tryd.func25, Tryd.ntmps25
 go_upto_block 0 with (fail)
 go_cut [0] (fun v0 wc => ∃ (kq : Nat) (x0_1 : ByteArray), v0 = .string x0_1 ∧ Aside0 (fascineref12_trim.j1 kq x0_1 = some r) ∧ Aside0 (kq ≤ k) ∧ Drawn0 w wc)
 case first =>
  have H := HC2.out
  clear HC2
  have H' := Aside0.mk H
  clear H
  go_wp2
  go_loopg [0] k (fun kq v0 w' => ∃ (x0_1 : ByteArray), v0 = .string x0_1 ∧ Aside0 (fascineref12_trim.l0 kq x0_1 = some r) ∧ Aside0 (kq ≤ k) ∧ Drawn0 w w')
  case atStart => exact ⟨(a0), (by first | rfl | (simp; done) | (simp [*]; done)), H', ⟨Nat.le_refl _⟩, by repeat (first | exact Drawn0.refl _ | apply Drawn0.step)⟩
  case round =>
   clear H'
   try clear c2
   try clear p2
   obtain ⟨x0_1, rfl, HA, HK1, ⟨m1, rfl⟩⟩ := hrel
   cases gk with
   | zero => exact absurd HA.out (by simp [fascineref12_trim.l0])
   | succ k1 =>
    have H := HA.out
    clear HA
    simp only [fascineref12_trim.l0] at H
    by_cases c3 : (x0_1.size : Int) > 0
    ·rw [if_pos c3] at H
     have c3b0 : decide (0 < (x0_1.size : Int)) = true := decide_eq_true c3
     have c3b1 : decide (0 < x0_1.size) = true := decide_eq_true (by omega)
     clear c3
     (first | rw [c3b0] | (simp only [i64_w, i32_w]; rw [c3b0]) | skip)
     by_cases c4 : 0 < (x0_1.size : Int)
     ·rw [if_pos c4] at H
      have c4b0 : decide (0 < (x0_1.size : Int)) = true := decide_eq_true c4
      have c4b1 : decide (0 < x0_1.size) = true := decide_eq_true (by omega)
      clear c4
      by_cases c6 : (bt x0_1 0) = 32
      ·rw [if_pos c6] at H
       have c6b0 : ((bt x0_1 0) == 32) = true := beq_iff_eq.mpr c6
       have c6b1 : ((bt x0_1 0) != 32) = false := bne_eq_false_iff_eq.mpr c6
       clear c6
       by_cases c7 : 1 ≤ (x0_1.size : Int)
       ·rw [if_pos c7] at H
        have c7b0 := eq_true c7
        have c7b1 : decide (1 ≤ (x0_1.size : Int)) = true := decide_eq_true c7
        clear c7
        have H' := Aside0.mk H
        clear H
        have p5 : 0 ≤ (0 : Int) := (by omega)
        have q5 : 0 < x0_1.size := (by have : (0 : Int) < (x0_1.size : Int) := of_decide_eq_true (by first | (with_reducible assumption) | assumption); omega)
        have hx5 : ∀ h : 0 < x0_1.size, ((x0_1[0]'h).toNat : Int) = bt x0_1 0 := bt_at x0_1 0
        clear p5
        have qi5 : (0 < (x0_1.size : Int)) = True := eq_true (of_decide_eq_true (by first | (with_reducible assumption) | assumption))
        replace q5 := eq_true q5
        go_wp2
        go_roundg k1
        case measure => have := HK1.out; omega
        case rel => exact ⟨(x0_1.extract 1 x0_1.size), (by first | rfl | (simp; done) | (simp [*]; done)), H', ⟨by have := HK1.out; omega⟩, by repeat (first | exact Drawn0.refl _ | apply Drawn0.step)⟩
       ·rw [if_neg c7] at H
        exact absurd H (by simp)
      ·rw [if_neg c6] at H
       have c6b0 : ((bt x0_1 0) == 32) = false := beq_eq_false_iff_ne.mpr c6
       have c6b1 : ((bt x0_1 0) != 32) = true := bne_iff_ne.mpr c6
       by_cases c9 : (bt x0_1 0) = 9
       ·rw [if_pos c9] at H
        have c9b0 : ((bt x0_1 0) == 9) = true := beq_iff_eq.mpr c9
        have c9b1 : ((bt x0_1 0) != 9) = false := bne_eq_false_iff_eq.mpr c9
        clear c9
        by_cases c10 : 1 ≤ (x0_1.size : Int)
        ·rw [if_pos c10] at H
         have c10b0 := eq_true c10
         have c10b1 : decide (1 ≤ (x0_1.size : Int)) = true := decide_eq_true c10
         clear c10
         have H' := Aside0.mk H
         clear H
         have p5 : 0 ≤ (0 : Int) := (by omega)
         have q5 : 0 < x0_1.size := (by have : (0 : Int) < (x0_1.size : Int) := of_decide_eq_true (by first | (with_reducible assumption) | assumption); omega)
         have hx5 : ∀ h : 0 < x0_1.size, ((x0_1[0]'h).toNat : Int) = bt x0_1 0 := bt_at x0_1 0
         clear p5
         have qi5 : (0 < (x0_1.size : Int)) = True := eq_true (of_decide_eq_true (by first | (with_reducible assumption) | assumption))
         replace q5 := eq_true q5
         have p8 : 0 ≤ (0 : Int) := (by omega)
         have q8 : 0 < x0_1.size := (by have : (0 : Int) < (x0_1.size : Int) := of_decide_eq_true (by first | (with_reducible assumption) | assumption); omega)
         have hx8 : ∀ h : 0 < x0_1.size, ((x0_1[0]'h).toNat : Int) = bt x0_1 0 := bt_at x0_1 0
         clear p8
         have qi8 : (0 < (x0_1.size : Int)) = True := eq_true (of_decide_eq_true (by first | (with_reducible assumption) | assumption))
         replace q8 := eq_true q8
         go_wp2
         go_roundg k1
         case measure => have := HK1.out; omega
         case rel => exact ⟨(x0_1.extract 1 x0_1.size), (by first | rfl | (simp; done) | (simp [*]; done)), H', ⟨by have := HK1.out; omega⟩, by repeat (first | exact Drawn0.refl _ | apply Drawn0.step)⟩
        ·rw [if_neg c10] at H
         exact absurd H (by simp)
       ·rw [if_neg c9] at H
        have c9b0 : ((bt x0_1 0) == 9) = false := beq_eq_false_iff_ne.mpr c9
        have c9b1 : ((bt x0_1 0) != 9) = true := bne_iff_ne.mpr c9
        have H' := Aside0.mk H
        clear H
        have p5 : 0 ≤ (0 : Int) := (by omega)
        have q5 : 0 < x0_1.size := (by have : (0 : Int) < (x0_1.size : Int) := of_decide_eq_true (by first | (with_reducible assumption) | assumption); omega)
        have hx5 : ∀ h : 0 < x0_1.size, ((x0_1[0]'h).toNat : Int) = bt x0_1 0 := bt_at x0_1 0
        clear p5
        have qi5 : (0 < (x0_1.size : Int)) = True := eq_true (of_decide_eq_true (by first | (with_reducible assumption) | assumption))
        replace q5 := eq_true q5
        have p8 : 0 ≤ (0 : Int) := (by omega)
        have q8 : 0 < x0_1.size := (by have : (0 : Int) < (x0_1.size : Int) := of_decide_eq_true (by first | (with_reducible assumption) | assumption); omega)
        have hx8 : ∀ h : 0 < x0_1.size, ((x0_1[0]'h).toNat : Int) = bt x0_1 0 := bt_at x0_1 0
        clear p8
        have qi8 : (0 < (x0_1.size : Int)) = True := eq_true (of_decide_eq_true (by first | (with_reducible assumption) | assumption))
        replace q8 := eq_true q8
        go_wp2
        go_meet
        case rel => exact ⟨_, (x0_1), (by first | rfl | (simp; done) | (simp [*]; done)), H', ⟨by have := HK1.out; first | omega | exact Nat.le_refl _⟩, by repeat (first | exact Drawn0.refl _ | apply Drawn0.step)⟩
     ·rw [if_neg c4] at H
      exact absurd H (by simp)
    ·rw [if_neg c3] at H
     have c3b0 : decide (0 < (x0_1.size : Int)) = false := decide_eq_false c3
     have c3b1 : decide (0 < x0_1.size) = false := decide_eq_false (by omega)
     clear c3
     (first | rw [c3b0] | (simp only [i64_w, i32_w]; rw [c3b0]) | skip)
     have H' := Aside0.mk H
     clear H
     go_wp2
     go_meet
     case rel => exact ⟨_, (x0_1), (by first | rfl | (simp; done) | (simp [*]; done)), H', ⟨by have := HK1.out; first | omega | exact Nat.le_refl _⟩, by repeat (first | exact Drawn0.refl _ | apply Drawn0.step)⟩
 case rest =>
  clear HC2
  try clear c1
  try clear c2
  try clear p2
  try clear c3
  try clear c3b0
  try clear c3b1
  try clear c4
  try clear c4b0
  try clear c4b1
  try clear p5
  try clear q5
  try clear hx5
  try clear qi5
  try clear c6
  try clear c6b0
  try clear c6b1
  try clear c7
  try clear c7b0
  try clear c7b1
  try clear p8
  try clear q8
  try clear hx8
  try clear qi8
  try clear c9
  try clear c9b0
  try clear c9b1
  try clear c10
  try clear c10b0
  try clear c10b1
  try clear p2
  try clear p5
  try clear p8
  try clear q5
  try clear q8
  obtain ⟨kq, x0_1, rfl, HA, HJ1, ⟨mc1, rfl⟩⟩ := hcut
  cases kq with
  | zero => exact absurd HA.out (by simp [fascineref12_trim.j1])
  | succ kj1 =>
   have H := HA.out
   clear HA
   simp only [fascineref12_trim.j1] at H
   have H' := Aside0.mk H
   clear H
   go_wp2
   go_loopg [0] kj1 (fun kq v0 w' => ∃ (x0_2 : ByteArray), v0 = .string x0_2 ∧ Aside0 (fascineref12_trim.l1 kq x0_2 = some r) ∧ Aside0 (kq ≤ kj1) ∧ Drawn0 w w')
   case atStart => exact ⟨(x0_1), (by first | rfl | (simp; done) | (simp [*]; done)), H', ⟨Nat.le_refl _⟩, by repeat (first | exact Drawn0.refl _ | apply Drawn0.step)⟩
   case round =>
    clear H'
    try clear c1
    try clear c2
    try clear p2
    try clear c3
    try clear c3b0
    try clear c3b1
    try clear c4
    try clear c4b0
    try clear c4b1
    try clear p5
    try clear q5
    try clear hx5
    try clear qi5
    try clear c6
    try clear c6b0
    try clear c6b1
    try clear c7
    try clear c7b0
    try clear c7b1
    try clear p8
    try clear q8
    try clear hx8
    try clear qi8
    try clear c9
    try clear c9b0
    try clear c9b1
    try clear c10
    try clear c10b0
    try clear c10b1
    try clear p2
    try clear p5
    try clear p8
    try clear q5
    try clear q8
    obtain ⟨x0_2, rfl, HA, HK2, ⟨m2, rfl⟩⟩ := hrel
    cases gk with
    | zero => exact absurd HA.out (by simp [fascineref12_trim.l1])
    | succ k2 =>
     have H := HA.out
     clear HA
     simp only [fascineref12_trim.l1] at H
     by_cases c11 : (x0_2.size : Int) > 0
     ·rw [if_pos c11] at H
      have c11b0 : decide (0 < (x0_2.size : Int)) = true := decide_eq_true c11
      have c11b1 : decide (0 < x0_2.size) = true := decide_eq_true (by omega)
      clear c11
      obtain ⟨ji12, hji12⟩ : ∃ j_ : Int, (wrap64 ((x0_2.size : Int) - 1)) = j_ := ⟨_, rfl⟩
      replace H : (if 0 ≤ (ji12) then (if (ji12) < (x0_2.size : Int) then (if (bt x0_2 (ji12)) = 32 then (if (ji12) ≤ (x0_2.size : Int) then (fascineref12_trim.l1 k2 (x0_2.extract 0 ((ji12) : Int).toNat)) else (none)) else (if (bt x0_2 (ji12)) = 9 then (if (ji12) ≤ (x0_2.size : Int) then (fascineref12_trim.l1 k2 (x0_2.extract 0 ((ji12) : Int).toNat)) else (none)) else (some x0_2))) else (none)) else (none)) = some r := by first | (rw [hji12] at H; exact H) | (simp only [hji12] at H ⊢; exact H)
      have hji12w : (IntKind.i64.wrap ((x0_2.size : Int) - 1)) = ji12 := (i64_w _).trans hji12
      by_cases c13 : 0 ≤ (ji12)
      ·rw [if_pos c13] at H
       have c13b0 : decide (0 ≤ (ji12)) = true := decide_eq_true c13
       clear c13
       by_cases c14 : (ji12) < (x0_2.size : Int)
       ·rw [if_pos c14] at H
        have c14b0 : decide ((ji12) < (x0_2.size : Int)) = true := decide_eq_true c14
        clear c14
        by_cases c16 : (bt x0_2 (ji12)) = 32
        ·rw [if_pos c16] at H
         have c16b0 : ((bt x0_2 (ji12)) == 32) = true := beq_iff_eq.mpr c16
         have c16b1 : ((bt x0_2 (ji12)) != 32) = false := bne_eq_false_iff_eq.mpr c16
         clear c16
         have c17b0 := eq_true (of_decide_eq_true (by first | (with_reducible assumption) | assumption) : 0 ≤ (ji12))
         by_cases c18 : (ji12) ≤ (x0_2.size : Int)
         ·rw [if_pos c18] at H
          have c18b0 := eq_true c18
          have c18b1 : decide ((ji12) ≤ (x0_2.size : Int)) = true := decide_eq_true c18
          clear c18
          have H' := Aside0.mk H
          clear H
          have p15 : 0 ≤ ((ji12) : Int) := of_decide_eq_true (by first | (with_reducible assumption) | assumption)
          have q15 : (ji12) < (x0_2.size : Int) := of_decide_eq_true (by first | (with_reducible assumption) | assumption)
          have hx15 := bt_at x0_2 (ji12)
          replace p15 := eq_true p15
          replace q15 := eq_true q15
          go_wp2
          go_roundg k2
          case measure => have := HJ1.out; have := HK2.out; omega
          case rel => exact ⟨(x0_2.extract 0 ((ji12) : Int).toNat), (by first | rfl | (simp; done) | (simp only [← hji12] <;> (first | rfl | simp)) | (simp [*]; done)), H', ⟨by have := HJ1.out; have := HK2.out; omega⟩, by repeat (first | exact Drawn0.refl _ | apply Drawn0.step)⟩
         ·rw [if_neg c18] at H
          exact absurd H (by simp)
        ·rw [if_neg c16] at H
         have c16b0 : ((bt x0_2 (ji12)) == 32) = false := beq_eq_false_iff_ne.mpr c16
         have c16b1 : ((bt x0_2 (ji12)) != 32) = true := bne_iff_ne.mpr c16
         by_cases c20 : (bt x0_2 (ji12)) = 9
         ·rw [if_pos c20] at H
          have c20b0 : ((bt x0_2 (ji12)) == 9) = true := beq_iff_eq.mpr c20
          have c20b1 : ((bt x0_2 (ji12)) != 9) = false := bne_eq_false_iff_eq.mpr c20
          clear c20
          have c21b0 := eq_true (of_decide_eq_true (by first | (with_reducible assumption) | assumption) : 0 ≤ (ji12))
          by_cases c22 : (ji12) ≤ (x0_2.size : Int)
          ·rw [if_pos c22] at H
           have c22b0 := eq_true c22
           have c22b1 : decide ((ji12) ≤ (x0_2.size : Int)) = true := decide_eq_true c22
           clear c22
           have H' := Aside0.mk H
           clear H
           have p15 : 0 ≤ ((ji12) : Int) := of_decide_eq_true (by first | (with_reducible assumption) | assumption)
           have q15 : (ji12) < (x0_2.size : Int) := of_decide_eq_true (by first | (with_reducible assumption) | assumption)
           have hx15 := bt_at x0_2 (ji12)
           replace p15 := eq_true p15
           replace q15 := eq_true q15
           have p19 : 0 ≤ ((ji12) : Int) := of_decide_eq_true (by first | (with_reducible assumption) | assumption)
           have q19 : (ji12) < (x0_2.size : Int) := of_decide_eq_true (by first | (with_reducible assumption) | assumption)
           have hx19 := bt_at x0_2 (ji12)
           replace p19 := eq_true p19
           replace q19 := eq_true q19
           go_wp2
           go_roundg k2
           case measure => have := HJ1.out; have := HK2.out; omega
           case rel => exact ⟨(x0_2.extract 0 ((ji12) : Int).toNat), (by first | rfl | (simp; done) | (simp only [← hji12] <;> (first | rfl | simp)) | (simp [*]; done)), H', ⟨by have := HJ1.out; have := HK2.out; omega⟩, by repeat (first | exact Drawn0.refl _ | apply Drawn0.step)⟩
          ·rw [if_neg c22] at H
           exact absurd H (by simp)
         ·rw [if_neg c20] at H
          have c20b0 : ((bt x0_2 (ji12)) == 9) = false := beq_eq_false_iff_ne.mpr c20
          have c20b1 : ((bt x0_2 (ji12)) != 9) = true := bne_iff_ne.mpr c20
          obtain rfl := Option.some.inj H
          have p15 : 0 ≤ ((ji12) : Int) := of_decide_eq_true (by first | (with_reducible assumption) | assumption)
          have q15 : (ji12) < (x0_2.size : Int) := of_decide_eq_true (by first | (with_reducible assumption) | assumption)
          have hx15 := bt_at x0_2 (ji12)
          replace p15 := eq_true p15
          replace q15 := eq_true q15
          have p19 : 0 ≤ ((ji12) : Int) := of_decide_eq_true (by first | (with_reducible assumption) | assumption)
          have q19 : (ji12) < (x0_2.size : Int) := of_decide_eq_true (by first | (with_reducible assumption) | assumption)
          have hx19 := bt_at x0_2 (ji12)
          replace p19 := eq_true p19
          replace q19 := eq_true q19
          go_wp2
          go_ret
          exact ⟨by first | rfl | (simp; done) | (simp only [← hji12] <;> (first | rfl | simp)) | (simp [*]; done), by repeat (first | exact Drawn0.refl _ | apply Drawn0.step)⟩
       ·rw [if_neg c14] at H
        exact absurd H (by simp)
      ·rw [if_neg c13] at H
       exact absurd H (by simp)
     ·rw [if_neg c11] at H
      have c11b0 : decide (0 < (x0_2.size : Int)) = false := decide_eq_false c11
      have c11b1 : decide (0 < x0_2.size) = false := decide_eq_false (by omega)
      clear c11
      obtain rfl := Option.some.inj H
      go_wp2
      go_ret
      exact ⟨by first | rfl | (simp; done) | (simp [*]; done), by repeat (first | exact Drawn0.refl _ | apply Drawn0.step)⟩

/-! ### fascineref12_low: function 26 -/
def fascineref12_low.tb (b : UInt8) : UInt8 := if 65 ≤ b.toNat ∧ b.toNat ≤ 90 then UInt8.ofNat (b.toNat + 32) else b
def fascineref12_low.f (a0 : ByteArray) : Option ByteArray := if a0.size < 140737488355328 then some ⟨(a0.data.toList.map fascineref12_low.tb).toArray⟩ else none
theorem fascineref12_low.step {f : UInt8 → UInt8} {l : List UInt8} {i : Nat} (h : i < l.length) : ((l.take i).map f ++ l.drop i).set i (f l[i]) = (l.take (i + 1)).map f ++ l.drop (i + 1) := by
 have e1 : ((l.take i).map f).length = i := by simp; omega
 rw [List.set_append_right _ _ (by omega), e1, Nat.sub_self, List.drop_eq_getElem_cons h, List.set_cons_zero, List.take_succ_eq_append_getElem h, List.map_append, List.append_assoc]
 rfl
theorem fascineref12_low.same {f : UInt8 → UInt8} {l : List UInt8} {i : Nat} (h : i < l.length) (hf : f l[i] = l[i]) : (l.take i).map f ++ l.drop i = (l.take (i + 1)).map f ++ l.drop (i + 1) := by
 rw [List.take_succ_eq_append_getElem h, List.map_append, List.append_assoc, List.drop_eq_getElem_cons h]
 simp [hf]
theorem fascineref12_low.at {f : UInt8 → UInt8} {l : List UInt8} {i : Nat} (h : i < l.length) (h2 : i < ((l.take i).map f ++ l.drop i).length) : ((l.take i).map f ++ l.drop i)[i] = l[i] := by
 have e1 : ((l.take i).map f).length = i := by simp; omega
 rw [List.getElem_append_right (by omega)]
 simp only [e1, Nat.sub_self, List.getElem_drop, Nat.add_zero]
theorem fascineref12_low.p1 {i n : Nat} (h : i < n) (hn : n < 140737488355328) : wrap64 ((i : Int) + 1) = ((i + 1 : Nat) : Int) := by unfold wrap64; omega
set_option maxHeartbeats 4000000 in
set_option maxRecDepth 100000 in
theorem fascineref12_low.calls (a0 : ByteArray) (r : ByteArray) (w : World) (h : fascineref12_low.f a0 = some r) :
  Calls Tryd.prog 26 #[.string a0] w fun e w' => e = .returned (.string r) ∧ Below w.heap.size w w' := by
 unfold fascineref12_low.f at h
 split at h
 case isFalse => cases h
 rename_i hsm
 have HSM := Aside0.mk hsm
 obtain rfl := Option.some.inj h
 clear h hsm
 have hu31 := Tryd.underlying31
 have hu5 := Tryd.underlying5
 have hu9 := Tryd.underlying9
 have HB := Aside0.mk (Below.refl w.heap.size w)
 go_enter Tryd.func26, Tryd.ntmps26
 go_upto_region 2 with (first | ((with_reducible refine gate_dst (N := 6) rfl ?_); refine M.bytes_event ?hg (N := 6) ?hd 9 31 5 (.tmp 5) a0 ?ho ?hx Tryd.underlying9 Tryd.underlying31 Tryd.underlying5 ?_; (case hd => rfl); (case hg => rfl); (case ho => rfl); (case hx => first | (go_simp; done) | (go_simp; rfl)); intro g hg cap w1 hrow hb; have GE := Aside0.mk (show w.heap.size ≤ g by rw [hg]; exact HB.out.size); have m_ := Aside0.mk (below_step HB.out hb); clear HB; have HB := m_; clear m_; have RW := Aside0.mk hrow; clear hb hrow hg))
 go_wp2
 go_loopg [4] (a0.size + 1) (fun kq v4 w' => ∃ i : Nat, v4 = .int .i64 (i : Int) ∧ Aside0 (i + kq = a0.size + 1) ∧ Aside0 (i ≤ a0.size) ∧ Aside0 (M.BRow w' g 5 ((a0.data.toList.take i).map fascineref12_low.tb ++ a0.data.toList.drop i)) ∧ Aside0 (Below w.heap.size w w'))
 case atStart => exact ⟨0, rfl, ⟨by omega⟩, ⟨by omega⟩, ⟨RW.out⟩, ⟨HB.out⟩⟩
 case round =>
  obtain ⟨i, rfl, HK, HI, HR, HB'⟩ := hrel
  clear RW HB
  cases gk with
  | zero => exact absurd HK.out (by have := HI.out; omega)
  | succ k1 =>
   by_cases hi : i < a0.size
   ·have hsz := Lib.size_eq a0
    have hil : i < a0.data.toList.length := by omega
    have hbl : ((a0.data.toList.take i).map fascineref12_low.tb ++ a0.data.toList.drop i).length = a0.size := by simp; omega
    have hy : decide ((i : Int) < (a0.size : Int)) = true := decide_eq_true (by omega)
    have hy2 : decide (i < a0.size) = true := decide_eq_true hi
    have h0 : decide (0 ≤ (i : Int)) = true := decide_eq_true (by omega)
    have h1 : (0 ≤ (i : Int)) = True := eq_true (by omega)
    have h2 : (i < a0.size) = True := eq_true hi
    have h3 : ((i : Int) < (a0.size : Int)) = True := eq_true (by omega)
    have hcell := HR.out.cell i (by omega)
    rw [fascineref12_low.at hil] at hcell
    have hfro := HR.out.frozen i (by omega)
    have stp := fascineref12_low.step (f := fascineref12_low.tb) hil
    have sm := fascineref12_low.same (f := fascineref12_low.tb) hil
    obtain ⟨b, hb⟩ : ∃ b, a0.data.toList[i] = b := ⟨_, rfl⟩
    rw [hb] at hcell stp sm
    have hlt : b.toNat < 256 := b.toNat_lt
    have STP := Aside0.mk stp
    have SM := Aside0.mk sm
    have HSZ := Aside0.mk hsz
    have HBL := Aside0.mk hbl
    have HIL := Aside0.mk hi
    clear hsz hbl stp sm hi hb
    clear hil
    by_cases c1 : 65 ≤ b.toNat
    ·have d1 : decide ((65 : Int) ≤ (b.toNat : Int)) = true := decide_eq_true (by omega)
     by_cases c2 : b.toNat ≤ 90
     ·have d2 : decide ((b.toNat : Int) ≤ 90) = true := decide_eq_true (by omega)
      have e1 : fascineref12_low.tb b = UInt8.ofNat (b.toNat + 32) := by unfold fascineref12_low.tb; rw [if_pos ⟨c1, c2⟩]
      have e2 : (((UInt8.ofNat (b.toNat + 32)).toNat : Nat) : Int) = ((b.toNat : Int) + 32) % 256 := by
       simp only [UInt8.toNat_ofNat']
       omega
      have E1 := Aside0.mk e1
      have E2 := Aside0.mk e2
      clear c1 c2 hlt e1 e2
      go_wp2
      go_roundg k1
      case measure => have := HK.out; omega
      case rel => exact ⟨i + 1, by rw [fascineref12_low.p1 HIL.out HSM.out], ⟨by have := HK.out; omega⟩, ⟨by have := HIL.out; omega⟩, ⟨by have h := HR.out.set i (by rw [HBL.out]; exact HIL.out) (UInt8.ofNat (b.toNat + 32)); rw [E2.out, ← E1.out, STP.out] at h; exact h⟩, ⟨below_set HB'.out GE.out⟩⟩
     ·have d2 : decide ((b.toNat : Int) ≤ 90) = false := decide_eq_false (by omega)
      have e1 : fascineref12_low.tb b = b := by unfold fascineref12_low.tb; rw [if_neg (fun h => c2 h.2)]
      have E1 := Aside0.mk e1
      clear c1 c2 hlt e1
      go_wp2
      go_roundg k1
      case measure => have := HK.out; omega
      case rel => exact ⟨i + 1, by rw [fascineref12_low.p1 HIL.out HSM.out], ⟨by have := HK.out; omega⟩, ⟨by have := HIL.out; omega⟩, ⟨by rw [← SM.out E1.out]; exact HR.out⟩, ⟨HB'.out⟩⟩
    ·have d1 : decide ((65 : Int) ≤ (b.toNat : Int)) = false := decide_eq_false (by omega)
     have e1 : fascineref12_low.tb b = b := by unfold fascineref12_low.tb; rw [if_neg (fun h => c1 h.1)]
     have E1 := Aside0.mk e1
     clear c1 hlt e1
     go_wp2
     go_roundg k1
     case measure => have := HK.out; omega
     case rel => exact ⟨i + 1, by rw [fascineref12_low.p1 HIL.out HSM.out], ⟨by have := HK.out; omega⟩, ⟨by have := HIL.out; omega⟩, ⟨by rw [← SM.out E1.out]; exact HR.out⟩, ⟨HB'.out⟩⟩
   ·obtain rfl : i = a0.size := by have := HI.out; omega
    have hn : decide ((a0.size : Int) < (a0.size : Int)) = false := decide_eq_false (by omega)
    have hn2 : decide (a0.size < a0.size) = false := decide_eq_false (by omega)
    clear hi
    have hsz := Lib.size_eq a0
    have hcv := HR.out.str (P := Tryd.prog) 31 9 cap Tryd.underlying31 Tryd.underlying5 Tryd.underlying9
    have hbl : ((a0.data.toList.take a0.size).map fascineref12_low.tb ++ a0.data.toList.drop a0.size) = a0.data.toList.map fascineref12_low.tb := by rw [hsz, List.take_length, List.drop_length, List.append_nil]
    rw [hbl, List.length_map, ← hsz] at hcv
    clear hsz hbl
    go_wp2
    go_ret
    exact ⟨rfl, by repeat (first | (with_reducible first | exact HB'.out | apply pw_below_drewN | apply below_drew1) | exact HB'.out)⟩

/-! ### fascineref12_length: function 27 -/
mutual
def fascineref12_length.j0 : Nat → ByteArray → Bool → Option (Int)
 | 0, _, _ => none
 | k + 1, x0, x22 => if x22 = true then (some (-1)) else (fascineref12_length.l0 k x0 0 0)
def fascineref12_length.l0 : Nat → ByteArray → Int → Int → Option (Int)
 | 0, _, _, _ => none
 | k + 1, x0, x3, x4 => if x4 < (x0.size : Int) then (if 0 ≤ x4 then (if (bt x0 x4) < 48 then (some (-1)) else (if (bt x0 x4) > 57 then (some (-1)) else (fascineref12_length.l0 k x0 (wrap64 ((wrap64 (10 * x3)) + (((bt x0 x4) - 48) % 256))) (wrap64 (x4 + 1))))) else (none)) else (some x3)
end
def fascineref12_length.f (k : Nat) (a0 : ByteArray) : Option (Int) := if (a0.size : Int) < 1 then (fascineref12_length.j0 k a0 true) else (if (a0.size : Int) > 9 then (fascineref12_length.j0 k a0 true) else (if (a0.size : Int) > 1 then (if 0 < (a0.size : Int) then (fascineref12_length.j0 k a0 ((bt a0 0) == 48)) else (none)) else (fascineref12_length.j0 k a0 false)))
theorem fascineref12_length.mono_l : ∀ k, (∀ y0 y1, LeO (fascineref12_length.j0 k y0 y1) (fascineref12_length.j0 (k + 1) y0 y1)) ∧ (∀ y0 y1 y2, LeO (fascineref12_length.l0 k y0 y1 y2) (fascineref12_length.l0 (k + 1) y0 y1 y2))
 | 0 => ⟨fun _ _ r h => by simp [fascineref12_length.j0] at h, fun _ _ _ r h => by simp [fascineref12_length.l0] at h⟩
 | k + 1 => by
  obtain ⟨ih0, ih1⟩ := fascineref12_length.mono_l k
  refine ⟨?_, ?_⟩
  ·intro y0 y1
   unfold fascineref12_length.j0
   repeat' first
   | (with_reducible exact ih0 _ _)
   | (with_reducible exact ih1 _ _ _)
   | (with_reducible exact LeO.refl _)
   | (with_reducible exact LeO.none _)
   | (with_reducible refine LeO.ite ?_ ?_)
   | (with_reducible refine LeO.bind ?_ (fun _ => ?_))
   | exact ih0 _ _
   | exact ih1 _ _ _
   | exact LeO.none _
   | refine LeO.ite ?_ ?_
   | refine LeO.bind ?_ (fun _ => ?_)
  ·intro y0 y1 y2
   unfold fascineref12_length.l0
   repeat' first
   | (with_reducible exact ih0 _ _)
   | (with_reducible exact ih1 _ _ _)
   | (with_reducible exact LeO.refl _)
   | (with_reducible exact LeO.none _)
   | (with_reducible refine LeO.ite ?_ ?_)
   | (with_reducible refine LeO.bind ?_ (fun _ => ?_))
   | exact ih0 _ _
   | exact ih1 _ _ _
   | exact LeO.none _
   | refine LeO.ite ?_ ?_
   | refine LeO.bind ?_ (fun _ => ?_)
theorem fascineref12_length.mono : ∀ a0 k, LeO (fascineref12_length.f k a0) (fascineref12_length.f (k + 1) a0) := by
 intro a0 k
 obtain ⟨ih0, ih1⟩ := fascineref12_length.mono_l k
 unfold fascineref12_length.f
 repeat' first
   | (with_reducible exact ih0 _ _)
   | (with_reducible exact ih1 _ _ _)
   | (with_reducible exact LeO.refl _)
   | (with_reducible exact LeO.none _)
   | (with_reducible refine LeO.ite ?_ ?_)
   | (with_reducible refine LeO.bind ?_ (fun _ => ?_))
   | exact ih0 _ _
   | exact ih1 _ _ _
   | exact LeO.none _
   | refine LeO.ite ?_ ?_
   | refine LeO.bind ?_ (fun _ => ?_)
set_option maxHeartbeats 8000000 in
set_option maxRecDepth 100000 in
theorem fascineref12_length.calls (k : Nat) (a0 : ByteArray) (r : Int) (w : World) (h : fascineref12_length.f k a0 = some r) :
  Calls Tryd.prog 27 #[.string a0] w fun e w' => e = .returned (.int .i64 r) ∧ Drawn0 w w' := by
 have H : (if (a0.size : Int) < 1 then (fascineref12_length.j0 k a0 true) else (if (a0.size : Int) > 9 then (fascineref12_length.j0 k a0 true) else (if (a0.size : Int) > 1 then (if 0 < (a0.size : Int) then (fascineref12_length.j0 k a0 ((bt a0 0) == 48)) else (none)) else (fascineref12_length.j0 k a0 false)))) = some r := h
 clear h
 have HC2 := Aside0.mk H
 clear H
 go_enter Tryd.func27, Tryd.ntmps27
 go_upto_region 1 with (fail)
 go_cut [22] (fun v22 wc => ∃ (kq : Nat) (x22_1 : Bool), v22 = .bool x22_1 ∧ Aside0 (fascineref12_length.j0 kq a0 x22_1 = some r) ∧ Aside0 (kq ≤ k) ∧ Drawn0 w wc)
 case first =>
  have H := HC2.out
  clear HC2
  by_cases c3 : (a0.size : Int) < 1
  ·rw [if_pos c3] at H
   have c3b0 : decide ((a0.size : Int) < 1) = true := decide_eq_true c3
   have c3b1 : decide (a0.size < 1) = true := decide_eq_true (by omega)
   clear c3
   (first | rw [c3b0] | (simp only [i64_w, i32_w]; rw [c3b0]) | skip)
   have H' := Aside0.mk H
   clear H
   go_wp2
   go_meet
   case rel => exact ⟨_, (true), (by first | rfl | (simp; done) | (simp [*]; done)), H', ⟨by first | omega | exact Nat.le_refl _⟩, by repeat (first | exact Drawn0.refl _ | apply Drawn0.step)⟩
  ·rw [if_neg c3] at H
   have c3b0 : decide ((a0.size : Int) < 1) = false := decide_eq_false c3
   have c3b1 : decide (a0.size < 1) = false := decide_eq_false (by omega)
   clear c3
   (first | rw [c3b0] | (simp only [i64_w, i32_w]; rw [c3b0]) | skip)
   by_cases c4 : (a0.size : Int) > 9
   ·rw [if_pos c4] at H
    have c4b0 : decide (9 < (a0.size : Int)) = true := decide_eq_true c4
    have c4b1 : decide (9 < a0.size) = true := decide_eq_true (by omega)
    clear c4
    have H' := Aside0.mk H
    clear H
    go_wp2
    go_meet
    case rel => exact ⟨_, (true), (by first | rfl | (simp; done) | (simp [*]; done)), H', ⟨by first | omega | exact Nat.le_refl _⟩, by repeat (first | exact Drawn0.refl _ | apply Drawn0.step)⟩
   ·rw [if_neg c4] at H
    have c4b0 : decide (9 < (a0.size : Int)) = false := decide_eq_false c4
    have c4b1 : decide (9 < a0.size) = false := decide_eq_false (by omega)
    clear c4
    by_cases c5 : (a0.size : Int) > 1
    ·rw [if_pos c5] at H
     have c5b0 : decide (1 < (a0.size : Int)) = true := decide_eq_true c5
     have c5b1 : decide (1 < a0.size) = true := decide_eq_true (by omega)
     clear c5
     by_cases c6 : 0 < (a0.size : Int)
     ·rw [if_pos c6] at H
      have c6b0 : decide (0 < (a0.size : Int)) = true := decide_eq_true c6
      have c6b1 : decide (0 < a0.size) = true := decide_eq_true (by omega)
      clear c6
      have H' := Aside0.mk H
      clear H
      have p7 : 0 ≤ (0 : Int) := (by omega)
      have q7 : 0 < a0.size := (by have : (0 : Int) < (a0.size : Int) := of_decide_eq_true (by first | (with_reducible assumption) | assumption); omega)
      have hx7 : ∀ h : 0 < a0.size, ((a0[0]'h).toNat : Int) = bt a0 0 := bt_at a0 0
      clear p7
      have qi7 : (0 < (a0.size : Int)) = True := eq_true (of_decide_eq_true (by first | (with_reducible assumption) | assumption))
      replace q7 := eq_true q7
      go_wp2
      go_meet
      case rel => exact ⟨_, (((bt a0 0) == 48)), (by first | rfl | (simp; done) | (simp [*]; done)), H', ⟨by first | omega | exact Nat.le_refl _⟩, by repeat (first | exact Drawn0.refl _ | apply Drawn0.step)⟩
     ·rw [if_neg c6] at H
      exact absurd H (by simp)
    ·rw [if_neg c5] at H
     have c5b0 : decide (1 < (a0.size : Int)) = false := decide_eq_false c5
     have c5b1 : decide (1 < a0.size) = false := decide_eq_false (by omega)
     clear c5
     have H' := Aside0.mk H
     clear H
     go_wp2
     go_meet
     case rel => exact ⟨_, (false), (by first | rfl | (simp; done) | (simp [*]; done)), H', ⟨by first | omega | exact Nat.le_refl _⟩, by repeat (first | exact Drawn0.refl _ | apply Drawn0.step)⟩
 case rest =>
  clear HC2
  try clear c2
  try clear p2
  try clear c3
  try clear c3b0
  try clear c3b1
  try clear c4
  try clear c4b0
  try clear c4b1
  try clear c5
  try clear c5b0
  try clear c5b1
  try clear c6
  try clear c6b0
  try clear c6b1
  try clear p7
  try clear q7
  try clear hx7
  try clear qi7
  try clear p7
  try clear q7
  obtain ⟨kq, x22_1, rfl, HA, HJ1, ⟨mc1, rfl⟩⟩ := hcut
  cases kq with
  | zero => exact absurd HA.out (by simp [fascineref12_length.j0])
  | succ kj1 =>
   have H := HA.out
   clear HA
   simp only [fascineref12_length.j0] at H
   by_cases c8 : x22_1 = true
   ·subst c8
    have H1 : (some (-1)) = some r := by rw [if_pos rfl] at H; exact H
    clear H
    have H := H1
    clear H1
    obtain rfl := Option.some.inj H
    go_wp2
    go_ret
    exact ⟨by first | rfl | (simp; done) | (simp [*]; done), by repeat (first | exact Drawn0.refl _ | apply Drawn0.step)⟩
   ·replace c8 := Bool.eq_false_iff.mpr c8
    subst c8
    have H1 : (fascineref12_length.l0 kj1 a0 0 0) = some r := by rw [if_neg (show ¬ (false = true) by decide)] at H; exact H
    clear H
    have H := H1
    clear H1
    have H' := Aside0.mk H
    clear H
    go_wp2
    go_loopg [3, 4] kj1 (fun kq v3 v4 w' => ∃ (x3_2 : Int) (x4_2 : Int), v3 = .int .i64 x3_2 ∧ v4 = .int .i64 x4_2 ∧ Aside0 (fascineref12_length.l0 kq a0 x3_2 x4_2 = some r) ∧ Aside0 (kq ≤ kj1) ∧ Drawn0 w w')
    case atStart => exact ⟨(0), (0), (by first | rfl | (simp; done) | (simp [*]; done)), (by first | rfl | (simp; done) | (simp [*]; done)), H', ⟨Nat.le_refl _⟩, by repeat (first | exact Drawn0.refl _ | apply Drawn0.step)⟩
    case round =>
     clear H'
     try clear c1
     try clear c2
     try clear p2
     try clear c3
     try clear c3b0
     try clear c3b1
     try clear c4
     try clear c4b0
     try clear c4b1
     try clear c5
     try clear c5b0
     try clear c5b1
     try clear c6
     try clear c6b0
     try clear c6b1
     try clear p7
     try clear q7
     try clear hx7
     try clear qi7
     try clear c8
     try clear p2
     try clear p7
     try clear q7
     obtain ⟨x3_2, x4_2, rfl, rfl, HA, HK2, ⟨m2, rfl⟩⟩ := hrel
     cases gk with
     | zero => exact absurd HA.out (by simp [fascineref12_length.l0])
     | succ k2 =>
      have H := HA.out
      clear HA
      simp only [fascineref12_length.l0] at H
      by_cases c9 : x4_2 < (a0.size : Int)
      ·rw [if_pos c9] at H
       have c9b0 : decide (x4_2 < (a0.size : Int)) = true := decide_eq_true c9
       clear c9
       by_cases c10 : 0 ≤ x4_2
       ·rw [if_pos c10] at H
        have c10b0 : decide (0 ≤ x4_2) = true := decide_eq_true c10
        clear c10
        by_cases c12 : (bt a0 x4_2) < 48
        ·rw [if_pos c12] at H
         have c12b0 : decide ((bt a0 x4_2) < 48) = true := decide_eq_true c12
         clear c12
         obtain rfl := Option.some.inj H
         have p11 : 0 ≤ (x4_2 : Int) := of_decide_eq_true (by first | (with_reducible assumption) | assumption)
         have q11 : x4_2 < (a0.size : Int) := of_decide_eq_true (by first | (with_reducible assumption) | assumption)
         have hx11 := bt_at a0 x4_2
         replace p11 := eq_true p11
         replace q11 := eq_true q11
         go_wp2
         go_ret
         exact ⟨by first | rfl | (simp; done) | (simp [*]; done), by repeat (first | exact Drawn0.refl _ | apply Drawn0.step)⟩
        ·rw [if_neg c12] at H
         have c12b0 : decide ((bt a0 x4_2) < 48) = false := decide_eq_false c12
         clear c12
         by_cases c14 : (bt a0 x4_2) > 57
         ·rw [if_pos c14] at H
          have c14b0 : decide (57 < (bt a0 x4_2)) = true := decide_eq_true c14
          clear c14
          obtain rfl := Option.some.inj H
          have p11 : 0 ≤ (x4_2 : Int) := of_decide_eq_true (by first | (with_reducible assumption) | assumption)
          have q11 : x4_2 < (a0.size : Int) := of_decide_eq_true (by first | (with_reducible assumption) | assumption)
          have hx11 := bt_at a0 x4_2
          replace p11 := eq_true p11
          replace q11 := eq_true q11
          have p13 : 0 ≤ (x4_2 : Int) := of_decide_eq_true (by first | (with_reducible assumption) | assumption)
          have q13 : x4_2 < (a0.size : Int) := of_decide_eq_true (by first | (with_reducible assumption) | assumption)
          have hx13 := bt_at a0 x4_2
          replace p13 := eq_true p13
          replace q13 := eq_true q13
          go_wp2
          go_ret
          exact ⟨by first | rfl | (simp; done) | (simp [*]; done), by repeat (first | exact Drawn0.refl _ | apply Drawn0.step)⟩
         ·rw [if_neg c14] at H
          have c14b0 : decide (57 < (bt a0 x4_2)) = false := decide_eq_false c14
          clear c14
          have H' := Aside0.mk H
          clear H
          have p11 : 0 ≤ (x4_2 : Int) := of_decide_eq_true (by first | (with_reducible assumption) | assumption)
          have q11 : x4_2 < (a0.size : Int) := of_decide_eq_true (by first | (with_reducible assumption) | assumption)
          have hx11 := bt_at a0 x4_2
          replace p11 := eq_true p11
          replace q11 := eq_true q11
          have p13 : 0 ≤ (x4_2 : Int) := of_decide_eq_true (by first | (with_reducible assumption) | assumption)
          have q13 : x4_2 < (a0.size : Int) := of_decide_eq_true (by first | (with_reducible assumption) | assumption)
          have hx13 := bt_at a0 x4_2
          replace p13 := eq_true p13
          replace q13 := eq_true q13
          have p15 : 0 ≤ (x4_2 : Int) := of_decide_eq_true (by first | (with_reducible assumption) | assumption)
          have q15 : x4_2 < (a0.size : Int) := of_decide_eq_true (by first | (with_reducible assumption) | assumption)
          have hx15 := bt_at a0 x4_2
          replace p15 := eq_true p15
          replace q15 := eq_true q15
          go_wp2
          go_roundg k2
          case measure => have := HJ1.out; have := HK2.out; omega
          case rel => exact ⟨(wrap64 ((wrap64 (10 * x3_2)) + (((bt a0 x4_2) - 48) % 256))), (wrap64 (x4_2 + 1)), (by first | rfl | (simp; done) | (simp [*]; done)), (by first | rfl | (simp; done) | (simp [*]; done)), H', ⟨by have := HJ1.out; have := HK2.out; omega⟩, by repeat (first | exact Drawn0.refl _ | apply Drawn0.step)⟩
       ·rw [if_neg c10] at H
        exact absurd H (by simp)
      ·rw [if_neg c9] at H
       have c9b0 : decide (x4_2 < (a0.size : Int)) = false := decide_eq_false c9
       clear c9
       obtain rfl := Option.some.inj H
       go_wp2
       go_ret
       exact ⟨by first | rfl | (simp; done) | (simp [*]; done), by repeat (first | exact Drawn0.refl _ | apply Drawn0.step)⟩

end Go.Proofs.YtpigloohccpfiaaDoor.PHttpReads
