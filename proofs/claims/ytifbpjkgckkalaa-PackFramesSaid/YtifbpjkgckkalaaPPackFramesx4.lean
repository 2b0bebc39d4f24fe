-- WRITTEN BY A PROGRAM OF THIS SESSION (wip/patch_print.py: the kit's printer with rules of this session's own); Lean checks it.
import Derived.Test.YtifbpjkgckkalaaPPackFramesx0
import Derived.Test.YtifbpjkgckkalaaPPackFramesx1
namespace Go.Proofs.Ytifbpjkgckkalaa.PPackFrames
open Go.RowKit Go.Proofs.YtifbpjkgckkalaaW.PrintWords Go.Proofs.YtifbpjkgckkalaaW.PrintLast Go.Proofs.YtifbpjkgckkalaaW.PrintMore
attribute [local go_sem] max2_int min2_int max_two min_two max_three min_three max_four min_four   -- for this text's walks alone
set_option linter.unusedVariables false
set_option linter.unusedSimpArgs false

/-! ### fascineref01_ReadUvarint: function 29 -/
mutual
def fascineref01_ReadUvarint.j0 : Nat → List Int → Int → Bool → Option (Int × Int × Int)
  | 0, _, _, _ => none
  | k + 1, x0, x1, x18 => if x18 = true then (some (0, 0, 1)) else (fascineref01_ReadUvarint.l0 k x0 x1 0)
def fascineref01_ReadUvarint.j2 : Nat → List Int → Int → Int → Option (Int × Int × Int)
  | 0, _, _, _ => none
  | k + 1, x0, x1, x7 => if x7 ≥ 10 then (fascineref01_ReadUvarint.j3 k x0 x1 x7 true) else (fascineref01_ReadUvarint.j3 k x0 x1 x7 (decide (x7 ≥ (wrap64 ((x0.length : Int) - x1)))))
def fascineref01_ReadUvarint.j3 : Nat → List Int → Int → Int → Bool → Option (Int × Int × Int)
  | 0, _, _, _, _ => none
  | k + 1, x0, x1, x7, x49 => if x49 = true then (some (0, 0, 3)) else (fascineref01_ReadUvarint.l1 k x0 x1 x7 0 x7)
def fascineref01_ReadUvarint.l1 : Nat → List Int → Int → Int → Int → Int → Option (Int × Int × Int)
  | 0, _, _, _, _, _ => none
  | k + 1, x0, x1, x7, x8, x9 => if x9 ≥ 0 then (if 0 ≤ (wrap64 (x1 + x9)) then (if (wrap64 (x1 + x9)) < (x0.length : Int) then (fascineref01_ReadUvarint.l1 k x0 x1 x7 (IntKind.u64.wrap ((IntKind.u64.wrap (x8 * 128)) + (IntKind.u64.wrap (Int.tmod (rd x0 (wrap64 (x1 + x9))) 128)))) (wrap64 (x9 - 1))) else (none)) else (none)) else ((fascineref01_Uvarint.f k x8).bind fun t190 => (if 0 ≤ x1 then (if x1 ≤ (wrap64 ((wrap64 (x1 + x7)) + 1)) then (if (wrap64 ((wrap64 (x1 + x7)) + 1)) ≤ (x0.length : Int) then (if (strOfNums t190).toList = (strOfNums ((x0.take ((wrap64 ((wrap64 (x1 + x7)) + 1)) : Int).toNat).drop (x1 : Int).toNat)).toList then (some (x8, wrap64 ((wrap64 (x1 + x7)) + 1), 0)) else (some (0, 0, 3))) else (none)) else (none)) else (none)))
def fascineref01_ReadUvarint.l0 : Nat → List Int → Int → Int → Option (Int × Int × Int)
  | 0, _, _, _ => none
  | k + 1, x0, x1, x7 => if x7 < 10 then (if x7 < (wrap64 ((x0.length : Int) - x1)) then (if 0 ≤ (wrap64 (x1 + x7)) then (if (wrap64 (x1 + x7)) < (x0.length : Int) then (if (rd x0 (wrap64 (x1 + x7))) ≥ 128 then (fascineref01_ReadUvarint.l0 k x0 x1 (wrap64 (x7 + 1))) else (fascineref01_ReadUvarint.j2 k x0 x1 x7)) else (none)) else (none)) else (fascineref01_ReadUvarint.j2 k x0 x1 x7)) else (fascineref01_ReadUvarint.j2 k x0 x1 x7)
end
def fascineref01_ReadUvarint.f (k : Nat) (l0 : List Int) (a1 : Int) : Option (Int × Int × Int) := if a1 < 0 then (fascineref01_ReadUvarint.j0 k l0 a1 true) else (fascineref01_ReadUvarint.j0 k l0 a1 (decide (a1 > (l0.length : Int))))
theorem fascineref01_ReadUvarint.mono_l : ∀ k, (∀ y0 y1 y2, LeO (fascineref01_ReadUvarint.j0 k y0 y1 y2) (fascineref01_ReadUvarint.j0 (k + 1) y0 y1 y2)) ∧ (∀ y0 y1 y2, LeO (fascineref01_ReadUvarint.j2 k y0 y1 y2) (fascineref01_ReadUvarint.j2 (k + 1) y0 y1 y2)) ∧ (∀ y0 y1 y2 y3, LeO (fascineref01_ReadUvarint.j3 k y0 y1 y2 y3) (fascineref01_ReadUvarint.j3 (k + 1) y0 y1 y2 y3)) ∧ (∀ y0 y1 y2 y3 y4, LeO (fascineref01_ReadUvarint.l1 k y0 y1 y2 y3 y4) (fascineref01_ReadUvarint.l1 (k + 1) y0 y1 y2 y3 y4)) ∧ (∀ y0 y1 y2, LeO (fascineref01_ReadUvarint.l0 k y0 y1 y2) (fascineref01_ReadUvarint.l0 (k + 1) y0 y1 y2))
  | 0 => ⟨fun _ _ _ r h => by simp [fascineref01_ReadUvarint.j0] at h, fun _ _ _ r h => by simp [fascineref01_ReadUvarint.j2] at h, fun _ _ _ _ r h => by simp [fascineref01_ReadUvarint.j3] at h, fun _ _ _ _ _ r h => by simp [fascineref01_ReadUvarint.l1] at h, fun _ _ _ r h => by simp [fascineref01_ReadUvarint.l0] at h⟩
  | k + 1 => by
    obtain ⟨ih0, ih1, ih2, ih3, ih4⟩ := fascineref01_ReadUvarint.mono_l k
    refine ⟨?_, ?_, ?_, ?_, ?_⟩
    · intro y0 y1 y2
      unfold fascineref01_ReadUvarint.j0
      repeat' first
      | (with_reducible exact ih0 _ _ _)
      | (with_reducible exact ih1 _ _ _)
      | (with_reducible exact ih2 _ _ _ _)
      | (with_reducible exact ih3 _ _ _ _ _)
      | (with_reducible exact ih4 _ _ _)
      | (with_reducible exact fascineref01_Uvarint.mono _ _)
      | (with_reducible exact LeO.refl _)
      | (with_reducible exact LeO.none _)
      | (with_reducible refine LeO.ite ?_ ?_)
      | (with_reducible refine LeO.bind ?_ (fun _ => ?_))
      | exact ih0 _ _ _
      | exact ih1 _ _ _
      | exact ih2 _ _ _ _
      | exact ih3 _ _ _ _ _
      | exact ih4 _ _ _
      | exact fascineref01_Uvarint.mono _ _
      | exact LeO.none _
      | refine LeO.ite ?_ ?_
      | refine LeO.bind ?_ (fun _ => ?_)
    · intro y0 y1 y2
      unfold fascineref01_ReadUvarint.j2
      repeat' first
      | (with_reducible exact ih0 _ _ _)
      | (with_reducible exact ih1 _ _ _)
      | (with_reducible exact ih2 _ _ _ _)
      | (with_reducible exact ih3 _ _ _ _ _)
      | (with_reducible exact ih4 _ _ _)
      | (with_reducible exact fascineref01_Uvarint.mono _ _)
      | (with_reducible exact LeO.refl _)
      | (with_reducible exact LeO.none _)
      | (with_reducible refine LeO.ite ?_ ?_)
      | (with_reducible refine LeO.bind ?_ (fun _ => ?_))
      | exact ih0 _ _ _
      | exact ih1 _ _ _
      | exact ih2 _ _ _ _
      | exact ih3 _ _ _ _ _
      | exact ih4 _ _ _
      | exact fascineref01_Uvarint.mono _ _
      | exact LeO.none _
      | refine LeO.ite ?_ ?_
      | refine LeO.bind ?_ (fun _ => ?_)
    · intro y0 y1 y2 y3
      unfold fascineref01_ReadUvarint.j3
      repeat' first
      | (with_reducible exact ih0 _ _ _)
      | (with_reducible exact ih1 _ _ _)
      | (with_reducible exact ih2 _ _ _ _)
      | (with_reducible exact ih3 _ _ _ _ _)
      | (with_reducible exact ih4 _ _ _)
      | (with_reducible exact fascineref01_Uvarint.mono _ _)
      | (with_reducible exact LeO.refl _)
      | (with_reducible exact LeO.none _)
      | (with_reducible refine LeO.ite ?_ ?_)
      | (with_reducible refine LeO.bind ?_ (fun _ => ?_))
      | exact ih0 _ _ _
      | exact ih1 _ _ _
      | exact ih2 _ _ _ _
      | exact ih3 _ _ _ _ _
      | exact ih4 _ _ _
      | exact fascineref01_Uvarint.mono _ _
      | exact LeO.none _
      | refine LeO.ite ?_ ?_
      | refine LeO.bind ?_ (fun _ => ?_)
    · intro y0 y1 y2 y3 y4
      unfold fascineref01_ReadUvarint.l1
      repeat' first
      | (with_reducible exact ih0 _ _ _)
      | (with_reducible exact ih1 _ _ _)
      | (with_reducible exact ih2 _ _ _ _)
      | (with_reducible exact ih3 _ _ _ _ _)
      | (with_reducible exact ih4 _ _ _)
      | (with_reducible exact fascineref01_Uvarint.mono _ _)
      | (with_reducible exact LeO.refl _)
      | (with_reducible exact LeO.none _)
      | (with_reducible refine LeO.ite ?_ ?_)
      | (with_reducible refine LeO.bind ?_ (fun _ => ?_))
      | exact ih0 _ _ _
      | exact ih1 _ _ _
      | exact ih2 _ _ _ _
      | exact ih3 _ _ _ _ _
      | exact ih4 _ _ _
      | exact fascineref01_Uvarint.mono _ _
      | exact LeO.none _
      | refine LeO.ite ?_ ?_
      | refine LeO.bind ?_ (fun _ => ?_)
    · intro y0 y1 y2
      unfold fascineref01_ReadUvarint.l0
      repeat' first
      | (with_reducible exact ih0 _ _ _)
      | (with_reducible exact ih1 _ _ _)
      | (with_reducible exact ih2 _ _ _ _)
      | (with_reducible exact ih3 _ _ _ _ _)
      | (with_reducible exact ih4 _ _ _)
      | (with_reducible exact fascineref01_Uvarint.mono _ _)
      | (with_reducible exact LeO.refl _)
      | (with_reducible exact LeO.none _)
      | (with_reducible refine LeO.ite ?_ ?_)
      | (with_reducible refine LeO.bind ?_ (fun _ => ?_))
      | exact ih0 _ _ _
      | exact ih1 _ _ _
      | exact ih2 _ _ _ _
      | exact ih3 _ _ _ _ _
      | exact ih4 _ _ _
      | exact fascineref01_Uvarint.mono _ _
      | exact LeO.none _
      | refine LeO.ite ?_ ?_
      | refine LeO.bind ?_ (fun _ => ?_)
theorem fascineref01_ReadUvarint.mono : ∀ a0 a1 k, LeO (fascineref01_ReadUvarint.f k a0 a1) (fascineref01_ReadUvarint.f (k + 1) a0 a1) := by
  intro a0 a1 k
  obtain ⟨ih0, ih1, ih2, ih3, ih4⟩ := fascineref01_ReadUvarint.mono_l k
  unfold fascineref01_ReadUvarint.f
  repeat' first
      | (with_reducible exact ih0 _ _ _)
      | (with_reducible exact ih1 _ _ _)
      | (with_reducible exact ih2 _ _ _ _)
      | (with_reducible exact ih3 _ _ _ _ _)
      | (with_reducible exact ih4 _ _ _)
      | (with_reducible exact fascineref01_Uvarint.mono _ _)
      | (with_reducible exact LeO.refl _)
      | (with_reducible exact LeO.none _)
      | (with_reducible refine LeO.ite ?_ ?_)
      | (with_reducible refine LeO.bind ?_ (fun _ => ?_))
      | exact ih0 _ _ _
      | exact ih1 _ _ _
      | exact ih2 _ _ _ _
      | exact ih3 _ _ _ _ _
      | exact ih4 _ _ _
      | exact fascineref01_Uvarint.mono _ _
      | exact LeO.none _
      | refine LeO.ite ?_ ?_
      | refine LeO.bind ?_ (fun _ => ?_)
set_option maxHeartbeats 8000000 in
set_option maxRecDepth 100000 in
theorem fascineref01_ReadUvarint.calls (k : Nat) (A0 : Option Addr) (c0 : Nat) (l0 : List Int) (a1 : Int) (r1 : Int) (r2 : Int) (r3 : Int) (w : World) (hr0 : Kd.C (Kd.int .u8) w A0 l0.length l0) (hc0 : l0.length ≤ c0) (h : fascineref01_ReadUvarint.f k l0 a1 = some (r1, r2, r3)) :
    Calls Try.prog 29 #[.slice A0 l0.length c0, .int .i64 a1] w fun e w' => e = .returned (.tuple #[.int .u64 r1, .int .i64 r2, .int .i64 r3]) ∧ Below w.heap.size w w' := by
  have HR0 := Aside0.mk hr0
  have HC0 := Aside0.mk hc0
  clear hr0 hc0
  have HB := Aside0.mk (Below.refl w.heap.size w)
  have H : (if a1 < 0 then (fascineref01_ReadUvarint.j0 k l0 a1 true) else (fascineref01_ReadUvarint.j0 k l0 a1 (decide (a1 > (l0.length : Int))))) = some (r1, r2, r3) := h
  clear h
  have HC3 := Aside0.mk H
  clear H
  go_enter Try.func29, Try.ntmps29
  go_upto_region 1 with (fail)
  repeat (go_quiet (fail); go_upto_region 1 with (fail))
  go_cut [18] (fun v18 wc => ∃ (kq : Nat) (x18_2 : Bool), v18 = .bool x18_2 ∧ Aside0 (fascineref01_ReadUvarint.j0 kq l0 a1 x18_2 = some (r1, r2, r3)) ∧ Aside0 (kq ≤ k) ∧ Aside0 (Below w.heap.size w wc))
  case first =>
    have H := HC3.out
    clear HC3
    by_cases c4 : a1 < 0
    · rw [if_pos c4] at H
      have c4b0 : decide (a1 < 0) = true := decide_eq_true c4
      clear c4
      (first | rw [c4b0] | (simp only [i64_w, i32_w]; rw [c4b0]) | skip)
      have H' := Aside0.mk H
      clear H
      go_wp2
      repeat (go_quiet (fail); try go_wp2)
      go_meet
      case rel => exact ⟨_, (true), (by first | rfl | (simp; done) | (simp [*]; done)), H', ⟨by first | omega | exact Nat.le_refl _⟩, ⟨by repeat (first | (with_reducible first | exact HB.out | apply below_alloc | apply pw_below_drewN | apply below_drew1) | exact HB.out)⟩⟩
    · rw [if_neg c4] at H
      have c4b0 : decide (a1 < 0) = false := decide_eq_false c4
      clear c4
      (first | rw [c4b0] | (simp only [i64_w, i32_w]; rw [c4b0]) | skip)
      have H' := Aside0.mk H
      clear H
      go_wp2
      repeat (go_quiet (fail); try go_wp2)
      go_meet
      case rel => exact ⟨_, (decide (a1 > (l0.length : Int))), (by first | rfl | (simp; done) | (simp [*]; done)), H', ⟨by first | omega | exact Nat.le_refl _⟩, ⟨by repeat (first | (with_reducible first | exact HB.out | apply below_alloc | apply pw_below_drewN | apply below_drew1) | exact HB.out)⟩⟩
  case rest =>
    clear HC3
    try clear c2
    try clear p2
    try clear c4
    try clear c4b0
    obtain ⟨kq, x18_2, rfl, HA, HJ2, HB⟩ := hcut
    cases kq with
    | zero => exact absurd HA.out (by simp [fascineref01_ReadUvarint.j0])
    | succ kj2 =>
      have H := HA.out
      clear HA
      simp only [fascineref01_ReadUvarint.j0] at H
      by_cases c5 : x18_2 = true
      · subst c5
        have H1 : (some (0, 0, 1)) = some (r1, r2, r3) := by rw [if_pos rfl] at H; exact H
        clear H
        have H := H1
        clear H1
        simp only [Option.some.injEq, Prod.mk.injEq] at H
        obtain ⟨rfl, rfl, rfl⟩ := H
        go_wp2
        repeat (go_quiet (fail); try go_wp2)
        go_ret3
        exact ⟨by first | rfl | (simp [errW_none, errW_some] <;> rfl) | (simp [*, errW_none, errW_some] <;> rfl), by repeat (first | (with_reducible first | exact HB.out | apply below_alloc | apply pw_below_drewN | apply below_drew1) | exact HB.out)⟩
      · replace c5 := Bool.eq_false_iff.mpr c5
        subst c5
        have H1 : (fascineref01_ReadUvarint.l0 kj2 l0 a1 0) = some (r1, r2, r3) := by rw [if_neg (show ¬ (false = true) by decide)] at H; exact H
        clear H
        have H := H1
        clear H1
        have HC6 := Aside0.mk H
        clear H
        go_upto_block 0 with (fail)
        repeat (go_quiet (fail); go_upto_block 0 with (fail))
        go_cut [7] (fun v7 wc => ∃ (kq : Nat) (x7_5 : Int), v7 = .int .i64 x7_5 ∧ Aside0 (fascineref01_ReadUvarint.j2 kq l0 a1 x7_5 = some (r1, r2, r3)) ∧ Aside0 (kq ≤ kj2) ∧ Aside0 (Below w.heap.size w wc))
        case first =>
          have H := HC6.out
          clear HC6
          have H' := Aside0.mk H
          clear H
          go_wp2
          repeat (go_quiet (fail); try go_wp2)
          go_loopg [7] kj2 (fun kq v7 w' => ∃ (x7_2 : Int), v7 = .int .i64 x7_2 ∧ Aside0 (fascineref01_ReadUvarint.l0 kq l0 a1 x7_2 = some (r1, r2, r3)) ∧ Aside0 (kq ≤ kj2) ∧ Aside0 (Below w.heap.size w w'))
          case atStart => exact ⟨(0), (by first | rfl | (simp; done) | (simp [*]; done)), H', ⟨Nat.le_refl _⟩, ⟨by repeat (first | (with_reducible first | exact HB.out | apply below_alloc | apply pw_below_drewN | apply below_drew1) | exact HB.out)⟩⟩
          case round =>
            clear H'
            try clear c2
            try clear p2
            try clear c4
            try clear c4b0
            try clear c5
            try clear p2
            obtain ⟨x7_2, rfl, HA, HK2, HB⟩ := hrel
            cases gk with
            | zero => exact absurd HA.out (by simp [fascineref01_ReadUvarint.l0])
            | succ k2 =>
              have H := HA.out
              clear HA
              simp only [fascineref01_ReadUvarint.l0] at H
              by_cases c7 : x7_2 < 10
              · rw [if_pos c7] at H
                have c7b0 : decide (x7_2 < 10) = true := decide_eq_true c7
                clear c7
                (first | rw [c7b0] | (simp only [i64_w, i32_w]; rw [c7b0]) | skip)
                by_cases c8 : x7_2 < (wrap64 ((l0.length : Int) - a1))
                · rw [if_pos c8] at H
                  have c8b0 : decide (x7_2 < (wrap64 ((l0.length : Int) - a1))) = true := decide_eq_true c8
                  clear c8
                  obtain ⟨ji9, hji9⟩ : ∃ j_ : Int, (wrap64 (a1 + x7_2)) = j_ := ⟨_, rfl⟩
                  replace H : (if 0 ≤ (ji9) then (if (ji9) < (l0.length : Int) then (if (rd l0 (ji9)) ≥ 128 then (fascineref01_ReadUvarint.l0 k2 l0 a1 (wrap64 (x7_2 + 1))) else (fascineref01_ReadUvarint.j2 k2 l0 a1 x7_2)) else (none)) else (none)) = some (r1, r2, r3) := by first | (rw [hji9] at H; exact H) | (simp only [hji9] at H ⊢; exact H)
                  have hji9w : (IntKind.i64.wrap (a1 + x7_2)) = ji9 := (i64_w _).trans hji9
                  by_cases c10 : 0 ≤ (ji9)
                  · rw [if_pos c10] at H
                    have c10b0 : decide (0 ≤ (ji9)) = true := decide_eq_true c10
                    clear c10
                    by_cases c11 : (ji9) < (l0.length : Int)
                    · rw [if_pos c11] at H
                      have c11b0 : decide ((ji9) < (l0.length : Int)) = true := decide_eq_true c11
                      clear c11
                      by_cases c12 : (rd l0 (ji9)) ≥ 128
                      · rw [if_pos c12] at H
                        have c12b0 : decide (128 ≤ (rd l0 (ji9))) = true := decide_eq_true c12
                        clear c12
                        have H' := Aside0.mk H
                        clear H
                        have p188 : 0 ≤ ((ji9) : Int) := of_decide_eq_true (by first | (with_reducible assumption) | assumption)
                        have q188 : (ji9) < (l0.length : Int) := of_decide_eq_true (by first | (with_reducible assumption) | assumption)
                        obtain ⟨ad188, e188, hx188_0⟩ := Kd.at_int HR0.out (ji9) p188 q188
                        cases e188
                        replace hx188_0 := (HB.out.cell (World.block_lt_of_cell? w _ hx188_0)).trans hx188_0
                        replace p188 := eq_true p188
                        replace q188 := eq_true q188
                        go_wp2
                        repeat (go_quiet (fail); try go_wp2)
                        go_roundg k2
                        case measure => have := HJ2.out; have := HK2.out; omega
                        case rel => exact ⟨(wrap64 (x7_2 + 1)), (by first | rfl | (simp; done) | (simp [*]; done)), H', ⟨by have := HJ2.out; have := HK2.out; omega⟩, ⟨by repeat (first | (with_reducible first | exact HB.out | apply below_alloc | apply pw_below_drewN | apply below_drew1) | exact HB.out)⟩⟩
                      · rw [if_neg c12] at H
                        have c12b0 : decide (128 ≤ (rd l0 (ji9))) = false := decide_eq_false c12
                        clear c12
                        have H' := Aside0.mk H
                        clear H
                        have p188 : 0 ≤ ((ji9) : Int) := of_decide_eq_true (by first | (with_reducible assumption) | assumption)
                        have q188 : (ji9) < (l0.length : Int) := of_decide_eq_true (by first | (with_reducible assumption) | assumption)
                        obtain ⟨ad188, e188, hx188_0⟩ := Kd.at_int HR0.out (ji9) p188 q188
                        cases e188
                        replace hx188_0 := (HB.out.cell (World.block_lt_of_cell? w _ hx188_0)).trans hx188_0
                        replace p188 := eq_true p188
                        replace q188 := eq_true q188
                        go_wp2
                        repeat (go_quiet (fail); try go_wp2)
                        go_meet
                        case rel => exact ⟨_, (x7_2), (by first | rfl | (simp; done) | (simp [*]; done)), H', ⟨by have := HJ2.out; have := HK2.out; first | omega | exact Nat.le_refl _⟩, ⟨by repeat (first | (with_reducible first | exact HB.out | apply below_alloc | apply pw_below_drewN | apply below_drew1) | exact HB.out)⟩⟩
                    · rw [if_neg c11] at H
                      exact absurd H (by simp)
                  · rw [if_neg c10] at H
                    exact absurd H (by simp)
                · rw [if_neg c8] at H
                  have c8b0 : decide (x7_2 < (wrap64 ((l0.length : Int) - a1))) = false := decide_eq_false c8
                  clear c8
                  have H' := Aside0.mk H
                  clear H
                  go_wp2
                  repeat (go_quiet (fail); try go_wp2)
                  go_meet
                  case rel => exact ⟨_, (x7_2), (by first | rfl | (simp; done) | (simp [*]; done)), H', ⟨by have := HJ2.out; have := HK2.out; first | omega | exact Nat.le_refl _⟩, ⟨by repeat (first | (with_reducible first | exact HB.out | apply below_alloc | apply pw_below_drewN | apply below_drew1) | exact HB.out)⟩⟩
              · rw [if_neg c7] at H
                have c7b0 : decide (x7_2 < 10) = false := decide_eq_false c7
                clear c7
                (first | rw [c7b0] | (simp only [i64_w, i32_w]; rw [c7b0]) | skip)
                have H' := Aside0.mk H
                clear H
                go_wp2
                repeat (go_quiet (fail); try go_wp2)
                go_meet
                case rel => exact ⟨_, (x7_2), (by first | rfl | (simp; done) | (simp [*]; done)), H', ⟨by have := HJ2.out; have := HK2.out; first | omega | exact Nat.le_refl _⟩, ⟨by repeat (first | (with_reducible first | exact HB.out | apply below_alloc | apply pw_below_drewN | apply below_drew1) | exact HB.out)⟩⟩
        case rest =>
          clear HC6
          try clear c1
          try clear p1
          try clear q1
          try clear hx1
          try clear c2
          try clear p2
          try clear c4
          try clear c4b0
          try clear c5
          try clear p6
          try clear c7
          try clear c7b0
          try clear c8
          try clear c8b0
          try clear c10
          try clear c10b0
          try clear c11
          try clear c11b0
          try clear c12
          try clear c12b0
          try clear hx188_0
          try clear p188
          try clear p2
          try clear q188
          obtain ⟨kq, x7_5, rfl, HA, HJ5, HB⟩ := hcut
          cases kq with
          | zero => exact absurd HA.out (by simp [fascineref01_ReadUvarint.j2])
          | succ kj5 =>
            have H := HA.out
            clear HA
            simp only [fascineref01_ReadUvarint.j2] at H
            have HC13 := Aside0.mk H
            clear H
            go_upto_region 6 with (fail)
            repeat (go_quiet (fail); go_upto_region 6 with (fail))
            go_cut [49] (fun v49 wc => ∃ (kq : Nat) (x49_12 : Bool), v49 = .bool x49_12 ∧ Aside0 (fascineref01_ReadUvarint.j3 kq l0 a1 x7_5 x49_12 = some (r1, r2, r3)) ∧ Aside0 (kq ≤ kj5) ∧ Aside0 (Below w.heap.size w wc))
            case first =>
              have H := HC13.out
              clear HC13
              by_cases c14 : x7_5 ≥ 10
              · rw [if_pos c14] at H
                have c14b0 : decide (10 ≤ x7_5) = true := decide_eq_true c14
                clear c14
                (first | rw [c14b0] | (simp only [i64_w, i32_w]; rw [c14b0]) | skip)
                have H' := Aside0.mk H
                clear H
                go_wp2
                repeat (go_quiet (fail); try go_wp2)
                go_meet
                case rel => exact ⟨_, (true), (by first | rfl | (simp; done) | (simp [*]; done)), H', ⟨by have := HJ2.out; have := HJ5.out; first | omega | exact Nat.le_refl _⟩, ⟨by repeat (first | (with_reducible first | exact HB.out | apply below_alloc | apply pw_below_drewN | apply below_drew1) | exact HB.out)⟩⟩
              · rw [if_neg c14] at H
                have c14b0 : decide (10 ≤ x7_5) = false := decide_eq_false c14
                clear c14
                (first | rw [c14b0] | (simp only [i64_w, i32_w]; rw [c14b0]) | skip)
                have H' := Aside0.mk H
                clear H
                go_wp2
                repeat (go_quiet (fail); try go_wp2)
                go_meet
                case rel => exact ⟨_, (decide (x7_5 ≥ (wrap64 ((l0.length : Int) - a1)))), (by first | rfl | (simp; done) | (simp [*]; done)), H', ⟨by have := HJ2.out; have := HJ5.out; first | omega | exact Nat.le_refl _⟩, ⟨by repeat (first | (with_reducible first | exact HB.out | apply below_alloc | apply pw_below_drewN | apply below_drew1) | exact HB.out)⟩⟩
            case rest =>
              clear HC13
              try clear c1
              try clear p1
              try clear q1
              try clear hx1
              try clear c2
              try clear p2
              try clear c4
              try clear c4b0
              try clear c5
              try clear p6
              try clear c7
              try clear c7b0
              try clear c8
              try clear c8b0
              try clear c10
              try clear c10b0
              try clear c11
              try clear c11b0
              try clear c12
              try clear c12b0
              try clear c14
              try clear c14b0
              try clear hx188_0
              try clear p1
              try clear p188
              try clear p2
              try clear p6
              try clear q1
              try clear q188
              obtain ⟨kq, x49_12, rfl, HA, HJ12, HB⟩ := hcut
              cases kq with
              | zero => exact absurd HA.out (by simp [fascineref01_ReadUvarint.j3])
              | succ kj12 =>
                have H := HA.out
                clear HA
                simp only [fascineref01_ReadUvarint.j3] at H
                by_cases c15 : x49_12 = true
                · subst c15
                  have H1 : (some (0, 0, 3)) = some (r1, r2, r3) := by rw [if_pos rfl] at H; exact H
                  clear H
                  have H := H1
                  clear H1
                  simp only [Option.some.injEq, Prod.mk.injEq] at H
                  obtain ⟨rfl, rfl, rfl⟩ := H
                  go_wp2
                  repeat (go_quiet (fail); try go_wp2)
                  go_ret3
                  exact ⟨by first | rfl | (simp [errW_none, errW_some] <;> rfl) | (simp [*, errW_none, errW_some] <;> rfl), by repeat (first | (with_reducible first | exact HB.out | apply below_alloc | apply pw_below_drewN | apply below_drew1) | exact HB.out)⟩
                · replace c15 := Bool.eq_false_iff.mpr c15
                  subst c15
                  have H1 : (fascineref01_ReadUvarint.l1 kj12 l0 a1 x7_5 0 x7_5) = some (r1, r2, r3) := by rw [if_neg (show ¬ (false = true) by decide)] at H; exact H
                  clear H
                  have H := H1
                  clear H1
                  have H' := Aside0.mk H
                  clear H
                  go_wp2
                  repeat (go_quiet (fail); try go_wp2)
                  go_loopg [8, 9] kj12 (fun kq v8 v9 w' => ∃ (x8_4 : Int) (x9_4 : Int), v8 = .int .u64 x8_4 ∧ v9 = .int .i64 x9_4 ∧ Aside0 (fascineref01_ReadUvarint.l1 kq l0 a1 x7_5 x8_4 x9_4 = some (r1, r2, r3)) ∧ Aside0 (kq ≤ kj12) ∧ Aside0 (Below w.heap.size w w'))
                  case atStart => exact ⟨(0), (x7_5), (by first | rfl | (simp; done) | (simp [*]; done)), (by first | rfl | (simp; done) | (simp [*]; done)), H', ⟨Nat.le_refl _⟩, ⟨by repeat (first | (with_reducible first | exact HB.out | apply below_alloc | apply pw_below_drewN | apply below_drew1) | exact HB.out)⟩⟩
                  case round =>
                    clear H'
                    try clear c1
                    try clear p1
                    try clear q1
                    try clear hx1
                    try clear c2
                    try clear p2
                    try clear c4
                    try clear c4b0
                    try clear c5
                    try clear p6
                    try clear c7
                    try clear c7b0
                    try clear c8
                    try clear c8b0
                    try clear c10
                    try clear c10b0
                    try clear c11
                    try clear c11b0
                    try clear c12
                    try clear c12b0
                    try clear c14
                    try clear c14b0
                    try clear c15
                    try clear hx188_0
                    try clear p1
                    try clear p188
                    try clear p2
                    try clear p6
                    try clear q1
                    try clear q188
                    obtain ⟨x8_4, x9_4, rfl, rfl, HA, HK4, HB⟩ := hrel
                    cases gk with
                    | zero => exact absurd HA.out (by simp [fascineref01_ReadUvarint.l1])
                    | succ k4 =>
                      have H := HA.out
                      clear HA
                      simp only [fascineref01_ReadUvarint.l1] at H
                      by_cases c16 : x9_4 ≥ 0
                      · rw [if_pos c16] at H
                        have c16b0 : decide (0 ≤ x9_4) = true := decide_eq_true c16
                        clear c16
                        obtain ⟨ji17, hji17⟩ : ∃ j_ : Int, (wrap64 (a1 + x9_4)) = j_ := ⟨_, rfl⟩
                        replace H : (if 0 ≤ (ji17) then (if (ji17) < (l0.length : Int) then (fascineref01_ReadUvarint.l1 k4 l0 a1 x7_5 (IntKind.u64.wrap ((IntKind.u64.wrap (x8_4 * 128)) + (IntKind.u64.wrap (Int.tmod (rd l0 (ji17)) 128)))) (wrap64 (x9_4 - 1))) else (none)) else (none)) = some (r1, r2, r3) := by first | (rw [hji17] at H; exact H) | (simp only [hji17] at H ⊢; exact H)
                        have hji17w : (IntKind.i64.wrap (a1 + x9_4)) = ji17 := (i64_w _).trans hji17
                        by_cases c18 : 0 ≤ (ji17)
                        · rw [if_pos c18] at H
                          have c18b0 : decide (0 ≤ (ji17)) = true := decide_eq_true c18
                          clear c18
                          by_cases c19 : (ji17) < (l0.length : Int)
                          · rw [if_pos c19] at H
                            have c19b0 : decide ((ji17) < (l0.length : Int)) = true := decide_eq_true c19
                            clear c19
                            have H' := Aside0.mk H
                            clear H
                            have p189 : 0 ≤ ((ji17) : Int) := of_decide_eq_true (by first | (with_reducible assumption) | assumption)
                            have q189 : (ji17) < (l0.length : Int) := of_decide_eq_true (by first | (with_reducible assumption) | assumption)
                            obtain ⟨ad189, e189, hx189_0⟩ := Kd.at_int HR0.out (ji17) p189 q189
                            cases e189
                            replace hx189_0 := (HB.out.cell (World.block_lt_of_cell? w _ hx189_0)).trans hx189_0
                            replace p189 := eq_true p189
                            replace q189 := eq_true q189
                            go_wp2
                            repeat (go_quiet (fail); try go_wp2)
                            go_roundg k4
                            case measure => have := HJ2.out; have := HJ5.out; have := HJ12.out; have := HK4.out; omega
                            case rel => exact ⟨(IntKind.u64.wrap ((IntKind.u64.wrap (x8_4 * 128)) + (IntKind.u64.wrap (Int.tmod (rd l0 (ji17)) 128)))), (wrap64 (x9_4 - 1)), (by first | rfl | (simp; done) | (simp only [← hji17] <;> (first | rfl | simp)) | (simp [*]; done)), (by first | rfl | (simp; done) | (simp [*]; done)), H', ⟨by have := HJ2.out; have := HJ5.out; have := HJ12.out; have := HK4.out; omega⟩, ⟨by repeat (first | (with_reducible first | exact HB.out | apply below_alloc | apply pw_below_drewN | apply below_drew1) | exact HB.out)⟩⟩
                          · rw [if_neg c19] at H
                            exact absurd H (by simp)
                        · rw [if_neg c18] at H
                          exact absurd H (by simp)
                      · rw [if_neg c16] at H
                        have c16b0 : decide (0 ≤ x9_4) = false := decide_eq_false c16
                        clear c16
                        replace H := Option.bind_eq_some_iff.mp H
                        obtain ⟨t190, A200, H⟩ := H
                        replace H : (if 0 ≤ a1 then (if a1 ≤ (wrap64 ((wrap64 (a1 + x7_5)) + 1)) then (if (wrap64 ((wrap64 (a1 + x7_5)) + 1)) ≤ (l0.length : Int) then (if (strOfNums t190).toList = (strOfNums ((l0.take ((wrap64 ((wrap64 (a1 + x7_5)) + 1)) : Int).toNat).drop (a1 : Int).toNat)).toList then (some (x8_4, wrap64 ((wrap64 (a1 + x7_5)) + 1), 0)) else (some (0, 0, 3))) else (none)) else (none)) else (none)) = some (r1, r2, r3) := H
                        have A20 := Aside0.mk A200
                        clear A200
                        by_cases c21 : 0 ≤ a1
                        · rw [if_pos c21] at H
                          have c21b0 := eq_true c21
                          have c21b1 : decide (0 ≤ a1) = true := decide_eq_true c21
                          clear c21
                          by_cases c22 : a1 ≤ (wrap64 ((wrap64 (a1 + x7_5)) + 1))
                          · rw [if_pos c22] at H
                            have c22b0 := eq_true c22
                            have c22b1 : decide (a1 ≤ (wrap64 ((wrap64 (a1 + x7_5)) + 1))) = true := decide_eq_true c22
                            by_cases c23 : (wrap64 ((wrap64 (a1 + x7_5)) + 1)) ≤ (l0.length : Int)
                            · rw [if_pos c23] at H
                              have c23b0 := eq_true c23
                              have c23b1 : decide ((wrap64 ((wrap64 (a1 + x7_5)) + 1)) ≤ (l0.length : Int)) = true := decide_eq_true c23
                              by_cases c24 : (strOfNums t190).toList = (strOfNums ((l0.take ((wrap64 ((wrap64 (a1 + x7_5)) + 1)) : Int).toNat).drop (a1 : Int).toNat)).toList
                              · rw [if_pos c24] at H
                                have c24b0 : ((strOfNums t190).toList == (strOfNums ((l0.take ((wrap64 ((wrap64 (a1 + x7_5)) + 1)) : Int).toNat).drop (a1 : Int).toNat)).toList) = true := beq_iff_eq.mpr c24
                                have c24b1 : ((strOfNums t190).toList != (strOfNums ((l0.take ((wrap64 ((wrap64 (a1 + x7_5)) + 1)) : Int).toNat).drop (a1 : Int).toNat)).toList) = false := bne_eq_false_iff_eq.mpr c24
                                clear c24
                                simp only [Option.some.injEq, Prod.mk.injEq] at H
                                obtain ⟨rfl, rfl, rfl⟩ := H
                                go_wp2_with (first | (go_at_call 24; (with_reducible refine (fascineref01_Uvarint.calls k4 x8_4 t190 _ A20.out).mono ?_); rintro e w25 ⟨v191, rfl, ho0, hb⟩; have n0_ := Aside0.mk (Kd.R_lower ho0 (below_size (by repeat (first | (with_reducible first | exact HB.out | apply below_alloc | apply pw_below_drewN | apply below_drew1) | exact HB.out)))); have n1_ := Aside0.mk (below_step (by repeat (first | (with_reducible first | exact HB.out | apply below_alloc | apply pw_below_drewN | apply below_drew1) | exact HB.out)) hb); clear HB; have HO192 := n0_; have HB := n1_; clear n0_ n1_; (try clear hb); (try clear hb2); (try clear hk); (try clear hi); (try clear ho0); have hcv26 := own_string (P := Try.prog) Try.underlying22 Try.underlying5 Try.underlying9 (Kd.own_of_R HO192.out); have hcq27 := fun (nq_ : Nat) => own_string (P := Try.prog) Try.underlying22 Try.underlying5 Try.underlying9 (Kd.own_of_R (Kd.R_drewN HO192.out nq_)); obtain ⟨i028, hi028, _, hsz28, _⟩ := info_parts info5; obtain ⟨A28, hcut28, hA28, hC28⟩ := print_mid_of (P := Try.prog) (Value.int .u8) 0 22 5 .i64 .i64 Try.underlying22 hi028 hsz28 A0 c0 l0 a1 (wrap64 ((wrap64 (a1 + x7_5)) + 1)) (of_decide_eq_true (by first | (with_reducible assumption) | assumption)) (by first | omega | exact of_decide_eq_true (by first | (with_reducible assumption) | assumption)) (of_decide_eq_true (by first | (with_reducible assumption) | assumption)) HC0.out; have HR193 := Aside0.mk (Kd.C_of_reads (h1 := fun _ => rfl) (hA28 _ (Kd.reads_of_C HR0.out))); have HC193 := Aside0.mk hC28; clear hA28 hC28 hi028 hsz28; have hcutq28 := hcut28; (try (conv at hcutq28 => intro W_ ; lhs ; simp only [← i64_w])); have hlq28 : ((l0.take ((wrap64 ((wrap64 (a1 + x7_5)) + 1)) : Int).toNat).drop (a1 : Int).toNat).length = ((wrap64 ((wrap64 (a1 + x7_5)) + 1)) : Int).toNat - (a1 : Int).toNat := (by have hle_ : ((wrap64 ((wrap64 (a1 + x7_5)) + 1)) : Int) ≤ (l0.length : Int) := of_decide_eq_true (by first | (with_reducible assumption) | assumption); simp only [List.length_drop, List.length_take]; omega); have HLQ28 := Aside0.mk hlq28; clear hlq28; have hcv29 := Kd.C_string (P := Try.prog) (A := A28) (c := (c0 - a1.toNat)) Try.underlying22 Try.underlying5 Try.underlying9 (Kd.C_below HR193.out HB.out); have hcv29q := fun (nq_ : Nat) => Kd.C_string (P := Try.prog) (A := A28) (c := (c0 - a1.toNat)) Try.underlying22 Try.underlying5 Try.underlying9 (Kd.C_drewN (Kd.C_below HR193.out HB.out) nq_); have hcv29r := hcv29q; (try (conv at hcv29r => intro nq_ ; lhs ; simp only [List.length_drop, List.length_take])); have hcv29s := hcv29q; (try rw [HLQ28.out] at hcv29s); have hcv29t := hcv29; (try rw [HLQ28.out] at hcv29t)))
                                repeat (go_quiet (first | (go_at_call 24; (with_reducible refine (fascineref01_Uvarint.calls k4 x8_4 t190 _ A20.out).mono ?_); rintro e w25 ⟨v191, rfl, ho0, hb⟩; have n0_ := Aside0.mk (Kd.R_lower ho0 (below_size (by repeat (first | (with_reducible first | exact HB.out | apply below_alloc | apply pw_below_drewN | apply below_drew1) | exact HB.out)))); have n1_ := Aside0.mk (below_step (by repeat (first | (with_reducible first | exact HB.out | apply below_alloc | apply pw_below_drewN | apply below_drew1) | exact HB.out)) hb); clear HB; have HO192 := n0_; have HB := n1_; clear n0_ n1_; (try clear hb); (try clear hb2); (try clear hk); (try clear hi); (try clear ho0); have hcv26 := own_string (P := Try.prog) Try.underlying22 Try.underlying5 Try.underlying9 (Kd.own_of_R HO192.out); have hcq27 := fun (nq_ : Nat) => own_string (P := Try.prog) Try.underlying22 Try.underlying5 Try.underlying9 (Kd.own_of_R (Kd.R_drewN HO192.out nq_)); obtain ⟨i028, hi028, _, hsz28, _⟩ := info_parts info5; obtain ⟨A28, hcut28, hA28, hC28⟩ := print_mid_of (P := Try.prog) (Value.int .u8) 0 22 5 .i64 .i64 Try.underlying22 hi028 hsz28 A0 c0 l0 a1 (wrap64 ((wrap64 (a1 + x7_5)) + 1)) (of_decide_eq_true (by first | (with_reducible assumption) | assumption)) (by first | omega | exact of_decide_eq_true (by first | (with_reducible assumption) | assumption)) (of_decide_eq_true (by first | (with_reducible assumption) | assumption)) HC0.out; have HR193 := Aside0.mk (Kd.C_of_reads (h1 := fun _ => rfl) (hA28 _ (Kd.reads_of_C HR0.out))); have HC193 := Aside0.mk hC28; clear hA28 hC28 hi028 hsz28; have hcutq28 := hcut28; (try (conv at hcutq28 => intro W_ ; lhs ; simp only [← i64_w])); have hlq28 : ((l0.take ((wrap64 ((wrap64 (a1 + x7_5)) + 1)) : Int).toNat).drop (a1 : Int).toNat).length = ((wrap64 ((wrap64 (a1 + x7_5)) + 1)) : Int).toNat - (a1 : Int).toNat := (by have hle_ : ((wrap64 ((wrap64 (a1 + x7_5)) + 1)) : Int) ≤ (l0.length : Int) := of_decide_eq_true (by first | (with_reducible assumption) | assumption); simp only [List.length_drop, List.length_take]; omega); have HLQ28 := Aside0.mk hlq28; clear hlq28; have hcv29 := Kd.C_string (P := Try.prog) (A := A28) (c := (c0 - a1.toNat)) Try.underlying22 Try.underlying5 Try.underlying9 (Kd.C_below HR193.out HB.out); have hcv29q := fun (nq_ : Nat) => Kd.C_string (P := Try.prog) (A := A28) (c := (c0 - a1.toNat)) Try.underlying22 Try.underlying5 Try.underlying9 (Kd.C_drewN (Kd.C_below HR193.out HB.out) nq_); have hcv29r := hcv29q; (try (conv at hcv29r => intro nq_ ; lhs ; simp only [List.length_drop, List.length_take])); have hcv29s := hcv29q; (try rw [HLQ28.out] at hcv29s); have hcv29t := hcv29; (try rw [HLQ28.out] at hcv29t))); try go_wp2_with (first | (go_at_call 24; (with_reducible refine (fascineref01_Uvarint.calls k4 x8_4 t190 _ A20.out).mono ?_); rintro e w25 ⟨v191, rfl, ho0, hb⟩; have n0_ := Aside0.mk (Kd.R_lower ho0 (below_size (by repeat (first | (with_reducible first | exact HB.out | apply below_alloc | apply pw_below_drewN | apply below_drew1) | exact HB.out)))); have n1_ := Aside0.mk (below_step (by repeat (first | (with_reducible first | exact HB.out | apply below_alloc | apply pw_below_drewN | apply below_drew1) | exact HB.out)) hb); clear HB; have HO192 := n0_; have HB := n1_; clear n0_ n1_; (try clear hb); (try clear hb2); (try clear hk); (try clear hi); (try clear ho0); have hcv26 := own_string (P := Try.prog) Try.underlying22 Try.underlying5 Try.underlying9 (Kd.own_of_R HO192.out); have hcq27 := fun (nq_ : Nat) => own_string (P := Try.prog) Try.underlying22 Try.underlying5 Try.underlying9 (Kd.own_of_R (Kd.R_drewN HO192.out nq_)); obtain ⟨i028, hi028, _, hsz28, _⟩ := info_parts info5; obtain ⟨A28, hcut28, hA28, hC28⟩ := print_mid_of (P := Try.prog) (Value.int .u8) 0 22 5 .i64 .i64 Try.underlying22 hi028 hsz28 A0 c0 l0 a1 (wrap64 ((wrap64 (a1 + x7_5)) + 1)) (of_decide_eq_true (by first | (with_reducible assumption) | assumption)) (by first | omega | exact of_decide_eq_true (by first | (with_reducible assumption) | assumption)) (of_decide_eq_true (by first | (with_reducible assumption) | assumption)) HC0.out; have HR193 := Aside0.mk (Kd.C_of_reads (h1 := fun _ => rfl) (hA28 _ (Kd.reads_of_C HR0.out))); have HC193 := Aside0.mk hC28; clear hA28 hC28 hi028 hsz28; have hcutq28 := hcut28; (try (conv at hcutq28 => intro W_ ; lhs ; simp only [← i64_w])); have hlq28 : ((l0.take ((wrap64 ((wrap64 (a1 + x7_5)) + 1)) : Int).toNat).drop (a1 : Int).toNat).length = ((wrap64 ((wrap64 (a1 + x7_5)) + 1)) : Int).toNat - (a1 : Int).toNat := (by have hle_ : ((wrap64 ((wrap64 (a1 + x7_5)) + 1)) : Int) ≤ (l0.length : Int) := of_decide_eq_true (by first | (with_reducible assumption) | assumption); simp only [List.length_drop, List.length_take]; omega); have HLQ28 := Aside0.mk hlq28; clear hlq28; have hcv29 := Kd.C_string (P := Try.prog) (A := A28) (c := (c0 - a1.toNat)) Try.underlying22 Try.underlying5 Try.underlying9 (Kd.C_below HR193.out HB.out); have hcv29q := fun (nq_ : Nat) => Kd.C_string (P := Try.prog) (A := A28) (c := (c0 - a1.toNat)) Try.underlying22 Try.underlying5 Try.underlying9 (Kd.C_drewN (Kd.C_below HR193.out HB.out) nq_); have hcv29r := hcv29q; (try (conv at hcv29r => intro nq_ ; lhs ; simp only [List.length_drop, List.length_take])); have hcv29s := hcv29q; (try rw [HLQ28.out] at hcv29s); have hcv29t := hcv29; (try rw [HLQ28.out] at hcv29t))))
                                go_ret3
                                exact ⟨by first | rfl | (simp [errW_none, errW_some] <;> rfl) | (simp [*, errW_none, errW_some] <;> rfl), by repeat (first | (with_reducible first | exact HB.out | apply below_alloc | apply pw_below_drewN | apply below_drew1) | exact HB.out)⟩
                              · rw [if_neg c24] at H
                                have c24b0 : ((strOfNums t190).toList == (strOfNums ((l0.take ((wrap64 ((wrap64 (a1 + x7_5)) + 1)) : Int).toNat).drop (a1 : Int).toNat)).toList) = false := beq_eq_false_iff_ne.mpr c24
                                have c24b1 : ((strOfNums t190).toList != (strOfNums ((l0.take ((wrap64 ((wrap64 (a1 + x7_5)) + 1)) : Int).toNat).drop (a1 : Int).toNat)).toList) = true := bne_iff_ne.mpr c24
                                simp only [Option.some.injEq, Prod.mk.injEq] at H
                                obtain ⟨rfl, rfl, rfl⟩ := H
                                go_wp2_with (first | (go_at_call 24; (with_reducible refine (fascineref01_Uvarint.calls k4 x8_4 t190 _ A20.out).mono ?_); rintro e w30 ⟨v191, rfl, ho0, hb⟩; have n0_ := Aside0.mk (Kd.R_lower ho0 (below_size (by repeat (first | (with_reducible first | exact HB.out | apply below_alloc | apply pw_below_drewN | apply below_drew1) | exact HB.out)))); have n1_ := Aside0.mk (below_step (by repeat (first | (with_reducible first | exact HB.out | apply below_alloc | apply pw_below_drewN | apply below_drew1) | exact HB.out)) hb); clear HB; have HO192 := n0_; have HB := n1_; clear n0_ n1_; (try clear hb); (try clear hb2); (try clear hk); (try clear hi); (try clear ho0); have hcv31 := own_string (P := Try.prog) Try.underlying22 Try.underlying5 Try.underlying9 (Kd.own_of_R HO192.out); have hcq32 := fun (nq_ : Nat) => own_string (P := Try.prog) Try.underlying22 Try.underlying5 Try.underlying9 (Kd.own_of_R (Kd.R_drewN HO192.out nq_)); obtain ⟨i033, hi033, _, hsz33, _⟩ := info_parts info5; obtain ⟨A33, hcut33, hA33, hC33⟩ := print_mid_of (P := Try.prog) (Value.int .u8) 0 22 5 .i64 .i64 Try.underlying22 hi033 hsz33 A0 c0 l0 a1 (wrap64 ((wrap64 (a1 + x7_5)) + 1)) (of_decide_eq_true (by first | (with_reducible assumption) | assumption)) (by first | omega | exact of_decide_eq_true (by first | (with_reducible assumption) | assumption)) (of_decide_eq_true (by first | (with_reducible assumption) | assumption)) HC0.out; have HR193 := Aside0.mk (Kd.C_of_reads (h1 := fun _ => rfl) (hA33 _ (Kd.reads_of_C HR0.out))); have HC193 := Aside0.mk hC33; clear hA33 hC33 hi033 hsz33; have hcutq33 := hcut33; (try (conv at hcutq33 => intro W_ ; lhs ; simp only [← i64_w])); have hlq33 : ((l0.take ((wrap64 ((wrap64 (a1 + x7_5)) + 1)) : Int).toNat).drop (a1 : Int).toNat).length = ((wrap64 ((wrap64 (a1 + x7_5)) + 1)) : Int).toNat - (a1 : Int).toNat := (by have hle_ : ((wrap64 ((wrap64 (a1 + x7_5)) + 1)) : Int) ≤ (l0.length : Int) := of_decide_eq_true (by first | (with_reducible assumption) | assumption); simp only [List.length_drop, List.length_take]; omega); have HLQ33 := Aside0.mk hlq33; clear hlq33; have hcv34 := Kd.C_string (P := Try.prog) (A := A33) (c := (c0 - a1.toNat)) Try.underlying22 Try.underlying5 Try.underlying9 (Kd.C_below HR193.out HB.out); have hcv34q := fun (nq_ : Nat) => Kd.C_string (P := Try.prog) (A := A33) (c := (c0 - a1.toNat)) Try.underlying22 Try.underlying5 Try.underlying9 (Kd.C_drewN (Kd.C_below HR193.out HB.out) nq_); have hcv34r := hcv34q; (try (conv at hcv34r => intro nq_ ; lhs ; simp only [List.length_drop, List.length_take])); have hcv34s := hcv34q; (try rw [HLQ33.out] at hcv34s); have hcv34t := hcv34; (try rw [HLQ33.out] at hcv34t)))
                                repeat (go_quiet (first | (go_at_call 24; (with_reducible refine (fascineref01_Uvarint.calls k4 x8_4 t190 _ A20.out).mono ?_); rintro e w30 ⟨v191, rfl, ho0, hb⟩; have n0_ := Aside0.mk (Kd.R_lower ho0 (below_size (by repeat (first | (with_reducible first | exact HB.out | apply below_alloc | apply pw_below_drewN | apply below_drew1) | exact HB.out)))); have n1_ := Aside0.mk (below_step (by repeat (first | (with_reducible first | exact HB.out | apply below_alloc | apply pw_below_drewN | apply below_drew1) | exact HB.out)) hb); clear HB; have HO192 := n0_; have HB := n1_; clear n0_ n1_; (try clear hb); (try clear hb2); (try clear hk); (try clear hi); (try clear ho0); have hcv31 := own_string (P := Try.prog) Try.underlying22 Try.underlying5 Try.underlying9 (Kd.own_of_R HO192.out); have hcq32 := fun (nq_ : Nat) => own_string (P := Try.prog) Try.underlying22 Try.underlying5 Try.underlying9 (Kd.own_of_R (Kd.R_drewN HO192.out nq_)); obtain ⟨i033, hi033, _, hsz33, _⟩ := info_parts info5; obtain ⟨A33, hcut33, hA33, hC33⟩ := print_mid_of (P := Try.prog) (Value.int .u8) 0 22 5 .i64 .i64 Try.underlying22 hi033 hsz33 A0 c0 l0 a1 (wrap64 ((wrap64 (a1 + x7_5)) + 1)) (of_decide_eq_true (by first | (with_reducible assumption) | assumption)) (by first | omega | exact of_decide_eq_true (by first | (with_reducible assumption) | assumption)) (of_decide_eq_true (by first | (with_reducible assumption) | assumption)) HC0.out; have HR193 := Aside0.mk (Kd.C_of_reads (h1 := fun _ => rfl) (hA33 _ (Kd.reads_of_C HR0.out))); have HC193 := Aside0.mk hC33; clear hA33 hC33 hi033 hsz33; have hcutq33 := hcut33; (try (conv at hcutq33 => intro W_ ; lhs ; simp only [← i64_w])); have hlq33 : ((l0.take ((wrap64 ((wrap64 (a1 + x7_5)) + 1)) : Int).toNat).drop (a1 : Int).toNat).length = ((wrap64 ((wrap64 (a1 + x7_5)) + 1)) : Int).toNat - (a1 : Int).toNat := (by have hle_ : ((wrap64 ((wrap64 (a1 + x7_5)) + 1)) : Int) ≤ (l0.length : Int) := of_decide_eq_true (by first | (with_reducible assumption) | assumption); simp only [List.length_drop, List.length_take]; omega); have HLQ33 := Aside0.mk hlq33; clear hlq33; have hcv34 := Kd.C_string (P := Try.prog) (A := A33) (c := (c0 - a1.toNat)) Try.underlying22 Try.underlying5 Try.underlying9 (Kd.C_below HR193.out HB.out); have hcv34q := fun (nq_ : Nat) => Kd.C_string (P := Try.prog) (A := A33) (c := (c0 - a1.toNat)) Try.underlying22 Try.underlying5 Try.underlying9 (Kd.C_drewN (Kd.C_below HR193.out HB.out) nq_); have hcv34r := hcv34q; (try (conv at hcv34r => intro nq_ ; lhs ; simp only [List.length_drop, List.length_take])); have hcv34s := hcv34q; (try rw [HLQ33.out] at hcv34s); have hcv34t := hcv34; (try rw [HLQ33.out] at hcv34t))); try go_wp2_with (first | (go_at_call 24; (with_reducible refine (fascineref01_Uvarint.calls k4 x8_4 t190 _ A20.out).mono ?_); rintro e w30 ⟨v191, rfl, ho0, hb⟩; have n0_ := Aside0.mk (Kd.R_lower ho0 (below_size (by repeat (first | (with_reducible first | exact HB.out | apply below_alloc | apply pw_below_drewN | apply below_drew1) | exact HB.out)))); have n1_ := Aside0.mk (below_step (by repeat (first | (with_reducible first | exact HB.out | apply below_alloc | apply pw_below_drewN | apply below_drew1) | exact HB.out)) hb); clear HB; have HO192 := n0_; have HB := n1_; clear n0_ n1_; (try clear hb); (try clear hb2); (try clear hk); (try clear hi); (try clear ho0); have hcv31 := own_string (P := Try.prog) Try.underlying22 Try.underlying5 Try.underlying9 (Kd.own_of_R HO192.out); have hcq32 := fun (nq_ : Nat) => own_string (P := Try.prog) Try.underlying22 Try.underlying5 Try.underlying9 (Kd.own_of_R (Kd.R_drewN HO192.out nq_)); obtain ⟨i033, hi033, _, hsz33, _⟩ := info_parts info5; obtain ⟨A33, hcut33, hA33, hC33⟩ := print_mid_of (P := Try.prog) (Value.int .u8) 0 22 5 .i64 .i64 Try.underlying22 hi033 hsz33 A0 c0 l0 a1 (wrap64 ((wrap64 (a1 + x7_5)) + 1)) (of_decide_eq_true (by first | (with_reducible assumption) | assumption)) (by first | omega | exact of_decide_eq_true (by first | (with_reducible assumption) | assumption)) (of_decide_eq_true (by first | (with_reducible assumption) | assumption)) HC0.out; have HR193 := Aside0.mk (Kd.C_of_reads (h1 := fun _ => rfl) (hA33 _ (Kd.reads_of_C HR0.out))); have HC193 := Aside0.mk hC33; clear hA33 hC33 hi033 hsz33; have hcutq33 := hcut33; (try (conv at hcutq33 => intro W_ ; lhs ; simp only [← i64_w])); have hlq33 : ((l0.take ((wrap64 ((wrap64 (a1 + x7_5)) + 1)) : Int).toNat).drop (a1 : Int).toNat).length = ((wrap64 ((wrap64 (a1 + x7_5)) + 1)) : Int).toNat - (a1 : Int).toNat := (by have hle_ : ((wrap64 ((wrap64 (a1 + x7_5)) + 1)) : Int) ≤ (l0.length : Int) := of_decide_eq_true (by first | (with_reducible assumption) | assumption); simp only [List.length_drop, List.length_take]; omega); have HLQ33 := Aside0.mk hlq33; clear hlq33; have hcv34 := Kd.C_string (P := Try.prog) (A := A33) (c := (c0 - a1.toNat)) Try.underlying22 Try.underlying5 Try.underlying9 (Kd.C_below HR193.out HB.out); have hcv34q := fun (nq_ : Nat) => Kd.C_string (P := Try.prog) (A := A33) (c := (c0 - a1.toNat)) Try.underlying22 Try.underlying5 Try.underlying9 (Kd.C_drewN (Kd.C_below HR193.out HB.out) nq_); have hcv34r := hcv34q; (try (conv at hcv34r => intro nq_ ; lhs ; simp only [List.length_drop, List.length_take])); have hcv34s := hcv34q; (try rw [HLQ33.out] at hcv34s); have hcv34t := hcv34; (try rw [HLQ33.out] at hcv34t))))
                                go_ret3
                                exact ⟨by first | rfl | (simp [errW_none, errW_some] <;> rfl) | (simp [*, errW_none, errW_some] <;> rfl), by repeat (first | (with_reducible first | exact HB.out | apply below_alloc | apply pw_below_drewN | apply below_drew1) | exact HB.out)⟩
                            · rw [if_neg c23] at H
                              exact absurd H (by simp)
                          · rw [if_neg c22] at H
                            exact absurd H (by simp)
                        · rw [if_neg c21] at H
                          exact absurd H (by simp)

end Go.Proofs.Ytifbpjkgckkalaa.PPackFrames
