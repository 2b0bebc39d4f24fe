-- WRITTEN BY A PROGRAM OF THIS SESSION (wip/patch_print.py: the kit's printer with rules of this session's own); Lean checks it.
import Derived.Test.YtaediecdpgndjaaPMergeMergesx0
import Derived.Test.YtaediecdpgndjaaPMergeMergesx2
import Derived.Test.YtaediecdpgndjaaPMergeMergesx3
namespace Go.Proofs.Ytaediecdpgndjaa.PMergeMerges
open Go.RowKit Go.Proofs.YtaediecdpgndjaaW.PrintWords Go.Proofs.YtaediecdpgndjaaW.PrintLast Go.Proofs.YtaediecdpgndjaaW.PrintMore
attribute [local go_sem] max2_int min2_int max_two min_two max_three min_three max_four min_four   -- for this text's walks alone
set_option linter.unusedVariables false
set_option linter.unusedSimpArgs false

/-! ### fascinelaw17_MergeMerges: function 3 -/
mutual
def fascinelaw17_MergeMerges.j0 : Nat → List (List (S31)) → Int → Bool → Option (Bool)
  | 0, _, _, _ => none
  | k + 1, x0, x1, x19 => if x19 = true then ((fascinelaw17_awake.f).bind fun t162 => (some t162)) else ((merge_Merge.f x0 x1).bind fun bt163 => (if x1 < 0 then (if bt163.2.2 = 1 then (if (bt163.1.length : Int) = 0 then (some (!bt163.2.1)) else (some false)) else (some false)) else (fascinelaw17_MergeMerges.l0 k x0 x1 bt163.1 bt163.2.1 bt163.2.2 0)))
def fascinelaw17_MergeMerges.l0 : Nat → List (List (S31)) → Int → List (S31) → Bool → Int → Int → Option (Bool)
  | 0, _, _, _, _, _, _ => none
  | k + 1, x0, x1, x5, x6, x7, x9 => if x9 < (x0.length : Int) then (if 0 ≤ x9 then (if ((rd_L3 x0 x9).length : Int) > 100 then (some true) else ((fascinelaw17_rises.f k (rd_L3 x0 x9)).bind fun t170 => (if t170 = true then (fascinelaw17_MergeMerges.l0 k x0 x1 x5 x6 x7 (wrap64 (x9 + 1))) else (if x7 = 3 then (if (x5.length : Int) = 0 then (some (!x6)) else (some false)) else (some false))))) else (none)) else (fascinelaw17_MergeMerges.l1 k x0 x1 x5 x6 x7 ([] : List (S31)) 0)
def fascinelaw17_MergeMerges.l1 : Nat → List (List (S31)) → Int → List (S31) → Bool → Int → List (S31) → Int → Option (Bool)
  | 0, _, _, _, _, _, _, _ => none
  | k + 1, x0, x1, x5, x6, x7, x8, x10 => if x10 < (x0.length : Int) then (fascinelaw17_MergeMerges.l2 k x0 x1 x5 x6 x7 x8 x10 0) else (if x1 < (x8.length : Int) then (if x7 = 0 then (if 0 ≤ x1 then (if x1 ≤ (x8.length : Int) then ((fascineref07_Same.f k x5 (x8.take (x1 : Int).toNat)).bind fun t175 => (if t175 = true then (some (x6 == (decide ((x8.length : Int) > x1)))) else (some false))) else (none)) else (none)) else (some false)) else (if x7 = 0 then (if 0 ≤ (x8.length : Int) then (if (x8.length : Int) ≤ (x8.length : Int) then ((fascineref07_Same.f k x5 (x8.take ((x8.length : Int) : Int).toNat)).bind fun t180 => (if t180 = true then (some (x6 == (decide ((x8.length : Int) > x1)))) else (some false))) else (none)) else (none)) else (some false)))
def fascinelaw17_MergeMerges.l2 : Nat → List (List (S31)) → Int → List (S31) → Bool → Int → List (S31) → Int → Int → Option (Bool)
  | 0, _, _, _, _, _, _, _, _ => none
  | k + 1, x0, x1, x5, x6, x7, x8, x10, x11 => if 0 ≤ x10 then (if x10 < (x0.length : Int) then (if x11 < ((rd_L3 x0 x10).length : Int) then (if 0 ≤ x11 then ((fascineref07_Put.f k x8 ((rd_T31 (rd_L3 x0 x10) x11).f0) ((rd_T31 (rd_L3 x0 x10) x11).f1) ((rd_T31 (rd_L3 x0 x10) x11).f2)).bind fun t184 => (fascinelaw17_MergeMerges.l2 k x0 x1 x5 x6 x7 t184 x10 (wrap64 (x11 + 1)))) else (none)) else (fascinelaw17_MergeMerges.l1 k x0 x1 x5 x6 x7 x8 (wrap64 (x10 + 1)))) else (none)) else (none)
end
def fascinelaw17_MergeMerges.f (k : Nat) (l0 : List (List (S31))) (a1 : Int) : Option (Bool) := (fascinelaw17_awake.f).bind fun t161 => (if t161 = true then (fascinelaw17_MergeMerges.j0 k l0 a1 (decide ((l0.length : Int) > 20))) else (fascinelaw17_MergeMerges.j0 k l0 a1 true))
theorem fascinelaw17_MergeMerges.mono_l : ∀ k, (∀ y0 y1 y2, LeO (fascinelaw17_MergeMerges.j0 k y0 y1 y2) (fascinelaw17_MergeMerges.j0 (k + 1) y0 y1 y2)) ∧ (∀ y0 y1 y2 y3 y4 y5, LeO (fascinelaw17_MergeMerges.l0 k y0 y1 y2 y3 y4 y5) (fascinelaw17_MergeMerges.l0 (k + 1) y0 y1 y2 y3 y4 y5)) ∧ (∀ y0 y1 y2 y3 y4 y5 y6, LeO (fascinelaw17_MergeMerges.l1 k y0 y1 y2 y3 y4 y5 y6) (fascinelaw17_MergeMerges.l1 (k + 1) y0 y1 y2 y3 y4 y5 y6)) ∧ (∀ y0 y1 y2 y3 y4 y5 y6 y7, LeO (fascinelaw17_MergeMerges.l2 k y0 y1 y2 y3 y4 y5 y6 y7) (fascinelaw17_MergeMerges.l2 (k + 1) y0 y1 y2 y3 y4 y5 y6 y7))
  | 0 => ⟨fun _ _ _ r h => by simp [fascinelaw17_MergeMerges.j0] at h, fun _ _ _ _ _ _ r h => by simp [fascinelaw17_MergeMerges.l0] at h, fun _ _ _ _ _ _ _ r h => by simp [fascinelaw17_MergeMerges.l1] at h, fun _ _ _ _ _ _ _ _ r h => by simp [fascinelaw17_MergeMerges.l2] at h⟩
  | k + 1 => by
    obtain ⟨ih0, ih1, ih2, ih3⟩ := fascinelaw17_MergeMerges.mono_l k
    refine ⟨?_, ?_, ?_, ?_⟩
    · intro y0 y1 y2
      unfold fascinelaw17_MergeMerges.j0
      repeat' first
      | (with_reducible exact ih0 _ _ _)
      | (with_reducible exact ih1 _ _ _ _ _ _)
      | (with_reducible exact ih2 _ _ _ _ _ _ _)
      | (with_reducible exact ih3 _ _ _ _ _ _ _ _)
      | (with_reducible exact fascinelaw17_rises.mono _ _)
      | (with_reducible exact fascineref07_Put.mono _ _ _ _ _)
      | (with_reducible exact fascineref07_Same.mono _ _ _)
      | (with_reducible exact LeO.refl _)
      | (with_reducible exact LeO.none _)
      | (with_reducible refine LeO.ite ?_ ?_)
      | (with_reducible refine LeO.bind ?_ (fun _ => ?_))
      | exact ih0 _ _ _
      | exact ih1 _ _ _ _ _ _
      | exact ih2 _ _ _ _ _ _ _
      | exact ih3 _ _ _ _ _ _ _ _
      | exact fascinelaw17_rises.mono _ _
      | exact fascineref07_Put.mono _ _ _ _ _
      | exact fascineref07_Same.mono _ _ _
      | exact LeO.none _
      | refine LeO.ite ?_ ?_
      | refine LeO.bind ?_ (fun _ => ?_)
    · intro y0 y1 y2 y3 y4 y5
      unfold fascinelaw17_MergeMerges.l0
      repeat' first
      | (with_reducible exact ih0 _ _ _)
      | (with_reducible exact ih1 _ _ _ _ _ _)
      | (with_reducible exact ih2 _ _ _ _ _ _ _)
      | (with_reducible exact ih3 _ _ _ _ _ _ _ _)
      | (with_reducible exact fascinelaw17_rises.mono _ _)
      | (with_reducible exact fascineref07_Put.mono _ _ _ _ _)
      | (with_reducible exact fascineref07_Same.mono _ _ _)
      | (with_reducible exact LeO.refl _)
      | (with_reducible exact LeO.none _)
      | (with_reducible refine LeO.ite ?_ ?_)
      | (with_reducible refine LeO.bind ?_ (fun _ => ?_))
      | exact ih0 _ _ _
      | exact ih1 _ _ _ _ _ _
      | exact ih2 _ _ _ _ _ _ _
      | exact ih3 _ _ _ _ _ _ _ _
      | exact fascinelaw17_rises.mono _ _
      | exact fascineref07_Put.mono _ _ _ _ _
      | exact fascineref07_Same.mono _ _ _
      | exact LeO.none _
      | refine LeO.ite ?_ ?_
      | refine LeO.bind ?_ (fun _ => ?_)
    · intro y0 y1 y2 y3 y4 y5 y6
      unfold fascinelaw17_MergeMerges.l1
      repeat' first
      | (with_reducible exact ih0 _ _ _)
      | (with_reducible exact ih1 _ _ _ _ _ _)
      | (with_reducible exact ih2 _ _ _ _ _ _ _)
      | (with_reducible exact ih3 _ _ _ _ _ _ _ _)
      | (with_reducible exact fascinelaw17_rises.mono _ _)
      | (with_reducible exact fascineref07_Put.mono _ _ _ _ _)
      | (with_reducible exact fascineref07_Same.mono _ _ _)
      | (with_reducible exact LeO.refl _)
      | (with_reducible exact LeO.none _)
      | (with_reducible refine LeO.ite ?_ ?_)
      | (with_reducible refine LeO.bind ?_ (fun _ => ?_))
      | exact ih0 _ _ _
      | exact ih1 _ _ _ _ _ _
      | exact ih2 _ _ _ _ _ _ _
      | exact ih3 _ _ _ _ _ _ _ _
      | exact fascinelaw17_rises.mono _ _
      | exact fascineref07_Put.mono _ _ _ _ _
      | exact fascineref07_Same.mono _ _ _
      | exact LeO.none _
      | refine LeO.ite ?_ ?_
      | refine LeO.bind ?_ (fun _ => ?_)
    · intro y0 y1 y2 y3 y4 y5 y6 y7
      unfold fascinelaw17_MergeMerges.l2
      repeat' first
      | (with_reducible exact ih0 _ _ _)
      | (with_reducible exact ih1 _ _ _ _ _ _)
      | (with_reducible exact ih2 _ _ _ _ _ _ _)
      | (with_reducible exact ih3 _ _ _ _ _ _ _ _)
      | (with_reducible exact fascinelaw17_rises.mono _ _)
      | (with_reducible exact fascineref07_Put.mono _ _ _ _ _)
      | (with_reducible exact fascineref07_Same.mono _ _ _)
      | (with_reducible exact LeO.refl _)
      | (with_reducible exact LeO.none _)
      | (with_reducible refine LeO.ite ?_ ?_)
      | (with_reducible refine LeO.bind ?_ (fun _ => ?_))
      | exact ih0 _ _ _
      | exact ih1 _ _ _ _ _ _
      | exact ih2 _ _ _ _ _ _ _
      | exact ih3 _ _ _ _ _ _ _ _
      | exact fascinelaw17_rises.mono _ _
      | exact fascineref07_Put.mono _ _ _ _ _
      | exact fascineref07_Same.mono _ _ _
      | exact LeO.none _
      | refine LeO.ite ?_ ?_
      | refine LeO.bind ?_ (fun _ => ?_)
theorem fascinelaw17_MergeMerges.mono : ∀ a0 a1 k, LeO (fascinelaw17_MergeMerges.f k a0 a1) (fascinelaw17_MergeMerges.f (k + 1) a0 a1) := by
  intro a0 a1 k
  obtain ⟨ih0, ih1, ih2, ih3⟩ := fascinelaw17_MergeMerges.mono_l k
  unfold fascinelaw17_MergeMerges.f
  repeat' first
      | (with_reducible exact ih0 _ _ _)
      | (with_reducible exact ih1 _ _ _ _ _ _)
      | (with_reducible exact ih2 _ _ _ _ _ _ _)
      | (with_reducible exact ih3 _ _ _ _ _ _ _ _)
      | (with_reducible exact fascinelaw17_rises.mono _ _)
      | (with_reducible exact fascineref07_Put.mono _ _ _ _ _)
      | (with_reducible exact fascineref07_Same.mono _ _ _)
      | (with_reducible exact LeO.refl _)
      | (with_reducible exact LeO.none _)
      | (with_reducible refine LeO.ite ?_ ?_)
      | (with_reducible refine LeO.bind ?_ (fun _ => ?_))
      | exact ih0 _ _ _
      | exact ih1 _ _ _ _ _ _
      | exact ih2 _ _ _ _ _ _ _
      | exact ih3 _ _ _ _ _ _ _ _
      | exact fascinelaw17_rises.mono _ _
      | exact fascineref07_Put.mono _ _ _ _ _
      | exact fascineref07_Same.mono _ _ _
      | exact LeO.none _
      | refine LeO.ite ?_ ?_
      | refine LeO.bind ?_ (fun _ => ?_)
set_option maxHeartbeats 8000000 in
set_option maxRecDepth 100000 in
theorem fascinelaw17_MergeMerges.calls (k : Nat) (A0 : Option Addr) (c0 : Nat) (l0 : List (List (S31))) (a1 : Int) (r : Bool) (w : World) (hr0 : Kd.C (Kd.slice 31 k31) w A0 l0.length l0) (hc0 : l0.length ≤ c0) (h : fascinelaw17_MergeMerges.f k l0 a1 = some r) (hr_ : r = true) :
    Calls Try.prog 3 #[.slice A0 l0.length c0, .int .i64 a1] w fun e w' => e = .returned (.bool r) ∧ Below w.heap.size w w' := by
  have HR_ := Aside0.mk hr_
  clear hr_
  have hu31 := Try.underlying31
  have HR0 := Aside0.mk hr0
  have HC0 := Aside0.mk hc0
  clear hr0 hc0
  have HB := Aside0.mk (Below.refl w.heap.size w)
  have H : ((fascinelaw17_awake.f).bind fun t161 => (if t161 = true then (fascinelaw17_MergeMerges.j0 k l0 a1 (decide ((l0.length : Int) > 20))) else (fascinelaw17_MergeMerges.j0 k l0 a1 true))) = some r := h
  clear h
  have HC3 := Aside0.mk H
  clear H
  go_enter Try.func3, Try.ntmps3
  go_upto_region 1 with (fail)
  go_cut [19] (fun v19 wc => ∃ (kq : Nat) (x19_2 : Bool), v19 = .bool x19_2 ∧ Aside0 (fascinelaw17_MergeMerges.j0 kq l0 a1 x19_2 = some r) ∧ Aside0 (kq ≤ k) ∧ Aside0 (Below w.heap.size w wc))
  case first =>
    have H := HC3.out
    clear HC3
    replace H := Option.bind_eq_some_iff.mp H
    obtain ⟨t161, A40, H⟩ := H
    replace H : (if t161 = true then (fascinelaw17_MergeMerges.j0 k l0 a1 (decide ((l0.length : Int) > 20))) else (fascinelaw17_MergeMerges.j0 k l0 a1 true)) = some r := H
    have A4 := Aside0.mk A40
    clear A40
    by_cases c5 : t161 = true
    · subst c5
      have H1 : (fascinelaw17_MergeMerges.j0 k l0 a1 (decide ((l0.length : Int) > 20))) = some r := by rw [if_pos rfl] at H; exact H
      clear H
      have H := H1
      clear H1
      have H' := Aside0.mk H
      clear H
      go_wp2_with (first | ((with_reducible refine gate_callee (f := 7) rfl ?_); refine goesL_ (some 13) rfl rfl Try.func7 (by kernel_rfl) rfl #[] rfl (by (try simp only [List.map_toArray, List.map_cons, List.map_nil]); first | done | rfl | (simp only [List.length_drop, List.length_take]; rfl)) ?_; (with_reducible refine (fascinelaw17_awake.calls  true _ A4.out).mono ?_); rintro e w6 ⟨rfl, hb⟩; refine ⟨_, rfl, ?_⟩; have n0_ := Aside0.mk (below_step (by repeat (first | (with_reducible first | exact HB.out | apply below_alloc | apply pw_below_drewN | apply below_drew1) | exact HB.out)) hb); clear HB; have HB := n0_; clear n0_; (try clear hb); (try clear hb2); (try clear hk); (try clear hi)))
      go_meet
      case rel => exact ⟨_, (decide ((l0.length : Int) > 20)), (by first | rfl | (simp; done) | (simp [*]; done)), H', ⟨by first | omega | exact Nat.le_refl _⟩, ⟨by repeat (first | (with_reducible first | exact HB.out | apply below_alloc | apply pw_below_drewN | apply below_drew1) | exact HB.out)⟩⟩
    · replace c5 := Bool.eq_false_iff.mpr c5
      subst c5
      have H1 : (fascinelaw17_MergeMerges.j0 k l0 a1 true) = some r := by rw [if_neg (show ¬ (false = true) by decide)] at H; exact H
      clear H
      have H := H1
      clear H1
      have H' := Aside0.mk H
      clear H
      go_wp2_with (first | ((with_reducible refine gate_callee (f := 7) rfl ?_); refine goesL_ (some 13) rfl rfl Try.func7 (by kernel_rfl) rfl #[] rfl (by (try simp only [List.map_toArray, List.map_cons, List.map_nil]); first | done | rfl | (simp only [List.length_drop, List.length_take]; rfl)) ?_; (with_reducible refine (fascinelaw17_awake.calls  false _ A4.out).mono ?_); rintro e w7 ⟨rfl, hb⟩; refine ⟨_, rfl, ?_⟩; have n0_ := Aside0.mk (below_step (by repeat (first | (with_reducible first | exact HB.out | apply below_alloc | apply pw_below_drewN | apply below_drew1) | exact HB.out)) hb); clear HB; have HB := n0_; clear n0_; (try clear hb); (try clear hb2); (try clear hk); (try clear hi)))
      go_meet
      case rel => exact ⟨_, (true), (by first | rfl | (simp; done) | (simp [*]; done)), H', ⟨by first | omega | exact Nat.le_refl _⟩, ⟨by repeat (first | (with_reducible first | exact HB.out | apply below_alloc | apply pw_below_drewN | apply below_drew1) | exact HB.out)⟩⟩
  case rest =>
    clear HC3
    try clear p2
    try clear c3
    try clear c5
    try clear c7
    obtain ⟨kq, x19_2, rfl, HA, HJ2, HB⟩ := hcut
    cases kq with
    | zero => exact absurd HA.out (by simp [fascinelaw17_MergeMerges.j0])
    | succ kj2 =>
      have H := HA.out
      clear HA
      simp only [fascinelaw17_MergeMerges.j0] at H
      by_cases c8 : x19_2 = true
      · subst c8
        have H1 : ((fascinelaw17_awake.f).bind fun t162 => (some t162)) = some r := by rw [if_pos rfl] at H; exact H
        clear H
        have H := H1
        clear H1
        replace H := Option.bind_eq_some_iff.mp H
        obtain ⟨t162, A90, H⟩ := H
        replace H : (some t162) = some r := H
        have A9 := Aside0.mk A90
        clear A90
        obtain rfl := Option.some.inj H
        go_wp2_with (first | ((with_reducible refine gate_callee (f := 7) rfl ?_); refine goesL_ (some 20) rfl rfl Try.func7 (by kernel_rfl) rfl #[] rfl (by (try simp only [List.map_toArray, List.map_cons, List.map_nil]); first | done | rfl | (simp only [List.length_drop, List.length_take]; rfl)) ?_; (with_reducible refine (fascinelaw17_awake.calls  t162 _ A9.out).mono ?_); rintro e w10 ⟨rfl, hb⟩; refine ⟨_, rfl, ?_⟩; have n0_ := Aside0.mk (below_step (by repeat (first | (with_reducible first | exact HB.out | apply below_alloc | apply pw_below_drewN | apply below_drew1) | exact HB.out)) hb); clear HB; have HB := n0_; clear n0_; (try clear hb); (try clear hb2); (try clear hk); (try clear hi)))
        go_ret
        exact ⟨by first | rfl | (simp [errW_none, errW_some] <;> rfl) | (simp [*, errW_none, errW_some] <;> rfl), by repeat (first | (with_reducible first | exact HB.out | apply below_alloc | apply pw_below_drewN | apply below_drew1) | exact HB.out)⟩
      · replace c8 := Bool.eq_false_iff.mpr c8
        subst c8
        have H1 : ((merge_Merge.f l0 a1).bind fun bt163 => (if a1 < 0 then (if bt163.2.2 = 1 then (if (bt163.1.length : Int) = 0 then (some (!bt163.2.1)) else (some false)) else (some false)) else (fascinelaw17_MergeMerges.l0 kj2 l0 a1 bt163.1 bt163.2.1 bt163.2.2 0))) = some r := by rw [if_neg (show ¬ (false = true) by decide)] at H; exact H
        clear H
        have H := H1
        clear H1
        replace H := Option.bind_eq_some_iff.mp H
        obtain ⟨⟨t163, t164, t165⟩, A110, H⟩ := H
        replace H : (if a1 < 0 then (if t165 = 1 then (if (t163.length : Int) = 0 then (some (!t164)) else (some false)) else (some false)) else (fascinelaw17_MergeMerges.l0 kj2 l0 a1 t163 t164 t165 0)) = some r := H
        have A11 := Aside0.mk A110
        clear A110
        by_cases c12 : a1 < 0
        · rw [if_pos c12] at H
          have c12b0 : decide (a1 < 0) = true := decide_eq_true c12
          clear c12
          by_cases c13 : t165 = 1
          · rw [if_pos c13] at H
            have c13b0 : (t165 == 1) = true := beq_iff_eq.mpr c13
            have c13b1 : (t165 != 1) = false := bne_eq_false_iff_eq.mpr c13
            clear c13
            by_cases c14 : (t163.length : Int) = 0
            · rw [if_pos c14] at H
              have c14b0 : ((t163.length : Int) == 0) = true := beq_iff_eq.mpr c14
              have c14b1 : ((t163.length : Int) != 0) = false := bne_eq_false_iff_eq.mpr c14
              clear c14
              obtain rfl := Option.some.inj H
              go_wp2_with (first | ((with_reducible refine gate_callee (f := 8) rfl ?_); refine goesL_ (some 24) rfl rfl Try.func8 (by kernel_rfl) rfl #[.slice A0 l0.length c0, .int .i64 a1] rfl (by (try simp only [List.map_toArray, List.map_cons, List.map_nil]); first | done | rfl | (simp only [List.length_drop, List.length_take]; rfl)) ?_; (with_reducible refine (merge_Merge.calls _ _ l0 a1 t163 t164 t165 _ ?side1 ?side2 A11.out).mono ?_); (case side1 => repeat (first | exact (Kd.C_below HR0.out HB.out) | (with_reducible refine Kd.C_alloc ?_ _) | (with_reducible refine Kd.C_drewN ?_ _) | (with_reducible refine Kd.C_drew ?_))); (case side2 => exact HC0.out); rintro e w15 ⟨v166, rfl, ho0, hb⟩; refine ⟨_, rfl, ?_⟩; have n0_ := Aside0.mk (Kd.R_lower ho0 (below_size (by repeat (first | (with_reducible first | exact HB.out | apply below_alloc | apply pw_below_drewN | apply below_drew1) | exact HB.out)))); have n1_ := Aside0.mk (below_step (by repeat (first | (with_reducible first | exact HB.out | apply below_alloc | apply pw_below_drewN | apply below_drew1) | exact HB.out)) hb); clear HB; have HO167 := n0_; have HB := n1_; clear n0_ n1_; (try clear hb); (try clear hb2); (try clear hk); (try clear hi); (try clear ho0); obtain ⟨Ao16, co16, eo16⟩ := Kd.R_slice HO167.out; subst eo16))
              go_ret
              exact ⟨by first | rfl | (simp [errW_none, errW_some] <;> rfl) | (simp [*, errW_none, errW_some] <;> rfl), by repeat (first | (with_reducible first | exact HB.out | apply below_alloc | apply pw_below_drewN | apply below_drew1) | exact HB.out)⟩
            · rw [if_neg c14] at H
              have c14b0 : ((t163.length : Int) == 0) = false := beq_eq_false_iff_ne.mpr c14
              have c14b1 : ((t163.length : Int) != 0) = true := bne_iff_ne.mpr c14
              have c14b2 : ¬ (t163 = []) := fun h_ => c14 (by rw [h_]; rfl)
              exact absurd (HR_.out.symm.trans (Option.some.inj H).symm) (by decide)
          · rw [if_neg c13] at H
            have c13b0 : (t165 == 1) = false := beq_eq_false_iff_ne.mpr c13
            have c13b1 : (t165 != 1) = true := bne_iff_ne.mpr c13
            exact absurd (HR_.out.symm.trans (Option.some.inj H).symm) (by decide)
        · rw [if_neg c12] at H
          have c12b0 : decide (a1 < 0) = false := decide_eq_false c12
          clear c12
          have H' := Aside0.mk H
          clear H
          go_wp2_with (first | ((with_reducible refine gate_callee (f := 8) rfl ?_); refine goesL_ (some 24) rfl rfl Try.func8 (by kernel_rfl) rfl #[.slice A0 l0.length c0, .int .i64 a1] rfl (by (try simp only [List.map_toArray, List.map_cons, List.map_nil]); first | done | rfl | (simp only [List.length_drop, List.length_take]; rfl)) ?_; (with_reducible refine (merge_Merge.calls _ _ l0 a1 t163 t164 t165 _ ?side1 ?side2 A11.out).mono ?_); (case side1 => repeat (first | exact (Kd.C_below HR0.out HB.out) | (with_reducible refine Kd.C_alloc ?_ _) | (with_reducible refine Kd.C_drewN ?_ _) | (with_reducible refine Kd.C_drew ?_))); (case side2 => exact HC0.out); rintro e w17 ⟨v166, rfl, ho0, hb⟩; refine ⟨_, rfl, ?_⟩; have n0_ := Aside0.mk (Kd.R_lower ho0 (below_size (by repeat (first | (with_reducible first | exact HB.out | apply below_alloc | apply pw_below_drewN | apply below_drew1) | exact HB.out)))); have n1_ := Aside0.mk (below_step (by repeat (first | (with_reducible first | exact HB.out | apply below_alloc | apply pw_below_drewN | apply below_drew1) | exact HB.out)) hb); clear HB; have HO167 := n0_; have HB := n1_; clear n0_ n1_; (try clear hb); (try clear hb2); (try clear hk); (try clear hi); (try clear ho0)))
          go_loopg [9] kj2 (fun kq v9 w' => ∃ (x9_2 : Int), v9 = .int .i64 x9_2 ∧ Aside0 (fascinelaw17_MergeMerges.l0 kq l0 a1 t163 t164 t165 x9_2 = some r) ∧ Aside0 (kq ≤ kj2) ∧ Aside0 (Kd.R k31 31 w' w.heap.size (fun _ => True) v166 t163) ∧ Aside0 (Below w.heap.size w w'))
          case atStart => exact ⟨(0), (by first | rfl | (simp; done) | (simp [*]; done)), H', ⟨Nat.le_refl _⟩, ⟨by (with_reducible repeat (first | apply Kd.R_alloc | apply Kd.R_drewN | apply Kd.R_drew)); exact HO167.out⟩, ⟨by repeat (first | (with_reducible first | exact HB.out | apply below_alloc | apply pw_below_drewN | apply below_drew1) | exact HB.out)⟩⟩
          case round =>
            clear H'
            try clear c1
            try clear p2
            try clear c3
            try clear c5
            try clear c7
            try clear c8
            try clear c12
            try clear c12b0
            try clear c13
            try clear c13b0
            try clear c13b1
            try clear c14
            try clear c14b0
            try clear c14b1
            try clear c14b2
            try clear p2
            obtain ⟨x9_2, rfl, HA, HK2, HO_5, HB⟩ := hrel
            cases gk with
            | zero => exact absurd HA.out (by simp [fascinelaw17_MergeMerges.l0])
            | succ k2 =>
              have H := HA.out
              clear HA
              simp only [fascinelaw17_MergeMerges.l0] at H
              by_cases c18 : x9_2 < (l0.length : Int)
              · rw [if_pos c18] at H
                have c18b0 : decide (x9_2 < (l0.length : Int)) = true := decide_eq_true c18
                clear c18
                by_cases c19 : 0 ≤ x9_2
                · rw [if_pos c19] at H
                  have c19b0 : decide (0 ≤ x9_2) = true := decide_eq_true c19
                  clear c19
                  by_cases c20 : ((rd_L3 l0 x9_2).length : Int) > 100
                  · rw [if_pos c20] at H
                    have c20b0 : decide (100 < ((rd_L3 l0 x9_2).length : Int)) = true := decide_eq_true c20
                    have c20b1 : decide (100 < (rd_L3 l0 x9_2).length) = true := decide_eq_true (by omega)
                    clear c20
                    obtain rfl := Option.some.inj H
                    have p168 : 0 ≤ (x9_2 : Int) := of_decide_eq_true (by first | (with_reducible assumption) | assumption)
                    have q168 : x9_2 < (l0.length : Int) := of_decide_eq_true (by first | (with_reducible assumption) | assumption)
                    obtain ⟨ad168, A168_0, c168_0, e168, hx168_0, hl168_0, hi168_0⟩ := at_L3 HR0.out x9_2 p168 q168
                    cases e168
                    replace hx168_0 := (HB.out.cell (World.block_lt_of_cell? w _ hx168_0)).trans hx168_0
                    have HR168_0 := Aside0.mk hi168_0
                    have HC168_0 := Aside0.mk hl168_0
                    clear hi168_0 hl168_0
                    replace p168 := eq_true p168
                    replace q168 := eq_true q168
                    go_wp2
                    go_ret
                    exact ⟨by first | rfl | (simp [errW_none, errW_some] <;> rfl) | (simp [*, errW_none, errW_some] <;> rfl), by repeat (first | (with_reducible first | exact HB.out | apply below_alloc | apply pw_below_drewN | apply below_drew1) | exact HB.out)⟩
                  · rw [if_neg c20] at H
                    have c20b0 : decide (100 < ((rd_L3 l0 x9_2).length : Int)) = false := decide_eq_false c20
                    have c20b1 : decide (100 < (rd_L3 l0 x9_2).length) = false := decide_eq_false (by omega)
                    clear c20
                    replace H := Option.bind_eq_some_iff.mp H
                    obtain ⟨t170, A210, H⟩ := H
                    replace H : (if t170 = true then (fascinelaw17_MergeMerges.l0 k2 l0 a1 t163 t164 t165 (wrap64 (x9_2 + 1))) else (if t165 = 3 then (if (t163.length : Int) = 0 then (some (!t164)) else (some false)) else (some false))) = some r := H
                    have A21 := Aside0.mk A210
                    clear A210
                    by_cases c22 : t170 = true
                    · subst c22
                      have H1 : (fascinelaw17_MergeMerges.l0 k2 l0 a1 t163 t164 t165 (wrap64 (x9_2 + 1))) = some r := by rw [if_pos rfl] at H; exact H
                      clear H
                      have H := H1
                      clear H1
                      have H' := Aside0.mk H
                      clear H
                      have p168 : 0 ≤ (x9_2 : Int) := of_decide_eq_true (by first | (with_reducible assumption) | assumption)
                      have q168 : x9_2 < (l0.length : Int) := of_decide_eq_true (by first | (with_reducible assumption) | assumption)
                      obtain ⟨ad168, A168_0, c168_0, e168, hx168_0, hl168_0, hi168_0⟩ := at_L3 HR0.out x9_2 p168 q168
                      cases e168
                      replace hx168_0 := (HB.out.cell (World.block_lt_of_cell? w _ hx168_0)).trans hx168_0
                      have HR168_0 := Aside0.mk hi168_0
                      have HC168_0 := Aside0.mk hl168_0
                      clear hi168_0 hl168_0
                      replace p168 := eq_true p168
                      replace q168 := eq_true q168
                      have p169 : 0 ≤ (x9_2 : Int) := of_decide_eq_true (by first | (with_reducible assumption) | assumption)
                      have q169 : x9_2 < (l0.length : Int) := of_decide_eq_true (by first | (with_reducible assumption) | assumption)
                      obtain ⟨ad169, A169_0, c169_0, e169, hx169_0, hl169_0, hi169_0⟩ := at_L3 HR0.out x9_2 p169 q169
                      obtain rfl : ad168 = ad169 := (by injection e169)
                      replace hx169_0 := (HB.out.cell (World.block_lt_of_cell? w _ hx169_0)).trans hx169_0
                      have HR169_0 := Aside0.mk hi169_0
                      have HC169_0 := Aside0.mk hl169_0
                      clear hi169_0 hl169_0
                      replace p169 := eq_true p169
                      replace q169 := eq_true q169
                      have ea_ := Option.some.inj (hx168_0.symm.trans hx169_0)
                      injection ea_ with ea_ en_ ec_
                      subst ea_
                      subst ec_
                      clear en_
                      go_wp2_with (first | ((with_reducible refine gate_callee (f := 9) rfl ?_); refine goesL_ (some 57) rfl rfl Try.func9 (by kernel_rfl) rfl #[.slice A168_0 (rd_L3 l0 x9_2).length c168_0] rfl (by (try simp only [List.map_toArray, List.map_cons, List.map_nil]); first | done | rfl | (simp only [List.length_drop, List.length_take]; rfl)) ?_; (with_reducible refine (fascinelaw17_rises.calls k2 _ _ (rd_L3 l0 x9_2) true _ ?side1 ?side2 A21.out).mono ?_); (case side1 => repeat (first | exact (Kd.C_below HR169_0.out HB.out) | (with_reducible refine Kd.C_alloc ?_ _) | (with_reducible refine Kd.C_drewN ?_ _) | (with_reducible refine Kd.C_drew ?_))); (case side2 => exact HC169_0.out); rintro e w23 ⟨rfl, hb⟩; refine ⟨_, rfl, ?_⟩; have n0_ := Aside0.mk (Kd.R_below (by (with_reducible repeat (first | apply Kd.R_alloc | apply Kd.R_drewN | apply Kd.R_drew)); exact HO_5.out) hb); have n1_ := Aside0.mk (below_step (by repeat (first | (with_reducible first | exact HB.out | apply below_alloc | apply pw_below_drewN | apply below_drew1) | exact HB.out)) hb); clear HO_5; clear HB; have HO_5 := n0_; have HB := n1_; clear n0_ n1_; (try clear hb); (try clear hb2); (try clear hk); (try clear hi)))
                      go_roundg k2
                      case measure => have := HJ2.out; have := HK2.out; omega
                      case rel => exact ⟨(wrap64 (x9_2 + 1)), (by first | rfl | (simp; done) | (simp [*]; done)), H', ⟨by have := HJ2.out; have := HK2.out; omega⟩, ⟨by (with_reducible repeat (first | apply Kd.R_alloc | apply Kd.R_drewN | apply Kd.R_drew)); exact HO_5.out⟩, ⟨by repeat (first | (with_reducible first | exact HB.out | apply below_alloc | apply pw_below_drewN | apply below_drew1) | exact HB.out)⟩⟩
                    · replace c22 := Bool.eq_false_iff.mpr c22
                      subst c22
                      have H1 : (if t165 = 3 then (if (t163.length : Int) = 0 then (some (!t164)) else (some false)) else (some false)) = some r := by rw [if_neg (show ¬ (false = true) by decide)] at H; exact H
                      clear H
                      have H := H1
                      clear H1
                      by_cases c24 : t165 = 3
                      · rw [if_pos c24] at H
                        have c24b0 : (t165 == 3) = true := beq_iff_eq.mpr c24
                        have c24b1 : (t165 != 3) = false := bne_eq_false_iff_eq.mpr c24
                        clear c24
                        by_cases c25 : (t163.length : Int) = 0
                        · rw [if_pos c25] at H
                          have c25b0 : ((t163.length : Int) == 0) = true := beq_iff_eq.mpr c25
                          have c25b1 : ((t163.length : Int) != 0) = false := bne_eq_false_iff_eq.mpr c25
                          clear c25
                          obtain rfl := Option.some.inj H
                          have p168 : 0 ≤ (x9_2 : Int) := of_decide_eq_true (by first | (with_reducible assumption) | assumption)
                          have q168 : x9_2 < (l0.length : Int) := of_decide_eq_true (by first | (with_reducible assumption) | assumption)
                          obtain ⟨ad168, A168_0, c168_0, e168, hx168_0, hl168_0, hi168_0⟩ := at_L3 HR0.out x9_2 p168 q168
                          cases e168
                          replace hx168_0 := (HB.out.cell (World.block_lt_of_cell? w _ hx168_0)).trans hx168_0
                          have HR168_0 := Aside0.mk hi168_0
                          have HC168_0 := Aside0.mk hl168_0
                          clear hi168_0 hl168_0
                          replace p168 := eq_true p168
                          replace q168 := eq_true q168
                          have p169 : 0 ≤ (x9_2 : Int) := of_decide_eq_true (by first | (with_reducible assumption) | assumption)
                          have q169 : x9_2 < (l0.length : Int) := of_decide_eq_true (by first | (with_reducible assumption) | assumption)
                          obtain ⟨ad169, A169_0, c169_0, e169, hx169_0, hl169_0, hi169_0⟩ := at_L3 HR0.out x9_2 p169 q169
                          obtain rfl : ad168 = ad169 := (by injection e169)
                          replace hx169_0 := (HB.out.cell (World.block_lt_of_cell? w _ hx169_0)).trans hx169_0
                          have HR169_0 := Aside0.mk hi169_0
                          have HC169_0 := Aside0.mk hl169_0
                          clear hi169_0 hl169_0
                          replace p169 := eq_true p169
                          replace q169 := eq_true q169
                          have ea_ := Option.some.inj (hx168_0.symm.trans hx169_0)
                          injection ea_ with ea_ en_ ec_
                          subst ea_
                          subst ec_
                          clear en_
                          go_wp2_with (first | ((with_reducible refine gate_callee (f := 9) rfl ?_); refine goesL_ (some 57) rfl rfl Try.func9 (by kernel_rfl) rfl #[.slice A168_0 (rd_L3 l0 x9_2).length c168_0] rfl (by (try simp only [List.map_toArray, List.map_cons, List.map_nil]); first | done | rfl | (simp only [List.length_drop, List.length_take]; rfl)) ?_; (with_reducible refine (fascinelaw17_rises.calls k2 _ _ (rd_L3 l0 x9_2) false _ ?side1 ?side2 A21.out).mono ?_); (case side1 => repeat (first | exact (Kd.C_below HR169_0.out HB.out) | (with_reducible refine Kd.C_alloc ?_ _) | (with_reducible refine Kd.C_drewN ?_ _) | (with_reducible refine Kd.C_drew ?_))); (case side2 => exact HC169_0.out); rintro e w26 ⟨rfl, hb⟩; refine ⟨_, rfl, ?_⟩; have n0_ := Aside0.mk (Kd.R_below (by (with_reducible repeat (first | apply Kd.R_alloc | apply Kd.R_drewN | apply Kd.R_drew)); exact HO_5.out) hb); have n1_ := Aside0.mk (below_step (by repeat (first | (with_reducible first | exact HB.out | apply below_alloc | apply pw_below_drewN | apply below_drew1) | exact HB.out)) hb); clear HO_5; clear HB; have HO_5 := n0_; have HB := n1_; clear n0_ n1_; (try clear hb); (try clear hb2); (try clear hk); (try clear hi); obtain ⟨Ao27, co27, eo27⟩ := Kd.R_slice HO_5.out; subst eo27))
                          go_ret
                          exact ⟨by first | rfl | (simp [errW_none, errW_some] <;> rfl) | (simp [*, errW_none, errW_some] <;> rfl), by repeat (first | (with_reducible first | exact HB.out | apply below_alloc | apply pw_below_drewN | apply below_drew1) | exact HB.out)⟩
                        · rw [if_neg c25] at H
                          have c25b0 : ((t163.length : Int) == 0) = false := beq_eq_false_iff_ne.mpr c25
                          have c25b1 : ((t163.length : Int) != 0) = true := bne_iff_ne.mpr c25
                          have c25b2 : ¬ (t163 = []) := fun h_ => c25 (by rw [h_]; rfl)
                          exact absurd (HR_.out.symm.trans (Option.some.inj H).symm) (by decide)
                      · rw [if_neg c24] at H
                        have c24b0 : (t165 == 3) = false := beq_eq_false_iff_ne.mpr c24
                        have c24b1 : (t165 != 3) = true := bne_iff_ne.mpr c24
                        exact absurd (HR_.out.symm.trans (Option.some.inj H).symm) (by decide)
                · rw [if_neg c19] at H
                  exact absurd H (by simp)
              · rw [if_neg c18] at H
                have c18b0 : decide (x9_2 < (l0.length : Int)) = false := decide_eq_false c18
                clear c18
                have H' := Aside0.mk H
                clear H
                go_wp2
                go_loopg [8, 10] k2 (fun kq v8 v10 w' => ∃ (x8_3 : List (S31)) (x10_3 : Int), v10 = .int .i64 x10_3 ∧ Aside0 (fascinelaw17_MergeMerges.l1 kq l0 a1 t163 t164 t165 x8_3 x10_3 = some r) ∧ Aside0 (kq ≤ k2) ∧ Aside0 (Kd.R k31 31 w' w.heap.size (fun k_ => some k_ ≠ (v8 : Value).ownBlock) v166 t163) ∧ Aside0 (Kd.R k31 31 w' w.heap.size (fun k_ => some k_ ≠ (v166 : Value).ownBlock) v8 x8_3) ∧ Aside0 (Below w.heap.size w w'))
                case atStart => exact ⟨(([] : List (S31))), (0), (by first | rfl | (simp; done) | (simp [*]; done)), H', ⟨Nat.le_refl _⟩, ⟨by (with_reducible repeat (first | apply Kd.R_alloc | apply Kd.R_drewN | apply Kd.R_drew)); exact Kd.R_mono HO_5.out (fun _ hk => (by simp [Value.ownBlock]))⟩, ⟨by first | exact Kd.R_nil _ _ _ _ _ | exact Kd.N_nil _ _ _ _ _ | exact Kd.V_nil _ _ _ _ _ | exact Kd.Q_nil _ _ _ _ _ | exact Kd.S_nil _ _ _ _ _⟩, ⟨by repeat (first | (with_reducible first | exact HB.out | apply below_alloc | apply pw_below_drewN | apply below_drew1) | exact HB.out)⟩⟩
                case round =>
                  clear H'
                  try clear c1
                  try clear p1
                  try clear q1
                  try clear hx1
                  try clear c2
                  try clear p2
                  try clear c3
                  try clear c5
                  try clear p6
                  try clear c7
                  try clear c8
                  try clear c9
                  try clear c12
                  try clear c12b0
                  try clear c13
                  try clear c13b0
                  try clear c13b1
                  try clear c14
                  try clear c14b0
                  try clear c14b1
                  try clear c14b2
                  try clear c16
                  try clear p16
                  try clear q16
                  try clear hx16
                  try clear c18
                  try clear c18b0
                  try clear c19
                  try clear c19b0
                  try clear c20
                  try clear c20b0
                  try clear c20b1
                  try clear c22
                  try clear c24
                  try clear c24b0
                  try clear c24b1
                  try clear c25
                  try clear c25b0
                  try clear c25b1
                  try clear c25b2
                  try clear hx168_0
                  try clear hx169_0
                  try clear p168
                  try clear p169
                  try clear p2
                  try clear q168
                  try clear q169
                  obtain ⟨x8_3, x10_3, rfl, HA, HK3, HO_5, HO_8, HB⟩ := hrel
                  cases gk with
                  | zero => exact absurd HA.out (by simp [fascinelaw17_MergeMerges.l1])
                  | succ k3 =>
                    have H := HA.out
                    clear HA
                    simp only [fascinelaw17_MergeMerges.l1] at H
                    by_cases c28 : x10_3 < (l0.length : Int)
                    · rw [if_pos c28] at H
                      have c28b0 : decide (x10_3 < (l0.length : Int)) = true := decide_eq_true c28
                      clear c28
                      have H' := Aside0.mk H
                      clear H
                      go_wp2
                      go_loopg [8, 11] k3 (fun kq v8 v11 w' => ∃ (x8_4 : List (S31)) (x11_4 : Int), v11 = .int .i64 x11_4 ∧ Aside0 (fascinelaw17_MergeMerges.l2 kq l0 a1 t163 t164 t165 x8_4 x10_3 x11_4 = some r) ∧ Aside0 (kq ≤ k3) ∧ Aside0 (Kd.R k31 31 w' w.heap.size (fun k_ => some k_ ≠ (v8 : Value).ownBlock) v166 t163) ∧ Aside0 (Kd.R k31 31 w' w.heap.size (fun k_ => some k_ ≠ (v166 : Value).ownBlock) v8 x8_4) ∧ Aside0 (Below w.heap.size w w'))
                      case atStart => exact ⟨(x8_3), (0), (by first | rfl | (simp; done) | (simp [*]; done)), H', ⟨Nat.le_refl _⟩, ⟨by (with_reducible repeat (first | apply Kd.R_alloc | apply Kd.R_drewN | apply Kd.R_drew)); exact HO_5.out⟩, ⟨by (with_reducible repeat (first | apply Kd.R_alloc | apply Kd.R_drewN | apply Kd.R_drew)); exact HO_8.out⟩, ⟨by repeat (first | (with_reducible first | exact HB.out | apply below_alloc | apply pw_below_drewN | apply below_drew1) | exact HB.out)⟩⟩
                      case round =>
                        clear H'
                        try clear c1
                        try clear p1
                        try clear q1
                        try clear hx1
                        try clear c2
                        try clear p2
                        try clear c3
                        try clear c5
                        try clear p6
                        try clear c7
                        try clear c8
                        try clear c9
                        try clear c12
                        try clear c12b0
                        try clear c13
                        try clear c13b0
                        try clear c13b1
                        try clear c14
                        try clear c14b0
                        try clear c14b1
                        try clear c14b2
                        try clear c16
                        try clear p16
                        try clear q16
                        try clear hx16
                        try clear c18
                        try clear c18b0
                        try clear c19
                        try clear c19b0
                        try clear c20
                        try clear c20b0
                        try clear c20b1
                        try clear c22
                        try clear c24
                        try clear c24b0
                        try clear c24b1
                        try clear c25
                        try clear c25b0
                        try clear c25b1
                        try clear c25b2
                        try clear c28
                        try clear c28b0
                        try clear hx168_0
                        try clear hx169_0
                        try clear p1
                        try clear p16
                        try clear p168
                        try clear p169
                        try clear p2
                        try clear p6
                        try clear q1
                        try clear q16
                        try clear q168
                        try clear q169
                        obtain ⟨x8_4, x11_4, rfl, HA, HK4, HO_5, HO_8, HB⟩ := hrel
                        cases gk with
                        | zero => exact absurd HA.out (by simp [fascinelaw17_MergeMerges.l2])
                        | succ k4 =>
                          have H := HA.out
                          clear HA
                          simp only [fascinelaw17_MergeMerges.l2] at H
                          by_cases c29 : 0 ≤ x10_3
                          · rw [if_pos c29] at H
                            have c29b0 : decide (0 ≤ x10_3) = true := decide_eq_true c29
                            clear c29
                            by_cases c30 : x10_3 < (l0.length : Int)
                            · rw [if_pos c30] at H
                              have c30b0 : decide (x10_3 < (l0.length : Int)) = true := decide_eq_true c30
                              clear c30
                              by_cases c31 : x11_4 < ((rd_L3 l0 x10_3).length : Int)
                              · rw [if_pos c31] at H
                                have c31b0 : decide (x11_4 < ((rd_L3 l0 x10_3).length : Int)) = true := decide_eq_true c31
                                clear c31
                                by_cases c32 : 0 ≤ x11_4
                                · rw [if_pos c32] at H
                                  have c32b0 : decide (0 ≤ x11_4) = true := decide_eq_true c32
                                  clear c32
                                  replace H := Option.bind_eq_some_iff.mp H
                                  obtain ⟨t184, A330, H⟩ := H
                                  replace H : (fascinelaw17_MergeMerges.l2 k4 l0 a1 t163 t164 t165 t184 x10_3 (wrap64 (x11_4 + 1))) = some r := H
                                  have A33 := Aside0.mk A330
                                  clear A330
                                  have H' := Aside0.mk H
                                  clear H
                                  have p181 : 0 ≤ (x10_3 : Int) := of_decide_eq_true (by first | (with_reducible assumption) | assumption)
                                  have q181 : x10_3 < (l0.length : Int) := of_decide_eq_true (by first | (with_reducible assumption) | assumption)
                                  obtain ⟨ad181, A181_0, c181_0, e181, hx181_0, hl181_0, hi181_0⟩ := at_L3 HR0.out x10_3 p181 q181
                                  cases e181
                                  replace hx181_0 := (HB.out.cell (World.block_lt_of_cell? w _ hx181_0)).trans hx181_0
                                  have HR181_0 := Aside0.mk hi181_0
                                  have HC181_0 := Aside0.mk hl181_0
                                  clear hi181_0 hl181_0
                                  replace p181 := eq_true p181
                                  replace q181 := eq_true q181
                                  have p182 : 0 ≤ (x10_3 : Int) := of_decide_eq_true (by first | (with_reducible assumption) | assumption)
                                  have q182 : x10_3 < (l0.length : Int) := of_decide_eq_true (by first | (with_reducible assumption) | assumption)
                                  obtain ⟨ad182, A182_0, c182_0, e182, hx182_0, hl182_0, hi182_0⟩ := at_L3 HR0.out x10_3 p182 q182
                                  obtain rfl : ad181 = ad182 := (by injection e182)
                                  replace hx182_0 := (HB.out.cell (World.block_lt_of_cell? w _ hx182_0)).trans hx182_0
                                  have HR182_0 := Aside0.mk hi182_0
                                  have HC182_0 := Aside0.mk hl182_0
                                  clear hi182_0 hl182_0
                                  replace p182 := eq_true p182
                                  replace q182 := eq_true q182
                                  have ea_ := Option.some.inj (hx181_0.symm.trans hx182_0)
                                  injection ea_ with ea_ en_ ec_
                                  subst ea_
                                  subst ec_
                                  clear en_
                                  have p183 : 0 ≤ (x11_4 : Int) := of_decide_eq_true (by first | (with_reducible assumption) | assumption)
                                  have q183 : x11_4 < ((rd_L3 l0 x10_3).length : Int) := of_decide_eq_true (by first | (with_reducible assumption) | assumption)
                                  obtain ⟨ad183, e183, hx183_0, hx183_1, hx183_2⟩ := at_T31 HR182_0.out x11_4 p183 q183
                                  cases e183
                                  replace hx183_0 := (HB.out.cell (World.block_lt_of_cell? w _ hx183_0)).trans hx183_0
                                  replace hx183_1 := (HB.out.cell (World.block_lt_of_cell? w _ hx183_1)).trans hx183_1
                                  replace hx183_2 := (HB.out.cell (World.block_lt_of_cell? w _ hx183_2)).trans hx183_2
                                  replace p183 := eq_true p183
                                  replace q183 := eq_true q183
                                  obtain ⟨Ao34, co34, eo34⟩ := Kd.R_slice HO_8.out
                                  subst eo34
                                  go_wp2_with (first | ((with_reducible refine gate_callee (f := 10) rfl ?_); refine goesL_ (some 93) rfl rfl Try.func10 (by kernel_rfl) rfl #[.slice Ao34 x8_4.length co34, .agg #[.string ((rd_T31 (rd_L3 l0 x10_3) x11_4).f0), .int .i64 ((rd_T31 (rd_L3 l0 x10_3) x11_4).f1), .string ((rd_T31 (rd_L3 l0 x10_3) x11_4).f2)]] rfl (by (try simp only [List.map_toArray, List.map_cons, List.map_nil]); first | done | rfl | (simp only [List.length_drop, List.length_take]; rfl)) ?_; (with_reducible refine (fascineref07_Put.calls k4 _ _ x8_4 ((rd_T31 (rd_L3 l0 x10_3) x11_4).f0) ((rd_T31 (rd_L3 l0 x10_3) x11_4).f1) ((rd_T31 (rd_L3 l0 x10_3) x11_4).f2) t184 _ ?side1 ?side2 A33.out).mono ?_); (case side1 => repeat (first | exact (Kd.R_reads' HO_8.out).2.2 | (with_reducible refine Kd.C_alloc ?_ _) | (with_reducible refine Kd.C_drewN ?_ _) | (with_reducible refine Kd.C_drew ?_))); (case side2 => exact (Kd.R_reads' HO_8.out).2.1); rintro e w35 ⟨v185, rfl, ho0, hb⟩; refine ⟨_, rfl, ?_⟩; have n0_ := Aside0.mk (Kd.R_elder' (by (with_reducible repeat (first | apply Kd.R_alloc | apply Kd.R_drewN | apply Kd.R_drew)); exact HO_5.out) (Kd.R_base ho0) hb); have n1_ := Aside0.mk (Kd.R_elder' (by (with_reducible repeat (first | apply Kd.R_alloc | apply Kd.R_drewN | apply Kd.R_drew)); exact HO_8.out) (Kd.R_base ho0) hb); have n2_ := Aside0.mk (Kd.R_lower (Kd.R_new' (Kd.R_new' ho0 (Kd.R_lt (by (with_reducible repeat (first | apply Kd.R_alloc | apply Kd.R_drewN | apply Kd.R_drew)); exact HO_5.out))) (Kd.R_lt (by (with_reducible repeat (first | apply Kd.R_alloc | apply Kd.R_drewN | apply Kd.R_drew)); exact HO_8.out))) (below_size (by repeat (first | (with_reducible first | exact HB.out | apply below_alloc | apply pw_below_drewN | apply below_drew1) | exact HB.out)))); have n3_ := Aside0.mk (below_step (by repeat (first | (with_reducible first | exact HB.out | apply below_alloc | apply pw_below_drewN | apply below_drew1) | exact HB.out)) hb); clear HO_5; clear HO_8; clear HB; have HO_5 := n0_; have HO_8 := n1_; have HO186 := n2_; have HB := n3_; clear n0_ n1_ n2_ n3_; (try clear hb); (try clear hb2); (try clear hk); (try clear hi); (try clear ho0)))
                                  go_roundg k4
                                  case measure => have := HJ2.out; have := HK2.out; have := HK3.out; have := HK4.out; omega
                                  case rel => exact ⟨(t184), (wrap64 (x11_4 + 1)), (by first | rfl | (simp; done) | (simp [*]; done)), H', ⟨by have := HJ2.out; have := HK2.out; have := HK3.out; have := HK4.out; omega⟩, ⟨by (with_reducible repeat (first | apply Kd.R_alloc | apply Kd.R_drewN | apply Kd.R_drew)); exact Kd.R_mono HO_5.out (fun _ hk => hk.2)⟩, ⟨by (with_reducible repeat (first | apply Kd.R_alloc | apply Kd.R_drewN | apply Kd.R_drew)); exact Kd.R_mono HO186.out (fun _ hk => hk.1.2)⟩, ⟨by repeat (first | (with_reducible first | exact HB.out | apply below_alloc | apply pw_below_drewN | apply below_drew1) | exact HB.out)⟩⟩
                                · rw [if_neg c32] at H
                                  exact absurd H (by simp)
                              · rw [if_neg c31] at H
                                have c31b0 : decide (x11_4 < ((rd_L3 l0 x10_3).length : Int)) = false := decide_eq_false c31
                                clear c31
                                have H' := Aside0.mk H
                                clear H
                                have p181 : 0 ≤ (x10_3 : Int) := of_decide_eq_true (by first | (with_reducible assumption) | assumption)
                                have q181 : x10_3 < (l0.length : Int) := of_decide_eq_true (by first | (with_reducible assumption) | assumption)
                                obtain ⟨ad181, A181_0, c181_0, e181, hx181_0, hl181_0, hi181_0⟩ := at_L3 HR0.out x10_3 p181 q181
                                cases e181
                                replace hx181_0 := (HB.out.cell (World.block_lt_of_cell? w _ hx181_0)).trans hx181_0
                                have HR181_0 := Aside0.mk hi181_0
                                have HC181_0 := Aside0.mk hl181_0
                                clear hi181_0 hl181_0
                                replace p181 := eq_true p181
                                replace q181 := eq_true q181
                                go_wp2
                                go_roundg k4
                                case measure => have := HJ2.out; have := HK2.out; have := HK3.out; have := HK4.out; omega
                                case rel => exact ⟨(x8_4), (wrap64 (x10_3 + 1)), (by first | rfl | (simp; done) | (simp [*]; done)), H', ⟨by have := HJ2.out; have := HK2.out; have := HK3.out; have := HK4.out; omega⟩, ⟨by (with_reducible repeat (first | apply Kd.R_alloc | apply Kd.R_drewN | apply Kd.R_drew)); exact HO_5.out⟩, ⟨by (with_reducible repeat (first | apply Kd.R_alloc | apply Kd.R_drewN | apply Kd.R_drew)); exact HO_8.out⟩, ⟨by repeat (first | (with_reducible first | exact HB.out | apply below_alloc | apply pw_below_drewN | apply below_drew1) | exact HB.out)⟩⟩
                            · rw [if_neg c30] at H
                              exact absurd H (by simp)
                          · rw [if_neg c29] at H
                            exact absurd H (by simp)
                    · rw [if_neg c28] at H
                      have c28b0 : decide (x10_3 < (l0.length : Int)) = false := decide_eq_false c28
                      clear c28
                      by_cases c36 : a1 < (x8_3.length : Int)
                      · rw [if_pos c36] at H
                        have c36b0 : decide (a1 < (x8_3.length : Int)) = true := decide_eq_true c36
                        clear c36
                        by_cases c37 : t165 = 0
                        · rw [if_pos c37] at H
                          have c37b0 : (t165 == 0) = true := beq_iff_eq.mpr c37
                          have c37b1 : (t165 != 0) = false := bne_eq_false_iff_eq.mpr c37
                          clear c37
                          by_cases c38 : 0 ≤ a1
                          · rw [if_pos c38] at H
                            have c38b0 := eq_true c38
                            have c38b1 : decide (0 ≤ a1) = true := decide_eq_true c38
                            clear c38
                            by_cases c39 : a1 ≤ (x8_3.length : Int)
                            · rw [if_pos c39] at H
                              have c39b0 := eq_true c39
                              have c39b1 : decide (a1 ≤ (x8_3.length : Int)) = true := decide_eq_true c39
                              clear c39
                              obtain ⟨y171, hy171⟩ : ∃ y_ : List (S31), y_ = (x8_3.take (a1 : Int).toNat) := ⟨_, rfl⟩
                              replace H : ((fascineref07_Same.f k3 t163 y171).bind fun t175 => (if t175 = true then (some (t164 == (decide ((x8_3.length : Int) > a1)))) else (some false))) = some r := by first | (rw [hy171]; with_reducible exact H) | (have H2_ := (Option.bind_some _ _).symm.trans H; rw [hy171]; with_reducible exact H2_) | (have H2_ := (Option.bind_some _ _).symm.trans H; with_reducible exact H2_) | with_reducible exact H | (rw [hy171]; exact H) | exact H
                              have Ny171 := Aside0.mk hy171
                              clear hy171
                              replace H := Option.bind_eq_some_iff.mp H
                              obtain ⟨t175, A400, H⟩ := H
                              replace H : (if t175 = true then (some (t164 == (decide ((x8_3.length : Int) > a1)))) else (some false)) = some r := H
                              have A40 := Aside0.mk A400
                              clear A400
                              by_cases c41 : t175 = true
                              · subst c41
                                have H1 : (some (t164 == (decide ((x8_3.length : Int) > a1)))) = some r := by rw [if_pos rfl] at H; exact H
                                clear H
                                have H := H1
                                clear H1
                                obtain rfl := Option.some.inj H
                                obtain ⟨Ao42, co42, eo42⟩ := Kd.R_slice HO_8.out
                                subst eo42
                                have q43 : (a1 : Int) ≤ ((x8_3.length : Int) : Int) := of_decide_eq_true (by first | (with_reducible assumption) | assumption)
                                obtain ⟨i043, hi043, _, hsz43, _⟩ := info_parts info31
                                have hroom43 : x8_3.length ≤ co42 := (Kd.R_reads' HO_8.out).2.1
                                have hC43 : Kd.C k31 _ Ao42 x8_3.length x8_3 := (Kd.R_reads' HO_8.out).2.2
                                have hcut43 := cut_to (P := Try.prog) 24 31 .i64 Try.underlying24 hi043 Ao42 x8_3.length co42 a1 (of_decide_eq_true (by first | (with_reducible assumption) | assumption)) q43 hroom43
                                have hr43 := Kd.C_take (m := (a1 : Int).toNat) hC43 (by omega)
                                have hy43 : y171.length = (a1 : Int).toNat := (by rw [Ny171.out, List.length_take]; omega)
                                rw [← Ny171.out] at hr43
                                rw [← hy43] at hcut43
                                have HR174 := Aside0.mk hr43
                                have HC174 := Aside0.mk (show y171.length ≤ co42 from by omega)
                                clear hr43 hC43 hroom43 hi043 hsz43
                                have KY43 := Aside0.mk hy43
                                clear hy43
                                have KL43 := Aside0.mk (show (a1 : Int).toNat ≤ x8_3.length from by omega)
                                replace q43 := eq_true q43
                                obtain ⟨Ao44, co44, eo44⟩ := Kd.R_slice HO_5.out
                                subst eo44
                                go_wp2_with (first | (go_at_call 11; (with_reducible refine (fascineref07_Same.calls k3 _ _ t163 _ _ y171 true _ ?side1 ?side2 ?side3 ?side4 A40.out).mono ?_); (case side1 => repeat (first | exact (Kd.R_reads' HO_5.out).2.2 | (with_reducible refine Kd.C_alloc ?_ _) | (with_reducible refine Kd.C_drewN ?_ _) | (with_reducible refine Kd.C_drew ?_))); (case side2 => exact (Kd.R_reads' HO_5.out).2.1); (case side3 => repeat (first | exact (by repeat (first | (with_reducible exact HR174.out) | (with_reducible refine Kd.C_alloc ?_ _) | (with_reducible refine Kd.C_drewN ?_ _) | (with_reducible refine Kd.C_drew ?_) | exact HR174.out)) | (with_reducible refine Kd.C_alloc ?_ _) | (with_reducible refine Kd.C_drewN ?_ _) | (with_reducible refine Kd.C_drew ?_))); (case side4 => exact HC174.out); rintro e w' ⟨rfl, ⟨nd, rfl⟩⟩))
                                go_ret
                                exact ⟨by first | rfl | (simp [errW_none, errW_some] <;> rfl) | (simp [*, errW_none, errW_some] <;> rfl), by repeat (first | (with_reducible first | exact HB.out | apply below_alloc | apply pw_below_drewN | apply below_drew1) | exact HB.out)⟩
                              · replace c41 := Bool.eq_false_iff.mpr c41
                                subst c41
                                have H1 : (some false) = some r := by rw [if_neg (show ¬ (false = true) by decide)] at H; exact H
                                clear H
                                have H := H1
                                clear H1
                                exact absurd (HR_.out.symm.trans (Option.some.inj H).symm) (by decide)
                            · rw [if_neg c39] at H
                              exact absurd H (by simp)
                          · rw [if_neg c38] at H
                            exact absurd H (by simp)
                        · rw [if_neg c37] at H
                          have c37b0 : (t165 == 0) = false := beq_eq_false_iff_ne.mpr c37
                          have c37b1 : (t165 != 0) = true := bne_iff_ne.mpr c37
                          exact absurd (HR_.out.symm.trans (Option.some.inj H).symm) (by decide)
                      · rw [if_neg c36] at H
                        have c36b0 : decide (a1 < (x8_3.length : Int)) = false := decide_eq_false c36
                        clear c36
                        by_cases c45 : t165 = 0
                        · rw [if_pos c45] at H
                          have c45b0 : (t165 == 0) = true := beq_iff_eq.mpr c45
                          have c45b1 : (t165 != 0) = false := bne_eq_false_iff_eq.mpr c45
                          clear c45
                          by_cases c46 : 0 ≤ (x8_3.length : Int)
                          · rw [if_pos c46] at H
                            have c46b0 := eq_true c46
                            have c46b1 : decide (0 ≤ (x8_3.length : Int)) = true := decide_eq_true c46
                            clear c46
                            by_cases c47 : (x8_3.length : Int) ≤ (x8_3.length : Int)
                            · rw [if_pos c47] at H
                              have c47b0 := eq_true c47
                              have c47b1 : decide ((x8_3.length : Int) ≤ (x8_3.length : Int)) = true := decide_eq_true c47
                              clear c47
                              obtain ⟨y176, hy176⟩ : ∃ y_ : List (S31), y_ = (x8_3.take ((x8_3.length : Int) : Int).toNat) := ⟨_, rfl⟩
                              replace H : ((fascineref07_Same.f k3 t163 y176).bind fun t180 => (if t180 = true then (some (t164 == (decide ((x8_3.length : Int) > a1)))) else (some false))) = some r := by first | (rw [hy176]; with_reducible exact H) | (have H2_ := (Option.bind_some _ _).symm.trans H; rw [hy176]; with_reducible exact H2_) | (have H2_ := (Option.bind_some _ _).symm.trans H; with_reducible exact H2_) | with_reducible exact H | (rw [hy176]; exact H) | exact H
                              have Ny176 := Aside0.mk hy176
                              clear hy176
                              replace H := Option.bind_eq_some_iff.mp H
                              obtain ⟨t180, A480, H⟩ := H
                              replace H : (if t180 = true then (some (t164 == (decide ((x8_3.length : Int) > a1)))) else (some false)) = some r := H
                              have A48 := Aside0.mk A480
                              clear A480
                              by_cases c49 : t180 = true
                              · subst c49
                                have H1 : (some (t164 == (decide ((x8_3.length : Int) > a1)))) = some r := by rw [if_pos rfl] at H; exact H
                                clear H
                                have H := H1
                                clear H1
                                obtain rfl := Option.some.inj H
                                obtain ⟨Ao50, co50, eo50⟩ := Kd.R_slice HO_8.out
                                subst eo50
                                have q51 : ((x8_3.length : Int) : Int) ≤ ((x8_3.length : Int) : Int) := of_decide_eq_true (by first | (with_reducible assumption) | assumption)
                                obtain ⟨i051, hi051, _, hsz51, _⟩ := info_parts info31
                                have hroom51 : x8_3.length ≤ co50 := (Kd.R_reads' HO_8.out).2.1
                                have hC51 : Kd.C k31 _ Ao50 x8_3.length x8_3 := (Kd.R_reads' HO_8.out).2.2
                                have hcut51 := cut_to (P := Try.prog) 24 31 .i64 Try.underlying24 hi051 Ao50 x8_3.length co50 (x8_3.length : Int) (of_decide_eq_true (by first | (with_reducible assumption) | assumption)) q51 hroom51
                                have hr51 := Kd.C_take (m := ((x8_3.length : Int) : Int).toNat) hC51 (by omega)
                                have hy51 : y176.length = ((x8_3.length : Int) : Int).toNat := (by rw [Ny176.out, List.length_take]; omega)
                                rw [← Ny176.out] at hr51
                                rw [← hy51] at hcut51
                                have HR179 := Aside0.mk hr51
                                have HC179 := Aside0.mk (show y176.length ≤ co50 from by omega)
                                clear hr51 hC51 hroom51 hi051 hsz51
                                have KY51 := Aside0.mk hy51
                                clear hy51
                                have KL51 := Aside0.mk (show ((x8_3.length : Int) : Int).toNat ≤ x8_3.length from by omega)
                                replace q51 := eq_true q51
                                obtain ⟨Ao52, co52, eo52⟩ := Kd.R_slice HO_5.out
                                subst eo52
                                go_wp2_with (first | (go_at_call 11; (with_reducible refine (fascineref07_Same.calls k3 _ _ t163 _ _ y176 true _ ?side1 ?side2 ?side3 ?side4 A48.out).mono ?_); (case side1 => repeat (first | exact (Kd.R_reads' HO_5.out).2.2 | (with_reducible refine Kd.C_alloc ?_ _) | (with_reducible refine Kd.C_drewN ?_ _) | (with_reducible refine Kd.C_drew ?_))); (case side2 => exact (Kd.R_reads' HO_5.out).2.1); (case side3 => repeat (first | exact (by repeat (first | (with_reducible exact HR179.out) | (with_reducible refine Kd.C_alloc ?_ _) | (with_reducible refine Kd.C_drewN ?_ _) | (with_reducible refine Kd.C_drew ?_) | exact HR179.out)) | (with_reducible refine Kd.C_alloc ?_ _) | (with_reducible refine Kd.C_drewN ?_ _) | (with_reducible refine Kd.C_drew ?_))); (case side4 => exact HC179.out); rintro e w' ⟨rfl, ⟨nd, rfl⟩⟩))
                                go_ret
                                exact ⟨by first | rfl | (simp [errW_none, errW_some] <;> rfl) | (simp [*, errW_none, errW_some] <;> rfl), by repeat (first | (with_reducible first | exact HB.out | apply below_alloc | apply pw_below_drewN | apply below_drew1) | exact HB.out)⟩
                              · replace c49 := Bool.eq_false_iff.mpr c49
                                subst c49
                                have H1 : (some false) = some r := by rw [if_neg (show ¬ (false = true) by decide)] at H; exact H
                                clear H
                                have H := H1
                                clear H1
                                exact absurd (HR_.out.symm.trans (Option.some.inj H).symm) (by decide)
                            · rw [if_neg c47] at H
                              exact absurd H (by simp)
                          · rw [if_neg c46] at H
                            exact absurd H (by simp)
                        · rw [if_neg c45] at H
                          have c45b0 : (t165 == 0) = false := beq_eq_false_iff_ne.mpr c45
                          have c45b1 : (t165 != 0) = true := bne_iff_ne.mpr c45
                          exact absurd (HR_.out.symm.trans (Option.some.inj H).symm) (by decide)

end Go.Proofs.Ytaediecdpgndjaa.PMergeMerges
