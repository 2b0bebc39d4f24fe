-- WRITTEN BY A PROGRAM OF THIS SESSION (wip/patch_print.py: the kit's printer with rules of this session's own); Lean checks it.
import Derived.Test.YtaediecdpgndjaaPMergeSplitsx0
import Derived.Test.YtaediecdpgndjaaPMergeSplitsx2
namespace Go.Proofs.Ytaediecdpgndjaa.PMergeSplits
open Go.RowKit Go.Proofs.YtaediecdpgndjaaW.PrintWords Go.Proofs.YtaediecdpgndjaaW.PrintLast Go.Proofs.YtaediecdpgndjaaW.PrintMore
attribute [local go_sem] max2_int min2_int max_two min_two max_three min_three max_four min_four   -- for this text's walks alone
set_option linter.unusedVariables false
set_option linter.unusedSimpArgs false

/-! ### fascinelaw17_MergeSplits: function 4 -/
mutual
def fascinelaw17_MergeSplits.j0 : Nat → List (S31) → List Int → Bool → Option (Bool)
  | 0, _, _, _ => none
  | k + 1, x0, x1, x25 => if x25 = true then ((fascinelaw17_awake.f).bind fun t159 => (some t159)) else (fascinelaw17_MergeSplits.l0 k x0 x1 ([] : List (S31)) 0)
def fascinelaw17_MergeSplits.l0 : Nat → List (S31) → List Int → List (S31) → Int → Option (Bool)
  | 0, _, _, _, _ => none
  | k + 1, x0, x1, x5, x6 => if x6 < (x0.length : Int) then (if 0 ≤ x6 then ((fascineref07_Put.f k x5 ((rd_T31 x0 x6).f0) ((rd_T31 x0 x6).f1) ((rd_T31 x0 x6).f2)).bind fun t161 => (fascinelaw17_MergeSplits.l0 k x0 x1 t161 (wrap64 (x6 + 1)))) else (none)) else (fascinelaw17_MergeSplits.l1 k x1 x5 1)
def fascinelaw17_MergeSplits.l1 : Nat → List Int → List (S31) → Int → Option (Bool)
  | 0, _, _, _ => none
  | k + 1, x1, x5, x7 => if x7 < (x5.length : Int) then (if 0 ≤ (wrap64 (x7 - 1)) then (if (wrap64 (x7 - 1)) < (x5.length : Int) then (if 0 ≤ x7 then ((fascineref07_Ahead.f ((rd_T31 x5 (wrap64 (x7 - 1))).f0) ((rd_T31 x5 (wrap64 (x7 - 1))).f1) ((rd_T31 x5 (wrap64 (x7 - 1))).f2) ((rd_T31 x5 x7).f0) ((rd_T31 x5 x7).f1) ((rd_T31 x5 x7).f2)).bind fun t166 => (if t166 = true then (fascinelaw17_MergeSplits.l1 k x1 x5 (wrap64 (x7 + 1))) else (some true))) else (none)) else (none)) else (none)) else (if 5 ≤ 11728124029610 then (fascinelaw17_MergeSplits.l2 k x1 x5 (List.replicate 5 []) 0) else (none))
def fascinelaw17_MergeSplits.l2 : Nat → List Int → List (S31) → List (List (S31)) → Int → Option (Bool)
  | 0, _, _, _, _ => none
  | k + 1, x1, x5, x8, x9 => if x9 < (x5.length : Int) then (if (x1.length : Int) = 0 then (none) else (if 0 ≤ (Int.tmod x9 (x1.length : Int)) then (if (Int.tmod x9 (x1.length : Int)) < (x1.length : Int) then (if 0 ≤ (Int.tmod (wrap64 (rd x1 (Int.tmod x9 (x1.length : Int)))) 5) then (if (Int.tmod (wrap64 (rd x1 (Int.tmod x9 (x1.length : Int)))) 5) < (x8.length : Int) then (if 0 ≤ x9 then (if (rd_L3 x8 (Int.tmod (wrap64 (rd x1 (Int.tmod x9 (x1.length : Int)))) 5)).length < 3518437208883 then (fascinelaw17_MergeSplits.l2 k x1 x5 (x8.set ((Int.tmod (wrap64 (rd x1 (Int.tmod x9 (x1.length : Int)))) 5) : Int).toNat ((rd_L3 x8 (Int.tmod (wrap64 (rd x1 (Int.tmod x9 (x1.length : Int)))) 5)) ++ [(⟨(rd_T31 x5 x9).f0, (rd_T31 x5 x9).f1, (rd_T31 x5 x9).f2⟩ : S31)])) (wrap64 (x9 + 1))) else (none)) else (none)) else (none)) else (none)) else (none)) else (none))) else ((merge_Merge.f x8 (x5.length : Int)).bind fun bt177 => (if bt177.2.2 = 0 then (if bt177.2.1 = true then (some false) else ((fascineref07_Same.f k bt177.1 x5).bind fun t182 => (some t182))) else (some false)))
end
def fascinelaw17_MergeSplits.f (k : Nat) (l0 : List (S31)) (l1 : List Int) : Option (Bool) := (fascinelaw17_awake.f).bind fun t158 => (if t158 = true then (if (l0.length : Int) > 60 then (fascinelaw17_MergeSplits.j0 k l0 l1 true) else (fascinelaw17_MergeSplits.j0 k l0 l1 ((l1.length : Int) == 0))) else (fascinelaw17_MergeSplits.j0 k l0 l1 true))
theorem fascinelaw17_MergeSplits.mono_l : ∀ k, (∀ y0 y1 y2, LeO (fascinelaw17_MergeSplits.j0 k y0 y1 y2) (fascinelaw17_MergeSplits.j0 (k + 1) y0 y1 y2)) ∧ (∀ y0 y1 y2 y3, LeO (fascinelaw17_MergeSplits.l0 k y0 y1 y2 y3) (fascinelaw17_MergeSplits.l0 (k + 1) y0 y1 y2 y3)) ∧ (∀ y0 y1 y2, LeO (fascinelaw17_MergeSplits.l1 k y0 y1 y2) (fascinelaw17_MergeSplits.l1 (k + 1) y0 y1 y2)) ∧ (∀ y0 y1 y2 y3, LeO (fascinelaw17_MergeSplits.l2 k y0 y1 y2 y3) (fascinelaw17_MergeSplits.l2 (k + 1) y0 y1 y2 y3))
  | 0 => ⟨fun _ _ _ r h => by simp [fascinelaw17_MergeSplits.j0] at h, fun _ _ _ _ r h => by simp [fascinelaw17_MergeSplits.l0] at h, fun _ _ _ r h => by simp [fascinelaw17_MergeSplits.l1] at h, fun _ _ _ _ r h => by simp [fascinelaw17_MergeSplits.l2] at h⟩
  | k + 1 => by
    obtain ⟨ih0, ih1, ih2, ih3⟩ := fascinelaw17_MergeSplits.mono_l k
    refine ⟨?_, ?_, ?_, ?_⟩
    · intro y0 y1 y2
      unfold fascinelaw17_MergeSplits.j0
      repeat' first
      | (with_reducible exact ih0 _ _ _)
      | (with_reducible exact ih1 _ _ _ _)
      | (with_reducible exact ih2 _ _ _)
      | (with_reducible exact ih3 _ _ _ _)
      | (with_reducible exact fascineref07_Put.mono _ _ _ _ _)
      | (with_reducible exact fascineref07_Same.mono _ _ _)
      | (with_reducible exact LeO.refl _)
      | (with_reducible exact LeO.none _)
      | (with_reducible refine LeO.ite ?_ ?_)
      | (with_reducible refine LeO.bind ?_ (fun _ => ?_))
      | exact ih0 _ _ _
      | exact ih1 _ _ _ _
      | exact ih2 _ _ _
      | exact ih3 _ _ _ _
      | exact fascineref07_Put.mono _ _ _ _ _
      | exact fascineref07_Same.mono _ _ _
      | exact LeO.none _
      | refine LeO.ite ?_ ?_
      | refine LeO.bind ?_ (fun _ => ?_)
    · intro y0 y1 y2 y3
      unfold fascinelaw17_MergeSplits.l0
      repeat' first
      | (with_reducible exact ih0 _ _ _)
      | (with_reducible exact ih1 _ _ _ _)
      | (with_reducible exact ih2 _ _ _)
      | (with_reducible exact ih3 _ _ _ _)
      | (with_reducible exact fascineref07_Put.mono _ _ _ _ _)
      | (with_reducible exact fascineref07_Same.mono _ _ _)
      | (with_reducible exact LeO.refl _)
      | (with_reducible exact LeO.none _)
      | (with_reducible refine LeO.ite ?_ ?_)
      | (with_reducible refine LeO.bind ?_ (fun _ => ?_))
      | exact ih0 _ _ _
      | exact ih1 _ _ _ _
      | exact ih2 _ _ _
      | exact ih3 _ _ _ _
      | exact fascineref07_Put.mono _ _ _ _ _
      | exact fascineref07_Same.mono _ _ _
      | exact LeO.none _
      | refine LeO.ite ?_ ?_
      | refine LeO.bind ?_ (fun _ => ?_)
    · intro y0 y1 y2
      unfold fascinelaw17_MergeSplits.l1
      repeat' first
      | (with_reducible exact ih0 _ _ _)
      | (with_reducible exact ih1 _ _ _ _)
      | (with_reducible exact ih2 _ _ _)
      | (with_reducible exact ih3 _ _ _ _)
      | (with_reducible exact fascineref07_Put.mono _ _ _ _ _)
      | (with_reducible exact fascineref07_Same.mono _ _ _)
      | (with_reducible exact LeO.refl _)
      | (with_reducible exact LeO.none _)
      | (with_reducible refine LeO.ite ?_ ?_)
      | (with_reducible refine LeO.bind ?_ (fun _ => ?_))
      | exact ih0 _ _ _
      | exact ih1 _ _ _ _
      | exact ih2 _ _ _
      | exact ih3 _ _ _ _
      | exact fascineref07_Put.mono _ _ _ _ _
      | exact fascineref07_Same.mono _ _ _
      | exact LeO.none _
      | refine LeO.ite ?_ ?_
      | refine LeO.bind ?_ (fun _ => ?_)
    · intro y0 y1 y2 y3
      unfold fascinelaw17_MergeSplits.l2
      repeat' first
      | (with_reducible exact ih0 _ _ _)
      | (with_reducible exact ih1 _ _ _ _)
      | (with_reducible exact ih2 _ _ _)
      | (with_reducible exact ih3 _ _ _ _)
      | (with_reducible exact fascineref07_Put.mono _ _ _ _ _)
      | (with_reducible exact fascineref07_Same.mono _ _ _)
      | (with_reducible exact LeO.refl _)
      | (with_reducible exact LeO.none _)
      | (with_reducible refine LeO.ite ?_ ?_)
      | (with_reducible refine LeO.bind ?_ (fun _ => ?_))
      | exact ih0 _ _ _
      | exact ih1 _ _ _ _
      | exact ih2 _ _ _
      | exact ih3 _ _ _ _
      | exact fascineref07_Put.mono _ _ _ _ _
      | exact fascineref07_Same.mono _ _ _
      | exact LeO.none _
      | refine LeO.ite ?_ ?_
      | refine LeO.bind ?_ (fun _ => ?_)
theorem fascinelaw17_MergeSplits.mono : ∀ a0 a1 k, LeO (fascinelaw17_MergeSplits.f k a0 a1) (fascinelaw17_MergeSplits.f (k + 1) a0 a1) := by
  intro a0 a1 k
  obtain ⟨ih0, ih1, ih2, ih3⟩ := fascinelaw17_MergeSplits.mono_l k
  unfold fascinelaw17_MergeSplits.f
  repeat' first
      | (with_reducible exact ih0 _ _ _)
      | (with_reducible exact ih1 _ _ _ _)
      | (with_reducible exact ih2 _ _ _)
      | (with_reducible exact ih3 _ _ _ _)
      | (with_reducible exact fascineref07_Put.mono _ _ _ _ _)
      | (with_reducible exact fascineref07_Same.mono _ _ _)
      | (with_reducible exact LeO.refl _)
      | (with_reducible exact LeO.none _)
      | (with_reducible refine LeO.ite ?_ ?_)
      | (with_reducible refine LeO.bind ?_ (fun _ => ?_))
      | exact ih0 _ _ _
      | exact ih1 _ _ _ _
      | exact ih2 _ _ _
      | exact ih3 _ _ _ _
      | exact fascineref07_Put.mono _ _ _ _ _
      | exact fascineref07_Same.mono _ _ _
      | exact LeO.none _
      | refine LeO.ite ?_ ?_
      | refine LeO.bind ?_ (fun _ => ?_)
def fascinelaw17_MergeSplits.T11 : Bool × List (List Nat × List Nat) := (true, [([], []), ([], []), ([1], [1]), ([0, 2], [0, 2]), ([3], [3]), ([], []), ([], []), ([5, 6], [5, 6]), ([7], [7]), ([4, 8], [4, 8]), ([9], [9])])
def fascinelaw17_MergeSplits.B11 : List Nat := [0, 0, 2, 7, 15, 0, 0, 96, 224, 511, 1023]
theorem fascinelaw17_MergeSplits.tab11 : rtab .any (opsOf Try.f4 11) = fascinelaw17_MergeSplits.T11 := by kernel_rfl
theorem fascinelaw17_MergeSplits.bits11 : waitsOk fascinelaw17_MergeSplits.T11.2 fascinelaw17_MergeSplits.B11 = true := by kernel_rfl
def fascinelaw17_MergeSplits.T18 : Bool × List (List Nat × List Nat) := (true, [([], []), ([], []), ([], []), ([], []), ([2, 3], [2, 3]), ([4], [4]), ([], []), ([], []), ([6, 7], [6, 7]), ([8], [8]), ([9], [9]), ([5, 10], [5, 10]), ([0, 1, 0, 1, 2, 3, 4, 5, 6, 7, 8, 9, 10, 11], [0, 1]), ([12, 11, 11, 0, 1, 2, 3, 4, 5, 6, 7, 8, 9, 10, 11], [11, 12])])
def fascinelaw17_MergeSplits.B18 : List Nat := [0, 0, 0, 0, 12, 28, 0, 0, 192, 448, 960, 2044, 4095, 8191]
theorem fascinelaw17_MergeSplits.tab18 : rtab .any (opsOf Try.f4 18) = fascinelaw17_MergeSplits.T18 := by kernel_rfl
theorem fascinelaw17_MergeSplits.bits18 : waitsOk fascinelaw17_MergeSplits.T18.2 fascinelaw17_MergeSplits.B18 = true := by kernel_rfl
set_option maxHeartbeats 8000000 in
set_option maxRecDepth 100000 in
theorem fascinelaw17_MergeSplits.calls (k : Nat) (A0 : Option Addr) (c0 : Nat) (l0 : List (S31)) (A1 : Option Addr) (c1 : Nat) (l1 : List Int) (r : Bool) (w : World) (hr0 : Kd.C k31 w A0 l0.length l0) (hc0 : l0.length ≤ c0) (hr1 : Kd.C (Kd.int .u8) w A1 l1.length l1) (hc1 : l1.length ≤ c1) (h : fascinelaw17_MergeSplits.f k l0 l1 = some r) (hr_ : r = true) :
    Calls Try.prog 4 #[.slice A0 l0.length c0, .slice A1 l1.length c1] w fun e w' => e = .returned (.bool r) ∧ Below w.heap.size w w' := by
  have HR_ := Aside0.mk hr_
  clear hr_
  have hu31 := Try.underlying31
  have HR0 := Aside0.mk hr0
  have HC0 := Aside0.mk hc0
  clear hr0 hc0
  have HR1 := Aside0.mk hr1
  have HC1 := Aside0.mk hc1
  clear hr1 hc1
  have HB := Aside0.mk (Below.refl w.heap.size w)
  have H : ((fascinelaw17_awake.f).bind fun t158 => (if t158 = true then (if (l0.length : Int) > 60 then (fascinelaw17_MergeSplits.j0 k l0 l1 true) else (fascinelaw17_MergeSplits.j0 k l0 l1 ((l1.length : Int) == 0))) else (fascinelaw17_MergeSplits.j0 k l0 l1 true))) = some r := h
  clear h
  have HC3 := Aside0.mk H
  clear H
  go_enter Try.func4, Try.ntmps4
  go_upto_region 1 with (fail)
  go_cut [25] (fun v25 wc => ∃ (kq : Nat) (x25_2 : Bool), v25 = .bool x25_2 ∧ Aside0 (fascinelaw17_MergeSplits.j0 kq l0 l1 x25_2 = some r) ∧ Aside0 (kq ≤ k) ∧ Aside0 (Below w.heap.size w wc))
  case first =>
    have H := HC3.out
    clear HC3
    replace H := Option.bind_eq_some_iff.mp H
    obtain ⟨t158, A40, H⟩ := H
    replace H : (if t158 = true then (if (l0.length : Int) > 60 then (fascinelaw17_MergeSplits.j0 k l0 l1 true) else (fascinelaw17_MergeSplits.j0 k l0 l1 ((l1.length : Int) == 0))) else (fascinelaw17_MergeSplits.j0 k l0 l1 true)) = some r := H
    have A4 := Aside0.mk A40
    clear A40
    by_cases c5 : t158 = true
    · subst c5
      have H1 : (if (l0.length : Int) > 60 then (fascinelaw17_MergeSplits.j0 k l0 l1 true) else (fascinelaw17_MergeSplits.j0 k l0 l1 ((l1.length : Int) == 0))) = some r := by rw [if_pos rfl] at H; exact H
      clear H
      have H := H1
      clear H1
      by_cases c6 : (l0.length : Int) > 60
      · rw [if_pos c6] at H
        have c6b0 : decide (60 < (l0.length : Int)) = true := decide_eq_true c6
        have c6b1 : decide (60 < l0.length) = true := decide_eq_true (by omega)
        clear c6
        (first | rw [c6b0] | (simp only [i64_w, i32_w]; rw [c6b0]) | skip)
        have H' := Aside0.mk H
        clear H
        go_wp2_with (first | ((with_reducible refine gate_callee (f := 7) rfl ?_); refine goesL_ (some 14) rfl rfl Try.func7 (by kernel_rfl) rfl #[] rfl (by (try simp only [List.map_toArray, List.map_cons, List.map_nil]); first | done | rfl | (simp only [List.length_drop, List.length_take]; rfl)) ?_; (with_reducible refine (fascinelaw17_awake.calls  true _ A4.out).mono ?_); rintro e w7 ⟨rfl, hb⟩; refine ⟨_, rfl, ?_⟩; have n0_ := Aside0.mk (below_step (by repeat (first | (with_reducible first | exact HB.out | apply below_alloc | apply pw_below_drewN | apply below_drew1) | exact HB.out)) hb); clear HB; have HB := n0_; clear n0_; (try clear hb); (try clear hb2); (try clear hk); (try clear hi)))
        go_meet
        case rel => exact ⟨_, (true), (by first | rfl | (simp; done) | (simp [*]; done)), H', ⟨by first | omega | exact Nat.le_refl _⟩, ⟨by repeat (first | (with_reducible first | exact HB.out | apply below_alloc | apply pw_below_drewN | apply below_drew1) | exact HB.out)⟩⟩
      · rw [if_neg c6] at H
        have c6b0 : decide (60 < (l0.length : Int)) = false := decide_eq_false c6
        have c6b1 : decide (60 < l0.length) = false := decide_eq_false (by omega)
        clear c6
        (first | rw [c6b0] | (simp only [i64_w, i32_w]; rw [c6b0]) | skip)
        have H' := Aside0.mk H
        clear H
        go_wp2_with (first | ((with_reducible refine gate_callee (f := 7) rfl ?_); refine goesL_ (some 14) rfl rfl Try.func7 (by kernel_rfl) rfl #[] rfl (by (try simp only [List.map_toArray, List.map_cons, List.map_nil]); first | done | rfl | (simp only [List.length_drop, List.length_take]; rfl)) ?_; (with_reducible refine (fascinelaw17_awake.calls  true _ A4.out).mono ?_); rintro e w8 ⟨rfl, hb⟩; refine ⟨_, rfl, ?_⟩; have n0_ := Aside0.mk (below_step (by repeat (first | (with_reducible first | exact HB.out | apply below_alloc | apply pw_below_drewN | apply below_drew1) | exact HB.out)) hb); clear HB; have HB := n0_; clear n0_; (try clear hb); (try clear hb2); (try clear hk); (try clear hi)))
        go_meet
        case rel => exact ⟨_, (((l1.length : Int) == 0)), (by first | rfl | (simp; done) | (simp [*]; done)), H', ⟨by first | omega | exact Nat.le_refl _⟩, ⟨by repeat (first | (with_reducible first | exact HB.out | apply below_alloc | apply pw_below_drewN | apply below_drew1) | exact HB.out)⟩⟩
    · replace c5 := Bool.eq_false_iff.mpr c5
      subst c5
      have H1 : (fascinelaw17_MergeSplits.j0 k l0 l1 true) = some r := by rw [if_neg (show ¬ (false = true) by decide)] at H; exact H
      clear H
      have H := H1
      clear H1
      have H' := Aside0.mk H
      clear H
      go_wp2_with (first | ((with_reducible refine gate_callee (f := 7) rfl ?_); refine goesL_ (some 14) rfl rfl Try.func7 (by kernel_rfl) rfl #[] rfl (by (try simp only [List.map_toArray, List.map_cons, List.map_nil]); first | done | rfl | (simp only [List.length_drop, List.length_take]; rfl)) ?_; (with_reducible refine (fascinelaw17_awake.calls  false _ A4.out).mono ?_); rintro e w9 ⟨rfl, hb⟩; refine ⟨_, rfl, ?_⟩; have n0_ := Aside0.mk (below_step (by repeat (first | (with_reducible first | exact HB.out | apply below_alloc | apply pw_below_drewN | apply below_drew1) | exact HB.out)) hb); clear HB; have HB := n0_; clear n0_; (try clear hb); (try clear hb2); (try clear hk); (try clear hi)))
      go_meet
      case rel => exact ⟨_, (true), (by first | rfl | (simp; done) | (simp [*]; done)), H', ⟨by first | omega | exact Nat.le_refl _⟩, ⟨by repeat (first | (with_reducible first | exact HB.out | apply below_alloc | apply pw_below_drewN | apply below_drew1) | exact HB.out)⟩⟩
  case rest =>
    clear HC3
    try clear c1
    try clear p2
    try clear c4
    try clear c5
    try clear c6
    try clear c6b0
    try clear c6b1
    try clear c7
    obtain ⟨kq, x25_2, rfl, HA, HJ2, HB⟩ := hcut
    cases kq with
    | zero => exact absurd HA.out (by simp [fascinelaw17_MergeSplits.j0])
    | succ kj2 =>
      have H := HA.out
      clear HA
      simp only [fascinelaw17_MergeSplits.j0] at H
      by_cases c10 : x25_2 = true
      · subst c10
        have H1 : ((fascinelaw17_awake.f).bind fun t159 => (some t159)) = some r := by rw [if_pos rfl] at H; exact H
        clear H
        have H := H1
        clear H1
        replace H := Option.bind_eq_some_iff.mp H
        obtain ⟨t159, A110, H⟩ := H
        replace H : (some t159) = some r := H
        have A11 := Aside0.mk A110
        clear A110
        obtain rfl := Option.some.inj H
        go_wp2_with (first | ((with_reducible refine gate_callee (f := 7) rfl ?_); refine goesL_ (some 26) rfl rfl Try.func7 (by kernel_rfl) rfl #[] rfl (by (try simp only [List.map_toArray, List.map_cons, List.map_nil]); first | done | rfl | (simp only [List.length_drop, List.length_take]; rfl)) ?_; (with_reducible refine (fascinelaw17_awake.calls  t159 _ A11.out).mono ?_); rintro e w12 ⟨rfl, hb⟩; refine ⟨_, rfl, ?_⟩; have n0_ := Aside0.mk (below_step (by repeat (first | (with_reducible first | exact HB.out | apply below_alloc | apply pw_below_drewN | apply below_drew1) | exact HB.out)) hb); clear HB; have HB := n0_; clear n0_; (try clear hb); (try clear hb2); (try clear hk); (try clear hi)))
        go_ret
        exact ⟨by first | rfl | (simp [errW_none, errW_some] <;> rfl) | (simp [*, errW_none, errW_some] <;> rfl), by repeat (first | (with_reducible first | exact HB.out | apply below_alloc | apply pw_below_drewN | apply below_drew1) | exact HB.out)⟩
      · replace c10 := Bool.eq_false_iff.mpr c10
        subst c10
        have H1 : (fascinelaw17_MergeSplits.l0 kj2 l0 l1 ([] : List (S31)) 0) = some r := by rw [if_neg (show ¬ (false = true) by decide)] at H; exact H
        clear H
        have H := H1
        clear H1
        have H' := Aside0.mk H
        clear H
        go_wp2
        go_loopg [5, 6] kj2 (fun kq v5 v6 w' => ∃ (x5_2 : List (S31)) (x6_2 : Int), v6 = .int .i64 x6_2 ∧ Aside0 (fascinelaw17_MergeSplits.l0 kq l0 l1 x5_2 x6_2 = some r) ∧ Aside0 (kq ≤ kj2) ∧ Aside0 (Kd.R k31 31 w' w.heap.size (fun _ => True) v5 x5_2) ∧ Aside0 (Below w.heap.size w w'))
        case atStart => exact ⟨(([] : List (S31))), (0), (by first | rfl | (simp; done) | (simp [*]; done)), H', ⟨Nat.le_refl _⟩, ⟨by first | exact Kd.R_nil _ _ _ _ _ | exact Kd.N_nil _ _ _ _ _ | exact Kd.V_nil _ _ _ _ _ | exact Kd.Q_nil _ _ _ _ _ | exact Kd.S_nil _ _ _ _ _⟩, ⟨by repeat (first | (with_reducible first | exact HB.out | apply below_alloc | apply pw_below_drewN | apply below_drew1) | exact HB.out)⟩⟩
        case round =>
          clear H'
          try clear c1
          try clear p2
          try clear c4
          try clear c5
          try clear c6
          try clear c6b0
          try clear c6b1
          try clear c7
          try clear c10
          try clear p2
          obtain ⟨x5_2, x6_2, rfl, HA, HK2, HO_5, HB⟩ := hrel
          cases gk with
          | zero => exact absurd HA.out (by simp [fascinelaw17_MergeSplits.l0])
          | succ k2 =>
            have H := HA.out
            clear HA
            simp only [fascinelaw17_MergeSplits.l0] at H
            by_cases c13 : x6_2 < (l0.length : Int)
            · rw [if_pos c13] at H
              have c13b0 : decide (x6_2 < (l0.length : Int)) = true := decide_eq_true c13
              clear c13
              by_cases c14 : 0 ≤ x6_2
              · rw [if_pos c14] at H
                have c14b0 : decide (0 ≤ x6_2) = true := decide_eq_true c14
                clear c14
                replace H := Option.bind_eq_some_iff.mp H
                obtain ⟨t161, A150, H⟩ := H
                replace H : (fascinelaw17_MergeSplits.l0 k2 l0 l1 t161 (wrap64 (x6_2 + 1))) = some r := H
                have A15 := Aside0.mk A150
                clear A150
                have H' := Aside0.mk H
                clear H
                have p160 : 0 ≤ (x6_2 : Int) := of_decide_eq_true (by first | (with_reducible assumption) | assumption)
                have q160 : x6_2 < (l0.length : Int) := of_decide_eq_true (by first | (with_reducible assumption) | assumption)
                obtain ⟨ad160, e160, hx160_0, hx160_1, hx160_2⟩ := at_T31 HR0.out x6_2 p160 q160
                cases e160
                replace hx160_0 := (HB.out.cell (World.block_lt_of_cell? w _ hx160_0)).trans hx160_0
                replace hx160_1 := (HB.out.cell (World.block_lt_of_cell? w _ hx160_1)).trans hx160_1
                replace hx160_2 := (HB.out.cell (World.block_lt_of_cell? w _ hx160_2)).trans hx160_2
                replace p160 := eq_true p160
                replace q160 := eq_true q160
                obtain ⟨Ao16, co16, eo16⟩ := Kd.R_slice HO_5.out
                subst eo16
                go_wp2_with (first | ((with_reducible refine gate_callee (f := 10) rfl ?_); refine goesL_ (some 38) rfl rfl Try.func10 (by kernel_rfl) rfl #[.slice Ao16 x5_2.length co16, .agg #[.string ((rd_T31 l0 x6_2).f0), .int .i64 ((rd_T31 l0 x6_2).f1), .string ((rd_T31 l0 x6_2).f2)]] rfl (by (try simp only [List.map_toArray, List.map_cons, List.map_nil]); first | done | rfl | (simp only [List.length_drop, List.length_take]; rfl)) ?_; (with_reducible refine (fascineref07_Put.calls k2 _ _ x5_2 ((rd_T31 l0 x6_2).f0) ((rd_T31 l0 x6_2).f1) ((rd_T31 l0 x6_2).f2) t161 _ ?side1 ?side2 A15.out).mono ?_); (case side1 => repeat (first | exact (Kd.R_reads' HO_5.out).2.2 | (with_reducible refine Kd.C_alloc ?_ _) | (with_reducible refine Kd.C_drewN ?_ _) | (with_reducible refine Kd.C_drew ?_))); (case side2 => exact (Kd.R_reads' HO_5.out).2.1); rintro e w17 ⟨v162, rfl, ho0, hb⟩; refine ⟨_, rfl, ?_⟩; have n0_ := Aside0.mk (Kd.R_elder' (by (with_reducible repeat (first | apply Kd.R_alloc | apply Kd.R_drewN | apply Kd.R_drew)); exact HO_5.out) (Kd.R_base ho0) hb); have n1_ := Aside0.mk (Kd.R_lower (Kd.R_new' ho0 (Kd.R_lt (by (with_reducible repeat (first | apply Kd.R_alloc | apply Kd.R_drewN | apply Kd.R_drew)); exact HO_5.out))) (below_size (by repeat (first | (with_reducible first | exact HB.out | apply below_alloc | apply pw_below_drewN | apply below_drew1) | exact HB.out)))); have n2_ := Aside0.mk (below_step (by repeat (first | (with_reducible first | exact HB.out | apply below_alloc | apply pw_below_drewN | apply below_drew1) | exact HB.out)) hb); clear HO_5; clear HB; have HO_5 := n0_; have HO163 := n1_; have HB := n2_; clear n0_ n1_ n2_; (try clear hb); (try clear hb2); (try clear hk); (try clear hi); (try clear ho0)))
                go_roundg k2
                case measure => have := HJ2.out; have := HK2.out; omega
                case rel => exact ⟨(t161), (wrap64 (x6_2 + 1)), (by first | rfl | (simp; done) | (simp [*]; done)), H', ⟨by have := HJ2.out; have := HK2.out; omega⟩, ⟨by (with_reducible repeat (first | apply Kd.R_alloc | apply Kd.R_drewN | apply Kd.R_drew)); exact Kd.R_mono HO163.out (fun _ hk => trivial)⟩, ⟨by repeat (first | (with_reducible first | exact HB.out | apply below_alloc | apply pw_below_drewN | apply below_drew1) | exact HB.out)⟩⟩
              · rw [if_neg c14] at H
                exact absurd H (by simp)
            · rw [if_neg c13] at H
              have c13b0 : decide (x6_2 < (l0.length : Int)) = false := decide_eq_false c13
              clear c13
              have H' := Aside0.mk H
              clear H
              go_wp2
              go_loopg [7] k2 (fun kq v7 w' => ∃ (x7_3 : Int), v7 = .int .i64 x7_3 ∧ Aside0 (fascinelaw17_MergeSplits.l1 kq l1 x5_2 x7_3 = some r) ∧ Aside0 (kq ≤ k2) ∧ Aside0 (Kd.R k31 31 w' w.heap.size (fun _ => True) u5 x5_2) ∧ Aside0 (Below w.heap.size w w'))
              case atStart => exact ⟨(1), (by first | rfl | (simp; done) | (simp [*]; done)), H', ⟨Nat.le_refl _⟩, ⟨by (with_reducible repeat (first | apply Kd.R_alloc | apply Kd.R_drewN | apply Kd.R_drew)); exact HO_5.out⟩, ⟨by repeat (first | (with_reducible first | exact HB.out | apply below_alloc | apply pw_below_drewN | apply below_drew1) | exact HB.out)⟩⟩
              case round =>
                clear H'
                try clear c1
                try clear p1
                try clear q1
                try clear hx1
                try clear p2
                try clear c4
                try clear c5
                try clear c6
                try clear c6b0
                try clear c6b1
                try clear p6
                try clear c7
                try clear c10
                try clear c13
                try clear c13b0
                try clear c14
                try clear c14b0
                try clear p16
                try clear q16
                try clear hx16
                try clear hx160_0
                try clear hx160_1
                try clear hx160_2
                try clear p160
                try clear p2
                try clear q160
                obtain ⟨x7_3, rfl, HA, HK3, HO_5, HB⟩ := hrel
                cases gk with
                | zero => exact absurd HA.out (by simp [fascinelaw17_MergeSplits.l1])
                | succ k3 =>
                  have H := HA.out
                  clear HA
                  simp only [fascinelaw17_MergeSplits.l1] at H
                  by_cases c18 : x7_3 < (x5_2.length : Int)
                  · rw [if_pos c18] at H
                    have c18b0 : decide (x7_3 < (x5_2.length : Int)) = true := decide_eq_true c18
                    clear c18
                    obtain ⟨ji19, hji19⟩ : ∃ j_ : Int, (wrap64 (x7_3 - 1)) = j_ := ⟨_, rfl⟩
                    replace H : (if 0 ≤ (ji19) then (if (ji19) < (x5_2.length : Int) then (if 0 ≤ x7_3 then ((fascineref07_Ahead.f ((rd_T31 x5_2 (ji19)).f0) ((rd_T31 x5_2 (ji19)).f1) ((rd_T31 x5_2 (ji19)).f2) ((rd_T31 x5_2 x7_3).f0) ((rd_T31 x5_2 x7_3).f1) ((rd_T31 x5_2 x7_3).f2)).bind fun t166 => (if t166 = true then (fascinelaw17_MergeSplits.l1 k3 l1 x5_2 (wrap64 (x7_3 + 1))) else (some true))) else (none)) else (none)) else (none)) = some r := by first | (rw [hji19] at H; exact H) | (simp only [hji19] at H ⊢; exact H)
                    have hji19w : (IntKind.i64.wrap (x7_3 - 1)) = ji19 := (i64_w _).trans hji19
                    by_cases c20 : 0 ≤ (ji19)
                    · rw [if_pos c20] at H
                      have c20b0 : decide (0 ≤ (ji19)) = true := decide_eq_true c20
                      clear c20
                      by_cases c21 : (ji19) < (x5_2.length : Int)
                      · rw [if_pos c21] at H
                        have c21b0 : decide ((ji19) < (x5_2.length : Int)) = true := decide_eq_true c21
                        clear c21
                        by_cases c22 : 0 ≤ x7_3
                        · rw [if_pos c22] at H
                          have c22b0 : decide (0 ≤ x7_3) = true := decide_eq_true c22
                          clear c22
                          replace H := Option.bind_eq_some_iff.mp H
                          obtain ⟨t166, A230, H⟩ := H
                          replace H : (if t166 = true then (fascinelaw17_MergeSplits.l1 k3 l1 x5_2 (wrap64 (x7_3 + 1))) else (some true)) = some r := H
                          have A23 := Aside0.mk A230
                          clear A230
                          by_cases c24 : t166 = true
                          · subst c24
                            have H1 : (fascinelaw17_MergeSplits.l1 k3 l1 x5_2 (wrap64 (x7_3 + 1))) = some r := by rw [if_pos rfl] at H; exact H
                            clear H
                            have H := H1
                            clear H1
                            have H' := Aside0.mk H
                            clear H
                            obtain ⟨Ao25, co25, eo25⟩ := Kd.R_slice HO_5.out
                            subst eo25
                            try go_wp2
                            (try (rw [drewN_self wr]; generalize hq_ : World.drewN wr _ = wr; have n0_ : Aside0 (Kd.R k31 31 wr w.heap.size (fun _ => True) (.slice Ao25 x5_2.length co25) x5_2) := ⟨by rw [← hq_]; exact (by (with_reducible repeat (first | apply Kd.R_alloc | apply Kd.R_drewN | apply Kd.R_drew)); exact HO_5.out)⟩; have n1_ : Aside0 (Below w.heap.size w wr) := ⟨by rw [← hq_]; exact (by repeat (first | (with_reducible first | exact HB.out | apply below_alloc | apply pw_below_drewN | apply below_drew1) | exact HB.out))⟩; clear HO_5 HB hq_; have HO_5 := n0_; have HB := n1_; clear n0_ n1_))
                            have n0_ := Aside0.mk (Kd.R_drew HO_5.out)
                            have n1_ := Aside0.mk (below_drew1 HB.out)
                            clear HO_5
                            clear HB
                            have HO_5 := n0_
                            have HB := n1_
                            clear n0_ n1_
                            have p164 : 0 ≤ ((ji19) : Int) := of_decide_eq_true (by first | (with_reducible assumption) | assumption)
                            have q164 : (ji19) < (x5_2.length : Int) := of_decide_eq_true (by first | (with_reducible assumption) | assumption)
                            obtain ⟨ad164, e164, hx164_0, hx164_1, hx164_2⟩ := at_T31 (Kd.R_reads' HO_5.out).2.2 (ji19) p164 q164
                            cases e164
                            replace p164 := eq_true p164
                            replace q164 := eq_true q164
                            have p165 : 0 ≤ (x7_3 : Int) := of_decide_eq_true (by first | (with_reducible assumption) | assumption)
                            have q165 : x7_3 < (x5_2.length : Int) := of_decide_eq_true (by first | (with_reducible assumption) | assumption)
                            obtain ⟨ad165, e165, hx165_0, hx165_1, hx165_2⟩ := at_T31 (Kd.R_reads' HO_5.out).2.2 x7_3 p165 q165
                            obtain rfl : ad164 = ad165 := (by injection e165)
                            replace p165 := eq_true p165
                            replace q165 := eq_true q165
                            refine start_ (n := 11) (S := fun w' => w'.cell? (ad164.add (((ji19)).toNat * 3)) = some (.string ((rd_T31 x5_2 (ji19)).f0)) ∧ w'.cell? ⟨(ad164.add (((ji19)).toNat * 3)).block, (ad164.add (((ji19)).toNat * 3)).off + 1, none⟩ = some (.int .i64 ((rd_T31 x5_2 (ji19)).f1)) ∧ w'.cell? ⟨(ad164.add (((ji19)).toNat * 3)).block, (ad164.add (((ji19)).toNat * 3)).off + 2, none⟩ = some (.string ((rd_T31 x5_2 (ji19)).f2)) ∧ w'.cell? (ad164.add ((x7_3).toNat * 3)) = some (.string ((rd_T31 x5_2 x7_3).f0)) ∧ w'.cell? ⟨(ad164.add ((x7_3).toNat * 3)).block, (ad164.add ((x7_3).toNat * 3)).off + 1, none⟩ = some (.int .i64 ((rd_T31 x5_2 x7_3).f1)) ∧ w'.cell? ⟨(ad164.add ((x7_3).toNat * 3)).block, (ad164.add ((x7_3).toNat * 3)).off + 2, none⟩ = some (.string ((rd_T31 x5_2 x7_3).f2))) (ds := []) #[false, false, false, false, false, false, false, false, false, false, false] (by kernel_rfl) rfl rfl ⟨hx164_0, hx164_1, hx164_2, hx165_0, hx165_1, hx165_2⟩ (fun hHeld => ?_); refine with_tabW fascinelaw17_MergeSplits.tab11 fascinelaw17_MergeSplits.bits11 (fun HT_ HW_ => ?_)
                            generalize wr.drew = w26 at HO_5 HB hx164_0 hx164_1 hx164_2 hx165_0 hx165_1 hx165_2 hHeld ⊢
                            refine pure_ (i := 0) (N := some 45) (v := ?_) (a' := ?_) #[true, false, false, false, false, false, false, false, false, false, false] rfl rfl (any_of HT_.out (by kernel_rfl)) (fun _ _ _ h => h) (Or.inl ⟨by rfl, ?_⟩) ?_ ?_
                            rotate_left
                            · intro w'
                              go_simp
                              with_reducible rfl
                            rotate_left
                            · simp only [Act.put, List.setIfInBounds_toArray, List.set_cons_zero, List.set_cons_succ, i64_w, i32_w]
                              rfl
                            refine pure_ (i := 1) (N := some 46) (v := ?_) (a' := ?_) #[true, true, false, false, false, false, false, false, false, false, false] rfl rfl (any_of HT_.out (by kernel_rfl)) (fun _ _ _ h => h) (Or.inl ⟨by rfl, ?_⟩) ?_ ?_
                            rotate_left
                            · intro w'
                              go_simp
                              with_reducible rfl
                            rotate_left
                            · simp only [Act.put, List.setIfInBounds_toArray, List.set_cons_zero, List.set_cons_succ, i64_w, i32_w]
                              rfl
                            refine pure_ (i := 2) (N := some 47) (v := ?_) (a' := ?_) #[true, true, true, false, false, false, false, false, false, false, false] rfl rfl (any_of HT_.out (by kernel_rfl)) (fun _ _ _ h => h) (Or.inl ⟨by rfl, ?_⟩) ?_ ?_
                            rotate_left
                            · intro w'
                              go_simp
                              with_reducible rfl
                            rotate_left
                            · simp only [Act.put, List.setIfInBounds_toArray, List.set_cons_zero, List.set_cons_succ, i64_w, i32_w]
                              rfl
                            refine pure_ (i := 3) (N := some 48) (v := ?_) (a' := ?_) #[true, true, true, true, false, false, false, false, false, false, false] rfl rfl (any_of HT_.out (by kernel_rfl)) (fun _ _ _ h => h) (Or.inl ⟨by rfl, ?_⟩) ?_ ?_
                            rotate_left
                            · intro w'
                              go_simp
                              with_reducible rfl
                            rotate_left
                            · simp only [Act.put, List.setIfInBounds_toArray, List.set_cons_zero, List.set_cons_succ, i64_w, i32_w]
                              rfl
                            refine pure_ (i := 5) (N := some 50) (v := ?_) (a' := ?_) #[true, true, true, true, false, true, false, false, false, false, false] rfl rfl (any_of HT_.out (by kernel_rfl)) (fun _ _ _ h => h) (Or.inl ⟨by rfl, ?_⟩) ?_ ?_
                            rotate_left
                            · intro w'
                              go_simp
                              with_reducible rfl
                            rotate_left
                            · simp only [Act.put, List.setIfInBounds_toArray, List.set_cons_zero, List.set_cons_succ, i64_w, i32_w]
                              rfl
                            refine pure_ (i := 6) (N := some 51) (v := ?_) (a' := ?_) #[true, true, true, true, false, true, true, false, false, false, false] rfl rfl (any_of HT_.out (by kernel_rfl)) (fun _ _ _ h => h) (Or.inl ⟨by rfl, ?_⟩) ?_ ?_
                            rotate_left
                            · intro w'
                              go_simp
                              with_reducible rfl
                            rotate_left
                            · simp only [Act.put, List.setIfInBounds_toArray, List.set_cons_zero, List.set_cons_succ, i64_w, i32_w]
                              rfl
                            refine pure_ (i := 7) (N := some 52) (v := ?_) (a' := ?_) #[true, true, true, true, false, true, true, true, false, false, false] rfl rfl (any_of HT_.out (by kernel_rfl)) (fun _ _ _ h => h) (Or.inl ⟨by rfl, ?_⟩) ?_ ?_
                            rotate_left
                            · intro w'
                              go_simp
                              with_reducible rfl
                            rotate_left
                            · simp only [Act.put, List.setIfInBounds_toArray, List.set_cons_zero, List.set_cons_succ, i64_w, i32_w]
                              rfl
                            refine take_ (i := 4) (N := some 49) (v := ?_) (a' := ?_) #[true, true, true, true, true, true, true, true, false, false, false] rfl rfl (take_ofW HT_.out HW_.out (by kernel_rfl)) (fun _ _ _ h => h) (Or.inl ⟨by rfl, ?_⟩) hHeld ?_ ?_
                            rotate_left
                            · rintro w' ⟨s0, s1, s2, s3, s4, s5⟩
                              go_simp
                              with_reducible rfl
                            rotate_left
                            · simp only [Act.put, List.setIfInBounds_toArray, List.set_cons_zero, List.set_cons_succ, i64_w, i32_w]
                              rfl
                            refine take_ (i := 8) (N := some 53) (v := ?_) (a' := ?_) #[true, true, true, true, true, true, true, true, true, false, false] rfl rfl (take_ofW HT_.out HW_.out (by kernel_rfl)) (fun _ _ _ h => h) (Or.inl ⟨by rfl, ?_⟩) hHeld ?_ ?_
                            rotate_left
                            · rintro w' ⟨s0, s1, s2, s3, s4, s5⟩
                              go_simp
                              with_reducible rfl
                            rotate_left
                            · simp only [Act.put, List.setIfInBounds_toArray, List.set_cons_zero, List.set_cons_succ, i64_w, i32_w]
                              rfl
                            refine one_ (i := 9) (N := some 54) #[true, true, true, true, true, true, true, true, true, true, false] rfl rfl (one_of HT_.out (by kernel_rfl)) (by decide) (fun K hK => ?_)
                            refine goes_ Try.func12 (by kernel_rfl) rfl #[.agg #[.string ((rd_T31 x5_2 (ji19)).f0), .int .i64 ((rd_T31 x5_2 (ji19)).f1), .string ((rd_T31 x5_2 (ji19)).f2)], .agg #[.string ((rd_T31 x5_2 x7_3).f0), .int .i64 ((rd_T31 x5_2 x7_3).f1), .string ((rd_T31 x5_2 x7_3).f2)]] (by rfl) rfl rfl (by (try simp only [List.map_toArray, List.map_cons, List.map_nil]); first | done | (simp only [hji19]; rfl) | rfl | (simp only [List.length_drop, List.length_take]; rfl)) ?_
                            with_reducible refine (fascineref07_Ahead.calls ((rd_T31 x5_2 (ji19)).f0) ((rd_T31 x5_2 (ji19)).f1) ((rd_T31 x5_2 (ji19)).f2) ((rd_T31 x5_2 x7_3).f0) ((rd_T31 x5_2 x7_3).f1) ((rd_T31 x5_2 x7_3).f2) true _ A23.out).mono ?_
                            rintro e w27 ⟨rfl, hb⟩
                            have HS0_ := (hb.cell (World.block_lt_of_cell? _ _ (hHeld.1))).trans (hHeld.1)
                            have HS1_ := (hb.cell (World.block_lt_of_cell? _ _ (hHeld.2.1))).trans (hHeld.2.1)
                            have HS2_ := (hb.cell (World.block_lt_of_cell? _ _ (hHeld.2.2.1))).trans (hHeld.2.2.1)
                            have HS3_ := (hb.cell (World.block_lt_of_cell? _ _ (hHeld.2.2.2.1))).trans (hHeld.2.2.2.1)
                            have HS4_ := (hb.cell (World.block_lt_of_cell? _ _ (hHeld.2.2.2.2.1))).trans (hHeld.2.2.2.2.1)
                            have HS5_ := (hb.cell (World.block_lt_of_cell? _ _ (hHeld.2.2.2.2.2))).trans (hHeld.2.2.2.2.2)
                            refine ⟨_, rfl, ?_⟩
                            have n0_ := Aside0.mk (Kd.R_below (by (with_reducible repeat (first | apply Kd.R_alloc | apply Kd.R_drewN | apply Kd.R_drew)); exact HO_5.out) hb)
                            have n1_ := Aside0.mk (below_step (by repeat (first | (with_reducible first | exact HB.out | apply below_alloc | apply pw_below_drewN | apply below_drew1) | exact HB.out)) hb)
                            clear HO_5
                            clear HB
                            have HO_5 := n0_
                            have HB := n1_
                            clear n0_ n1_
                            (try clear hb)
                            (try clear hb2)
                            (try clear hk)
                            (try clear hi)
                            refine hK.out _ _ ⟨HS0_, HS1_, HS2_, HS3_, HS4_, HS5_⟩ (fun hHeld => ?_)
                            clear hK K
                            refine norm_ (a' := ?_) ?_ ?_
                            rotate_left
                            · show Act.put _ (some 54) _ = _
                              simp only [Act.put, List.setIfInBounds_toArray, List.set_cons_zero, List.set_cons_succ, i64_w, i32_w]
                              rfl
                            refine pure_ (i := 10) (N := some 55) (v := ?_) (a' := ?_) #[true, true, true, true, true, true, true, true, true, true, true] rfl rfl (any_of HT_.out (by kernel_rfl)) (fun _ _ _ h => h) (Or.inl ⟨by rfl, ?_⟩) ?_ ?_
                            rotate_left
                            · intro w'
                              go_simp
                              with_reducible rfl
                            rotate_left
                            · simp only [Act.put, List.setIfInBounds_toArray, List.set_cons_zero, List.set_cons_succ, i64_w, i32_w]
                              rfl
                            refine done_ (done_of HT_.out (by kernel_rfl)) ?_
                            try go_wp2
                            go_roundg k3
                            case measure => have := HJ2.out; have := HK2.out; have := HK3.out; omega
                            case rel => exact ⟨(wrap64 (x7_3 + 1)), (by first | rfl | (simp; done) | (simp [*]; done)), H', ⟨by have := HJ2.out; have := HK2.out; have := HK3.out; omega⟩, ⟨by (with_reducible repeat (first | apply Kd.R_alloc | apply Kd.R_drewN | apply Kd.R_drew)); exact HO_5.out⟩, ⟨by repeat (first | (with_reducible first | exact HB.out | apply below_alloc | apply pw_below_drewN | apply below_drew1) | exact HB.out)⟩⟩
                          · replace c24 := Bool.eq_false_iff.mpr c24
                            subst c24
                            have H1 : (some true) = some r := by rw [if_neg (show ¬ (false = true) by decide)] at H; exact H
                            clear H
                            have H := H1
                            clear H1
                            obtain rfl := Option.some.inj H
                            obtain ⟨Ao28, co28, eo28⟩ := Kd.R_slice HO_5.out
                            subst eo28
                            try go_wp2
                            (try (rw [drewN_self wr]; generalize hq_ : World.drewN wr _ = wr; have n0_ : Aside0 (Kd.R k31 31 wr w.heap.size (fun _ => True) (.slice Ao28 x5_2.length co28) x5_2) := ⟨by rw [← hq_]; exact (by (with_reducible repeat (first | apply Kd.R_alloc | apply Kd.R_drewN | apply Kd.R_drew)); exact HO_5.out)⟩; have n1_ : Aside0 (Below w.heap.size w wr) := ⟨by rw [← hq_]; exact (by repeat (first | (with_reducible first | exact HB.out | apply below_alloc | apply pw_below_drewN | apply below_drew1) | exact HB.out))⟩; clear HO_5 HB hq_; have HO_5 := n0_; have HB := n1_; clear n0_ n1_))
                            have n0_ := Aside0.mk (Kd.R_drew HO_5.out)
                            have n1_ := Aside0.mk (below_drew1 HB.out)
                            clear HO_5
                            clear HB
                            have HO_5 := n0_
                            have HB := n1_
                            clear n0_ n1_
                            have p164 : 0 ≤ ((ji19) : Int) := of_decide_eq_true (by first | (with_reducible assumption) | assumption)
                            have q164 : (ji19) < (x5_2.length : Int) := of_decide_eq_true (by first | (with_reducible assumption) | assumption)
                            obtain ⟨ad164, e164, hx164_0, hx164_1, hx164_2⟩ := at_T31 (Kd.R_reads' HO_5.out).2.2 (ji19) p164 q164
                            cases e164
                            replace p164 := eq_true p164
                            replace q164 := eq_true q164
                            have p165 : 0 ≤ (x7_3 : Int) := of_decide_eq_true (by first | (with_reducible assumption) | assumption)
                            have q165 : x7_3 < (x5_2.length : Int) := of_decide_eq_true (by first | (with_reducible assumption) | assumption)
                            obtain ⟨ad165, e165, hx165_0, hx165_1, hx165_2⟩ := at_T31 (Kd.R_reads' HO_5.out).2.2 x7_3 p165 q165
                            obtain rfl : ad164 = ad165 := (by injection e165)
                            replace p165 := eq_true p165
                            replace q165 := eq_true q165
                            refine start_ (n := 11) (S := fun w' => w'.cell? (ad164.add (((ji19)).toNat * 3)) = some (.string ((rd_T31 x5_2 (ji19)).f0)) ∧ w'.cell? ⟨(ad164.add (((ji19)).toNat * 3)).block, (ad164.add (((ji19)).toNat * 3)).off + 1, none⟩ = some (.int .i64 ((rd_T31 x5_2 (ji19)).f1)) ∧ w'.cell? ⟨(ad164.add (((ji19)).toNat * 3)).block, (ad164.add (((ji19)).toNat * 3)).off + 2, none⟩ = some (.string ((rd_T31 x5_2 (ji19)).f2)) ∧ w'.cell? (ad164.add ((x7_3).toNat * 3)) = some (.string ((rd_T31 x5_2 x7_3).f0)) ∧ w'.cell? ⟨(ad164.add ((x7_3).toNat * 3)).block, (ad164.add ((x7_3).toNat * 3)).off + 1, none⟩ = some (.int .i64 ((rd_T31 x5_2 x7_3).f1)) ∧ w'.cell? ⟨(ad164.add ((x7_3).toNat * 3)).block, (ad164.add ((x7_3).toNat * 3)).off + 2, none⟩ = some (.string ((rd_T31 x5_2 x7_3).f2))) (ds := []) #[false, false, false, false, false, false, false, false, false, false, false] (by kernel_rfl) rfl rfl ⟨hx164_0, hx164_1, hx164_2, hx165_0, hx165_1, hx165_2⟩ (fun hHeld => ?_); refine with_tabW fascinelaw17_MergeSplits.tab11 fascinelaw17_MergeSplits.bits11 (fun HT_ HW_ => ?_)
                            generalize wr.drew = w29 at HO_5 HB hx164_0 hx164_1 hx164_2 hx165_0 hx165_1 hx165_2 hHeld ⊢
                            refine pure_ (i := 0) (N := some 45) (v := ?_) (a' := ?_) #[true, false, false, false, false, false, false, false, false, false, false] rfl rfl (any_of HT_.out (by kernel_rfl)) (fun _ _ _ h => h) (Or.inl ⟨by rfl, ?_⟩) ?_ ?_
                            rotate_left
                            · intro w'
                              go_simp
                              with_reducible rfl
                            rotate_left
                            · simp only [Act.put, List.setIfInBounds_toArray, List.set_cons_zero, List.set_cons_succ, i64_w, i32_w]
                              rfl
                            refine pure_ (i := 1) (N := some 46) (v := ?_) (a' := ?_) #[true, true, false, false, false, false, false, false, false, false, false] rfl rfl (any_of HT_.out (by kernel_rfl)) (fun _ _ _ h => h) (Or.inl ⟨by rfl, ?_⟩) ?_ ?_
                            rotate_left
                            · intro w'
                              go_simp
                              with_reducible rfl
                            rotate_left
                            · simp only [Act.put, List.setIfInBounds_toArray, List.set_cons_zero, List.set_cons_succ, i64_w, i32_w]
                              rfl
                            refine pure_ (i := 2) (N := some 47) (v := ?_) (a' := ?_) #[true, true, true, false, false, false, false, false, false, false, false] rfl rfl (any_of HT_.out (by kernel_rfl)) (fun _ _ _ h => h) (Or.inl ⟨by rfl, ?_⟩) ?_ ?_
                            rotate_left
                            · intro w'
                              go_simp
                              with_reducible rfl
                            rotate_left
                            · simp only [Act.put, List.setIfInBounds_toArray, List.set_cons_zero, List.set_cons_succ, i64_w, i32_w]
                              rfl
                            refine pure_ (i := 3) (N := some 48) (v := ?_) (a' := ?_) #[true, true, true, true, false, false, false, false, false, false, false] rfl rfl (any_of HT_.out (by kernel_rfl)) (fun _ _ _ h => h) (Or.inl ⟨by rfl, ?_⟩) ?_ ?_
                            rotate_left
                            · intro w'
                              go_simp
                              with_reducible rfl
                            rotate_left
                            · simp only [Act.put, List.setIfInBounds_toArray, List.set_cons_zero, List.set_cons_succ, i64_w, i32_w]
                              rfl
                            refine pure_ (i := 5) (N := some 50) (v := ?_) (a' := ?_) #[true, true, true, true, false, true, false, false, false, false, false] rfl rfl (any_of HT_.out (by kernel_rfl)) (fun _ _ _ h => h) (Or.inl ⟨by rfl, ?_⟩) ?_ ?_
                            rotate_left
                            · intro w'
                              go_simp
                              with_reducible rfl
                            rotate_left
                            · simp only [Act.put, List.setIfInBounds_toArray, List.set_cons_zero, List.set_cons_succ, i64_w, i32_w]
                              rfl
                            refine pure_ (i := 6) (N := some 51) (v := ?_) (a' := ?_) #[true, true, true, true, false, true, true, false, false, false, false] rfl rfl (any_of HT_.out (by kernel_rfl)) (fun _ _ _ h => h) (Or.inl ⟨by rfl, ?_⟩) ?_ ?_
                            rotate_left
                            · intro w'
                              go_simp
                              with_reducible rfl
                            rotate_left
                            · simp only [Act.put, List.setIfInBounds_toArray, List.set_cons_zero, List.set_cons_succ, i64_w, i32_w]
                              rfl
                            refine pure_ (i := 7) (N := some 52) (v := ?_) (a' := ?_) #[true, true, true, true, false, true, true, true, false, false, false] rfl rfl (any_of HT_.out (by kernel_rfl)) (fun _ _ _ h => h) (Or.inl ⟨by rfl, ?_⟩) ?_ ?_
                            rotate_left
                            · intro w'
                              go_simp
                              with_reducible rfl
                            rotate_left
                            · simp only [Act.put, List.setIfInBounds_toArray, List.set_cons_zero, List.set_cons_succ, i64_w, i32_w]
                              rfl
                            refine take_ (i := 4) (N := some 49) (v := ?_) (a' := ?_) #[true, true, true, true, true, true, true, true, false, false, false] rfl rfl (take_ofW HT_.out HW_.out (by kernel_rfl)) (fun _ _ _ h => h) (Or.inl ⟨by rfl, ?_⟩) hHeld ?_ ?_
                            rotate_left
                            · rintro w' ⟨s0, s1, s2, s3, s4, s5⟩
                              go_simp
                              with_reducible rfl
                            rotate_left
                            · simp only [Act.put, List.setIfInBounds_toArray, List.set_cons_zero, List.set_cons_succ, i64_w, i32_w]
                              rfl
                            refine take_ (i := 8) (N := some 53) (v := ?_) (a' := ?_) #[true, true, true, true, true, true, true, true, true, false, false] rfl rfl (take_ofW HT_.out HW_.out (by kernel_rfl)) (fun _ _ _ h => h) (Or.inl ⟨by rfl, ?_⟩) hHeld ?_ ?_
                            rotate_left
                            · rintro w' ⟨s0, s1, s2, s3, s4, s5⟩
                              go_simp
                              with_reducible rfl
                            rotate_left
                            · simp only [Act.put, List.setIfInBounds_toArray, List.set_cons_zero, List.set_cons_succ, i64_w, i32_w]
                              rfl
                            refine one_ (i := 9) (N := some 54) #[true, true, true, true, true, true, true, true, true, true, false] rfl rfl (one_of HT_.out (by kernel_rfl)) (by decide) (fun K hK => ?_)
                            refine goes_ Try.func12 (by kernel_rfl) rfl #[.agg #[.string ((rd_T31 x5_2 (ji19)).f0), .int .i64 ((rd_T31 x5_2 (ji19)).f1), .string ((rd_T31 x5_2 (ji19)).f2)], .agg #[.string ((rd_T31 x5_2 x7_3).f0), .int .i64 ((rd_T31 x5_2 x7_3).f1), .string ((rd_T31 x5_2 x7_3).f2)]] (by rfl) rfl rfl (by (try simp only [List.map_toArray, List.map_cons, List.map_nil]); first | done | (simp only [hji19]; rfl) | rfl | (simp only [List.length_drop, List.length_take]; rfl)) ?_
                            with_reducible refine (fascineref07_Ahead.calls ((rd_T31 x5_2 (ji19)).f0) ((rd_T31 x5_2 (ji19)).f1) ((rd_T31 x5_2 (ji19)).f2) ((rd_T31 x5_2 x7_3).f0) ((rd_T31 x5_2 x7_3).f1) ((rd_T31 x5_2 x7_3).f2) false _ A23.out).mono ?_
                            rintro e w30 ⟨rfl, hb⟩
                            have HS0_ := (hb.cell (World.block_lt_of_cell? _ _ (hHeld.1))).trans (hHeld.1)
                            have HS1_ := (hb.cell (World.block_lt_of_cell? _ _ (hHeld.2.1))).trans (hHeld.2.1)
                            have HS2_ := (hb.cell (World.block_lt_of_cell? _ _ (hHeld.2.2.1))).trans (hHeld.2.2.1)
                            have HS3_ := (hb.cell (World.block_lt_of_cell? _ _ (hHeld.2.2.2.1))).trans (hHeld.2.2.2.1)
                            have HS4_ := (hb.cell (World.block_lt_of_cell? _ _ (hHeld.2.2.2.2.1))).trans (hHeld.2.2.2.2.1)
                            have HS5_ := (hb.cell (World.block_lt_of_cell? _ _ (hHeld.2.2.2.2.2))).trans (hHeld.2.2.2.2.2)
                            refine ⟨_, rfl, ?_⟩
                            have n0_ := Aside0.mk (Kd.R_below (by (with_reducible repeat (first | apply Kd.R_alloc | apply Kd.R_drewN | apply Kd.R_drew)); exact HO_5.out) hb)
                            have n1_ := Aside0.mk (below_step (by repeat (first | (with_reducible first | exact HB.out | apply below_alloc | apply pw_below_drewN | apply below_drew1) | exact HB.out)) hb)
                            clear HO_5
                            clear HB
                            have HO_5 := n0_
                            have HB := n1_
                            clear n0_ n1_
                            (try clear hb)
                            (try clear hb2)
                            (try clear hk)
                            (try clear hi)
                            refine hK.out _ _ ⟨HS0_, HS1_, HS2_, HS3_, HS4_, HS5_⟩ (fun hHeld => ?_)
                            clear hK K
                            refine norm_ (a' := ?_) ?_ ?_
                            rotate_left
                            · show Act.put _ (some 54) _ = _
                              simp only [Act.put, List.setIfInBounds_toArray, List.set_cons_zero, List.set_cons_succ, i64_w, i32_w]
                              rfl
                            refine pure_ (i := 10) (N := some 55) (v := ?_) (a' := ?_) #[true, true, true, true, true, true, true, true, true, true, true] rfl rfl (any_of HT_.out (by kernel_rfl)) (fun _ _ _ h => h) (Or.inl ⟨by rfl, ?_⟩) ?_ ?_
                            rotate_left
                            · intro w'
                              go_simp
                              with_reducible rfl
                            rotate_left
                            · simp only [Act.put, List.setIfInBounds_toArray, List.set_cons_zero, List.set_cons_succ, i64_w, i32_w]
                              rfl
                            refine done_ (done_of HT_.out (by kernel_rfl)) ?_
                            try go_wp2
                            go_ret
                            exact ⟨by first | rfl | (simp [errW_none, errW_some] <;> rfl) | (simp only [← hji19]; first | rfl | (simp [errW_none, errW_some] <;> rfl)) | (simp [*, errW_none, errW_some] <;> rfl), by repeat (first | (with_reducible first | exact HB.out | apply below_alloc | apply pw_below_drewN | apply below_drew1) | exact HB.out)⟩
                        · rw [if_neg c22] at H
                          exact absurd H (by simp)
                      · rw [if_neg c21] at H
                        exact absurd H (by simp)
                    · rw [if_neg c20] at H
                      exact absurd H (by simp)
                  · rw [if_neg c18] at H
                    have c18b0 : decide (x7_3 < (x5_2.length : Int)) = false := decide_eq_false c18
                    clear c18
                    by_cases c31 : 5 ≤ 11728124029610
                    · rw [if_pos c31] at H
                      have c31b0 := eq_true c31
                      have c31b1 : decide (5 ≤ 11728124029610) = true := decide_eq_true c31
                      clear c31
                      obtain ⟨y167, hy167⟩ : ∃ y_ : List (List (S31)), y_ = (List.replicate 5 []) := ⟨_, rfl⟩
                      replace H : (fascinelaw17_MergeSplits.l2 k3 l1 x5_2 y167 0) = some r := by first | (rw [hy167]; with_reducible exact H) | (have H2_ := (Option.bind_some _ _).symm.trans H; rw [hy167]; with_reducible exact H2_) | (have H2_ := (Option.bind_some _ _).symm.trans H; with_reducible exact H2_) | with_reducible exact H | (rw [hy167]; exact H) | exact H
                      have Ny167 := Aside0.mk hy167
                      clear hy167
                      have H' := Aside0.mk H
                      clear H
                      obtain ⟨Ao32, co32, eo32⟩ := Kd.R_slice HO_5.out
                      subst eo32
                      go_wp2_with (first | ((with_reducible refine gate_dst (N := 56) rfl ?_); (try (refine gate_guard (by rfl) ?_; dsimp only)); refine Kd.S_make (Kd.slice 31 k31) _ 24 rfl (N := 56) rfl 22 _ _ rfl 5 rfl rfl Try.underlying22 (.slice none 0 0) 24 info24 rfl (by decide) (by omega) [] (ok := fun _ => True) (okp := fun _ => True) ⟨_, rfl, Kd.R_nil _ _ _ _ _⟩ (fun _ hk => hk) trivial (by omega) (by omega) (Below.refl _ _) (Nat.le_refl _) ?_; intro v168 w33 ho34 hb hg_ hnew_; clear hg_ hnew_; (first | rw [← Ny167.out] at ho34 | (simp only [Int.reduceToNat] at ho34; rw [← Ny167.out] at ho34)); have n0_ := Aside0.mk (Kd.R_below (by (with_reducible repeat (first | apply Kd.R_alloc | apply Kd.R_drewN | apply Kd.R_drew)); exact HO_5.out) hb); have n1_ := Aside0.mk (Kd.S_lower (Kd.S_new' ho34 (Kd.R_lt (by (with_reducible repeat (first | apply Kd.R_alloc | apply Kd.R_drewN | apply Kd.R_drew)); exact HO_5.out))) (below_size (by repeat (first | (with_reducible first | exact HB.out | apply below_alloc | apply pw_below_drewN | apply below_drew1) | exact HB.out)))); have n2_ := Aside0.mk (below_step (by repeat (first | (with_reducible first | exact HB.out | apply below_alloc | apply pw_below_drewN | apply below_drew1) | exact HB.out)) hb); clear HO_5; clear HB; have HO_5 := n0_; have HO169 := n1_; have HB := n2_; clear n0_ n1_ n2_; clear hb ho34))
                      go_loopg [9] k3 (fun kq v9 w' => ∃ (x8_4 : List (List (S31))) (x9_4 : Int), v9 = .int .i64 x9_4 ∧ Aside0 (fascinelaw17_MergeSplits.l2 kq l1 x5_2 x8_4 x9_4 = some r) ∧ Aside0 (kq ≤ k3) ∧ Aside0 (Kd.R k31 31 w' w.heap.size (fun _ => True) (.slice Ao32 x5_2.length co32) x5_2) ∧ Aside0 (Kd.S (Kd.slice 31 k31) 24 w' w.heap.size (fun k_ => some k_ ≠ ((.slice Ao32 x5_2.length co32) : Value).ownBlock) v168 x8_4) ∧ Aside0 (Below w.heap.size w w'))
                      case atStart => exact ⟨(y167), (0), (by first | rfl | (simp; done) | (simp [*]; done)), H', ⟨Nat.le_refl _⟩, ⟨by (with_reducible repeat (first | apply Kd.R_alloc | apply Kd.R_drewN | apply Kd.R_drew)); exact HO_5.out⟩, ⟨by (with_reducible repeat (first | apply Kd.S_alloc | apply Kd.S_drewN | apply Kd.S_drew)); exact Kd.S_mono HO169.out (fun _ hk => hk.2)⟩, ⟨by repeat (first | (with_reducible first | exact HB.out | apply below_alloc | apply pw_below_drewN | apply below_drew1) | exact HB.out)⟩⟩
                      case round =>
                        clear H'
                        try clear c1
                        try clear p1
                        try clear q1
                        try clear hx1
                        try clear c2
                        try clear p2
                        try clear c3
                        try clear c4
                        try clear c5
                        try clear c6
                        try clear c6b0
                        try clear c6b1
                        try clear p6
                        try clear c7
                        try clear c10
                        try clear c12
                        try clear c13
                        try clear c13b0
                        try clear c14
                        try clear c14b0
                        try clear p16
                        try clear q16
                        try clear hx16
                        try clear c18
                        try clear c18b0
                        try clear c20
                        try clear c20b0
                        try clear c21
                        try clear c21b0
                        try clear c22
                        try clear c22b0
                        try clear c24
                        try clear c31
                        try clear c31b0
                        try clear c31b1
                        try clear hx160_0
                        try clear hx160_1
                        try clear hx160_2
                        try clear hx164_0
                        try clear hx164_1
                        try clear hx164_2
                        try clear hx165_0
                        try clear hx165_1
                        try clear hx165_2
                        try clear p1
                        try clear p16
                        try clear p160
                        try clear p164
                        try clear p165
                        try clear p2
                        try clear p6
                        try clear q1
                        try clear q16
                        try clear q160
                        try clear q164
                        try clear q165
                        obtain ⟨x8_4, x9_4, rfl, HA, HK4, HO_5, HO_8, HB⟩ := hrel
                        cases gk with
                        | zero => exact absurd HA.out (by simp [fascinelaw17_MergeSplits.l2])
                        | succ k4 =>
                          have H := HA.out
                          clear HA
                          simp only [fascinelaw17_MergeSplits.l2] at H
                          by_cases c35 : x9_4 < (x5_2.length : Int)
                          · rw [if_pos c35] at H
                            have c35b0 : decide (x9_4 < (x5_2.length : Int)) = true := decide_eq_true c35
                            clear c35
                            by_cases c36 : (l1.length : Int) = 0
                            · rw [if_pos c36] at H
                              exact absurd H (by simp)
                            · rw [if_neg c36] at H
                              have c36b0 : ((l1.length : Int) == 0) = false := beq_eq_false_iff_ne.mpr c36
                              have c36b1 : ((l1.length : Int) != 0) = true := bne_iff_ne.mpr c36
                              have c36b2 : ¬ (l1 = []) := fun h_ => c36 (by rw [h_]; rfl)
                              obtain ⟨ji37, hji37⟩ : ∃ j_ : Int, (Int.tmod x9_4 (l1.length : Int)) = j_ := ⟨_, rfl⟩
                              replace H : (if 0 ≤ (ji37) then (if (ji37) < (l1.length : Int) then (if 0 ≤ (Int.tmod (wrap64 (rd l1 (ji37))) 5) then (if (Int.tmod (wrap64 (rd l1 (ji37))) 5) < (x8_4.length : Int) then (if 0 ≤ x9_4 then (if (rd_L3 x8_4 (Int.tmod (wrap64 (rd l1 (ji37))) 5)).length < 3518437208883 then (fascinelaw17_MergeSplits.l2 k4 l1 x5_2 (x8_4.set ((Int.tmod (wrap64 (rd l1 (ji37))) 5) : Int).toNat ((rd_L3 x8_4 (Int.tmod (wrap64 (rd l1 (ji37))) 5)) ++ [(⟨(rd_T31 x5_2 x9_4).f0, (rd_T31 x5_2 x9_4).f1, (rd_T31 x5_2 x9_4).f2⟩ : S31)])) (wrap64 (x9_4 + 1))) else (none)) else (none)) else (none)) else (none)) else (none)) else (none)) = some r := by first | (rw [hji37] at H; exact H) | (simp only [hji37] at H ⊢; exact H)
                              by_cases c38 : 0 ≤ (ji37)
                              · rw [if_pos c38] at H
                                have c38b0 : decide (0 ≤ (ji37)) = true := decide_eq_true c38
                                clear c38
                                by_cases c39 : (ji37) < (l1.length : Int)
                                · rw [if_pos c39] at H
                                  have c39b0 : decide ((ji37) < (l1.length : Int)) = true := decide_eq_true c39
                                  clear c39
                                  obtain ⟨ji40, hji40⟩ : ∃ j_ : Int, (Int.tmod (wrap64 (rd l1 (ji37))) 5) = j_ := ⟨_, rfl⟩
                                  replace H : (if 0 ≤ (ji40) then (if (ji40) < (x8_4.length : Int) then (if 0 ≤ x9_4 then (if (rd_L3 x8_4 (ji40)).length < 3518437208883 then (fascinelaw17_MergeSplits.l2 k4 l1 x5_2 (x8_4.set ((ji40) : Int).toNat ((rd_L3 x8_4 (ji40)) ++ [(⟨(rd_T31 x5_2 x9_4).f0, (rd_T31 x5_2 x9_4).f1, (rd_T31 x5_2 x9_4).f2⟩ : S31)])) (wrap64 (x9_4 + 1))) else (none)) else (none)) else (none)) else (none)) = some r := by first | (rw [hji40] at H; exact H) | (simp only [hji40] at H ⊢; exact H)
                                  by_cases c41 : 0 ≤ (ji40)
                                  · rw [if_pos c41] at H
                                    have c41b0 : decide (0 ≤ (ji40)) = true := decide_eq_true c41
                                    clear c41
                                    by_cases c42 : (ji40) < (x8_4.length : Int)
                                    · rw [if_pos c42] at H
                                      have c42b0 : decide ((ji40) < (x8_4.length : Int)) = true := decide_eq_true c42
                                      clear c42
                                      by_cases c43 : 0 ≤ x9_4
                                      · rw [if_pos c43] at H
                                        have c43b0 : decide (0 ≤ x9_4) = true := decide_eq_true c43
                                        clear c43
                                        by_cases c44 : (rd_L3 x8_4 (ji40)).length < 3518437208883
                                        · rw [if_pos c44] at H
                                          have LMc44 := Aside0.mk c44
                                          clear c44
                                          obtain ⟨y173, hy173⟩ : ∃ y_ : List (S31), y_ = ((rd_L3 x8_4 (ji40)) ++ [(⟨(rd_T31 x5_2 x9_4).f0, (rd_T31 x5_2 x9_4).f1, (rd_T31 x5_2 x9_4).f2⟩ : S31)]) := ⟨_, rfl⟩
                                          replace H : (fascinelaw17_MergeSplits.l2 k4 l1 x5_2 (x8_4.set ((ji40) : Int).toNat y173) (wrap64 (x9_4 + 1))) = some r := by first | (rw [hy173]; with_reducible exact H) | (have H2_ := (Option.bind_some _ _).symm.trans H; rw [hy173]; with_reducible exact H2_) | (have H2_ := (Option.bind_some _ _).symm.trans H; with_reducible exact H2_) | with_reducible exact H | (rw [hy173]; exact H) | exact H
                                          have Ny173 := Aside0.mk hy173
                                          clear hy173
                                          obtain ⟨y176, hy176⟩ : ∃ y_ : List (List (S31)), y_ = (x8_4.set ((ji40) : Int).toNat y173) := ⟨_, rfl⟩
                                          replace H : (fascinelaw17_MergeSplits.l2 k4 l1 x5_2 y176 (wrap64 (x9_4 + 1))) = some r := by first | (rw [hy176]; with_reducible exact H) | (have H2_ := (Option.bind_some _ _).symm.trans H; rw [hy176]; with_reducible exact H2_) | (have H2_ := (Option.bind_some _ _).symm.trans H; with_reducible exact H2_) | with_reducible exact H | (rw [hy176]; exact H) | exact H
                                          have Ny176 := Aside0.mk hy176
                                          clear hy176
                                          have H' := Aside0.mk H
                                          clear H
                                          have p170 : 0 ≤ ((ji37) : Int) := of_decide_eq_true (by first | (with_reducible assumption) | assumption)
                                          have q170 : (ji37) < (l1.length : Int) := of_decide_eq_true (by first | (with_reducible assumption) | assumption)
                                          obtain ⟨ad170, e170, hx170_0⟩ := Kd.at_int HR1.out (ji37) p170 q170
                                          cases e170
                                          replace hx170_0 := (HB.out.cell (World.block_lt_of_cell? w _ hx170_0)).trans hx170_0
                                          replace p170 := eq_true p170
                                          replace q170 := eq_true q170
                                          try go_wp2
                                          (try (rw [drewN_self wr]; generalize hq_ : World.drewN wr _ = wr; have n0_ : Aside0 (Kd.R k31 31 wr w.heap.size (fun _ => True) (.slice Ao32 x5_2.length co32) x5_2) := ⟨by rw [← hq_]; exact (by (with_reducible repeat (first | apply Kd.R_alloc | apply Kd.R_drewN | apply Kd.R_drew)); exact HO_5.out)⟩; have n1_ : Aside0 (Kd.S (Kd.slice 31 k31) 24 wr w.heap.size (fun k_ => some k_ ≠ (.slice Ao32 x5_2.length co32 : Value).ownBlock) v168 x8_4) := ⟨by rw [← hq_]; exact (by (with_reducible repeat (first | apply Kd.S_alloc | apply Kd.S_drewN | apply Kd.S_drew)); exact HO_8.out)⟩; have n2_ : Aside0 (Below w.heap.size w wr) := ⟨by rw [← hq_]; exact (by repeat (first | (with_reducible first | exact HB.out | apply below_alloc | apply pw_below_drewN | apply below_drew1) | exact HB.out))⟩; clear HO_5 HO_8 HB hq_; have HO_5 := n0_; have HO_8 := n1_; have HB := n2_; clear n0_ n1_ n2_))
                                          have n0_ := Aside0.mk (Kd.R_drew HO_5.out)
                                          have n1_ := Aside0.mk (Kd.S_drew HO_8.out)
                                          have n2_ := Aside0.mk (below_drew1 HB.out)
                                          clear HO_5
                                          clear HO_8
                                          clear HB
                                          have HO_5 := n0_
                                          have HO_8 := n1_
                                          have HB := n2_
                                          clear n0_ n1_ n2_
                                          obtain ⟨Ao47, co47, eo47⟩ := Kd.S_slice HO_8.out
                                          (first | subst eo47 | (injection eo47 with f1_ f2_ f3_; have f4_ := f1_.symm; have f5_ := f3_.symm; clear f1_ f2_ f3_; subst f4_; subst f5_))
                                          have p171 : 0 ≤ ((ji40) : Int) := of_decide_eq_true (by first | (with_reducible assumption) | assumption)
                                          have q171 : (ji40) < (x8_4.length : Int) := of_decide_eq_true (by first | (with_reducible assumption) | assumption)
                                          obtain ⟨ad171, A171_0, c171_0, e171, hx171_0, hl171_0, hi171_0⟩ := at_L3 (Kd.S_reads' HO_8.out).2.2 (ji40) p171 q171
                                          cases e171
                                          obtain ⟨ce171, hce171, hMe171, hcc171⟩ := Kd.S_get HO_8.out [] (ji40) p171 (by first | exact q171 | exact of_decide_eq_true (by first | (with_reducible assumption) | assumption) | (have e_ := (Kd.S_reads' HO_8.out).1; omega))
                                          obtain ⟨ve171_0, rfl, ge171_0⟩ := hMe171
                                          have hv171_0 := hcc171 0 _ rfl
                                          rw [Nat.add_zero, show ((Kd.slice 31 k31)).sz = 1 from rfl, Nat.mul_one] at hv171_0
                                          replace hv171_0 := Option.some.inj (hv171_0.symm.trans hx171_0)
                                          rw [hv171_0] at ge171_0
                                          have HL171_0 := Aside0.mk (show Kd.R k31 31 _ _ _ _ (rd_L3 x8_4 (ji40)) from ge171_0)
                                          clear hv171_0 ge171_0
                                          have HX171_0 := Aside0.mk hx171_0
                                          clear hcc171 hce171
                                          have HR171_0 := Aside0.mk hi171_0
                                          have HC171_0 := Aside0.mk hl171_0
                                          clear hi171_0 hl171_0
                                          replace p171 := eq_true p171
                                          replace q171 := eq_true q171
                                          have p172 : 0 ≤ (x9_4 : Int) := of_decide_eq_true (by first | (with_reducible assumption) | assumption)
                                          have q172 : x9_4 < (x5_2.length : Int) := of_decide_eq_true (by first | (with_reducible assumption) | assumption)
                                          obtain ⟨ad172, e172, hx172_0, hx172_1, hx172_2⟩ := at_T31 (Kd.R_reads' HO_5.out).2.2 x9_4 p172 q172
                                          cases e172
                                          replace p172 := eq_true p172
                                          replace q172 := eq_true q172
                                          obtain ⟨go48, co48, eo48, gb48, gl48, cl48, HG48⟩ := Kd.S_form HO_8.out (by have h_ : ((ji40) : Int) < ((x8_4.length : Int) : Int) := of_decide_eq_true (by first | (with_reducible assumption) | assumption); have h2_ : 0 ≤ ((ji40) : Int) := (of_decide_eq_true (by first | (with_reducible assumption) | assumption)); omega)
                                          (first | cases eo48 | (injection eo48 with ea_ en_ ec_; (first | subst ea_ | (injection ea_ with ea_; subst ea_)); subst ec_; clear en_))
                                          have GB48 := Aside0.mk gb48
                                          have GG48 := Aside0.mk HG48
                                          clear gb48 gl48 HG48
                                          (first | simp only [add_plain] at hx171_0 | skip)
                                          obtain ⟨oki48, ce48, hcl48, hM48, hcc48, _, _, hH48⟩ := Kd.S_elem HO_8.out [] ((ji40) : Int) (of_decide_eq_true (by first | (with_reducible assumption) | assumption)) (by have h_ : ((ji40) : Int) < ((x8_4.length : Int) : Int) := of_decide_eq_true (by first | (with_reducible assumption) | assumption); first | exact h_ | (have e_ := (Kd.S_reads' HO_8.out).1; omega) | simpa using h_)
                                          obtain ⟨ve48_0, rfl, ge48_0⟩ := hM48
                                          have hv48 := hcc48 0 _ rfl
                                          have hX48 := HX171_0.out
                                          (try simp only [add_plain] at hX48)
                                          (try simp only [Nat.add_zero] at hv48)
                                          (try rw [show ((Kd.slice 31 k31)).sz = 1 from rfl, Nat.mul_one] at hv48)
                                          replace hv48 := Option.some.inj (hv48.symm.trans hX48)
                                          subst hv48
                                          clear hX48 hcc48 hcl48
                                          have UU48 := Aside0.mk (show Kd.R k31 31 _ w.heap.size oki48 (.slice A171_0 (rd_L3 x8_4 (ji40)).length c171_0) (rd_L3 x8_4 (ji40)) from ge48_0)
                                          have HH48 := Aside0.mk hH48
                                          have HN48 := Aside0.mk (Kd.S_reads' HO_8.out).1
                                          clear hH48 ge48_0
                                          refine start_ (n := 14) (S := fun w' => w'.cell? ⟨go48, ((ji40)).toNat, none⟩ = some (.slice A171_0 (rd_L3 x8_4 (ji40)).length c171_0) ∧ w'.cell? (ad172.add ((x9_4).toNat * 3)) = some (.string ((rd_T31 x5_2 x9_4).f0)) ∧ w'.cell? ⟨(ad172.add ((x9_4).toNat * 3)).block, (ad172.add ((x9_4).toNat * 3)).off + 1, none⟩ = some (.int .i64 ((rd_T31 x5_2 x9_4).f1)) ∧ w'.cell? ⟨(ad172.add ((x9_4).toNat * 3)).block, (ad172.add ((x9_4).toNat * 3)).off + 2, none⟩ = some (.string ((rd_T31 x5_2 x9_4).f2))) (ds := [11, 13]) #[false, false, false, false, false, false, false, false, false, false, false, false, false, false] (by kernel_rfl) rfl rfl ⟨hx171_0, hx172_0, hx172_1, hx172_2⟩ (fun hHeld => ?_); refine with_tabW fascinelaw17_MergeSplits.tab18 fascinelaw17_MergeSplits.bits18 (fun HT_ HW_ => ?_)
                                          generalize wr.drew = w46 at HO_5 HO_8 HB GG48 HH48 HL171_0 HR171_0 HX171_0 UU48 hx171_0 hx172_0 hx172_1 hx172_2 hHeld ⊢
                                          refine pure_ (i := 0) (N := some 72) (v := ?_) (a' := ?_) #[true, false, false, false, false, false, false, false, false, false, false, false, false, false] rfl rfl (any_of HT_.out (by kernel_rfl)) (fun _ _ _ h => h) (Or.inl ⟨by rfl, ?_⟩) ?_ ?_
                                          rotate_left
                                          · intro w'
                                            go_simp
                                            with_reducible rfl
                                          rotate_left
                                          · simp only [Act.put, List.setIfInBounds_toArray, List.set_cons_zero, List.set_cons_succ, i64_w, i32_w]
                                            rfl
                                          refine pure_ (i := 1) (N := some 73) (v := ?_) (a' := ?_) #[true, true, false, false, false, false, false, false, false, false, false, false, false, false] rfl rfl (any_of HT_.out (by kernel_rfl)) (fun _ _ _ h => h) (Or.inl ⟨by rfl, ?_⟩) ?_ ?_
                                          rotate_left
                                          · intro w'
                                            go_simp
                                            with_reducible rfl
                                          rotate_left
                                          · simp only [Act.put, List.setIfInBounds_toArray, List.set_cons_zero, List.set_cons_succ, i64_w, i32_w]
                                            rfl
                                          refine pure_ (i := 2) (N := some 74) (v := ?_) (a' := ?_) #[true, true, true, false, false, false, false, false, false, false, false, false, false, false] rfl rfl (any_of HT_.out (by kernel_rfl)) (fun _ _ _ h => h) (Or.inl ⟨by rfl, ?_⟩) ?_ ?_
                                          rotate_left
                                          · intro w'
                                            go_simp
                                            with_reducible rfl
                                          rotate_left
                                          · simp only [Act.put, List.setIfInBounds_toArray, List.set_cons_zero, List.set_cons_succ, i64_w, i32_w]
                                            rfl
                                          refine pure_ (i := 3) (N := some 75) (v := ?_) (a' := ?_) #[true, true, true, true, false, false, false, false, false, false, false, false, false, false] rfl rfl (any_of HT_.out (by kernel_rfl)) (fun _ _ _ h => h) (Or.inl ⟨by rfl, ?_⟩) ?_ ?_
                                          rotate_left
                                          · intro w'
                                            go_simp
                                            with_reducible rfl
                                          rotate_left
                                          · simp only [Act.put, List.setIfInBounds_toArray, List.set_cons_zero, List.set_cons_succ, i64_w, i32_w]
                                            rfl
                                          refine pure_ (i := 4) (N := some 76) (v := ?_) (a' := ?_) #[true, true, true, true, true, false, false, false, false, false, false, false, false, false] rfl rfl (any_of HT_.out (by kernel_rfl)) (fun _ _ _ h => h) (Or.inl ⟨by rfl, ?_⟩) ?_ ?_
                                          rotate_left
                                          · intro w'
                                            go_simp
                                            with_reducible rfl
                                          rotate_left
                                          · simp only [Act.put, List.setIfInBounds_toArray, List.set_cons_zero, List.set_cons_succ, i64_w, i32_w]
                                            rfl
                                          refine pure_ (i := 6) (N := some 78) (v := ?_) (a' := ?_) #[true, true, true, true, true, false, true, false, false, false, false, false, false, false] rfl rfl (any_of HT_.out (by kernel_rfl)) (fun _ _ _ h => h) (Or.inl ⟨by rfl, ?_⟩) ?_ ?_
                                          rotate_left
                                          · intro w'
                                            go_simp
                                            with_reducible rfl
                                          rotate_left
                                          · simp only [Act.put, List.setIfInBounds_toArray, List.set_cons_zero, List.set_cons_succ, i64_w, i32_w]
                                            rfl
                                          refine pure_ (i := 7) (N := some 79) (v := ?_) (a' := ?_) #[true, true, true, true, true, false, true, true, false, false, false, false, false, false] rfl rfl (any_of HT_.out (by kernel_rfl)) (fun _ _ _ h => h) (Or.inl ⟨by rfl, ?_⟩) ?_ ?_
                                          rotate_left
                                          · intro w'
                                            go_simp
                                            with_reducible rfl
                                          rotate_left
                                          · simp only [Act.put, List.setIfInBounds_toArray, List.set_cons_zero, List.set_cons_succ, i64_w, i32_w]
                                            rfl
                                          refine pure_ (i := 8) (N := some 80) (v := ?_) (a' := ?_) #[true, true, true, true, true, false, true, true, true, false, false, false, false, false] rfl rfl (any_of HT_.out (by kernel_rfl)) (fun _ _ _ h => h) (Or.inl ⟨by rfl, ?_⟩) ?_ ?_
                                          rotate_left
                                          · intro w'
                                            go_simp
                                            with_reducible rfl
                                          rotate_left
                                          · simp only [Act.put, List.setIfInBounds_toArray, List.set_cons_zero, List.set_cons_succ, i64_w, i32_w]
                                            rfl
                                          refine take_ (i := 5) (N := some 77) (v := ?_) (a' := ?_) #[true, true, true, true, true, true, true, true, true, false, false, false, false, false] rfl rfl (take_ofW HT_.out HW_.out (by kernel_rfl)) (fun _ _ _ h => h) (Or.inl ⟨by rfl, ?_⟩) hHeld ?_ ?_
                                          rotate_left
                                          · rintro w' ⟨s0, s1, s2, s3⟩
                                            go_simp
                                            with_reducible rfl
                                          rotate_left
                                          · simp only [Act.put, List.setIfInBounds_toArray, List.set_cons_zero, List.set_cons_succ, i64_w, i32_w]
                                            rfl
                                          refine take_ (i := 9) (N := some 81) (v := ?_) (a' := ?_) #[true, true, true, true, true, true, true, true, true, true, false, false, false, false] rfl rfl (take_ofW HT_.out HW_.out (by kernel_rfl)) (fun _ _ _ h => h) (Or.inl ⟨by rfl, ?_⟩) hHeld ?_ ?_
                                          rotate_left
                                          · rintro w' ⟨s0, s1, s2, s3⟩
                                            go_simp
                                            with_reducible rfl
                                          rotate_left
                                          · simp only [Act.put, List.setIfInBounds_toArray, List.set_cons_zero, List.set_cons_succ, i64_w, i32_w]
                                            rfl
                                          refine one_ (i := 10) (N := some 82) #[true, true, true, true, true, true, true, true, true, true, true, false, false, false] rfl rfl (one_of HT_.out (by kernel_rfl)) (by decide) (fun K hK => ?_)
                                          refine value_ (w1 := ?_) (v := ?_) (by rfl) rfl ?_ ?_
                                          rotate_left 2
                                          · go_simp
                                            constructor
                                            · rfl
                                            · rfl
                                          refine hK.out _ _ ⟨(World.cell?_alloc_lt _ _ _ (World.block_lt_of_cell? _ _ (hHeld.1))).trans (hHeld.1), (World.cell?_alloc_lt _ _ _ (World.block_lt_of_cell? _ _ (hHeld.2.1))).trans (hHeld.2.1), (World.cell?_alloc_lt _ _ _ (World.block_lt_of_cell? _ _ (hHeld.2.2.1))).trans (hHeld.2.2.1), (World.cell?_alloc_lt _ _ _ (World.block_lt_of_cell? _ _ (hHeld.2.2.2))).trans (hHeld.2.2.2)⟩ (fun hHeld => ?_)
                                          clear hK K
                                          refine norm_ (a' := ?_) ?_ ?_
                                          rotate_left
                                          · show Act.put _ (some 82) _ = _
                                            simp only [Act.put, List.setIfInBounds_toArray, List.set_cons_zero, List.set_cons_succ, i64_w, i32_w]
                                            rfl
                                          refine last_ (i := 11) (N := some 83) #[true, true, true, true, true, true, true, true, true, true, true, true, false, false] rfl rfl (one_of HT_.out (by kernel_rfl)) (by decide) (fun K hK => ?_)
                                          refine Kd.R_append_step k31 (w0 := w) w.heap.size (by rfl) (.tmp 77) (.tmp 82) 24 31 (.agg #[(.string ⟨#[]⟩), (.int .i64 0), (.string ⟨#[]⟩)]) 40 rfl Try.underlying24 info31 rfl (by decide) (by omega) (.slice A171_0 (rd_L3 x8_4 (ji40)).length c171_0) (rd_L3 x8_4 (ji40)) (⟨(rd_T31 x5_2 x9_4).f0, (rd_T31 x5_2 x9_4).f1, (rd_T31 x5_2 x9_4).f2⟩ : S31) [.string ((rd_T31 x5_2 x9_4).f0), .int .i64 ((rd_T31 x5_2 x9_4).f1), .string ((rd_T31 x5_2 x9_4).f2)] (fun k_ => oki48 k_ ∨ ((fun k_ => some k_ ≠ (.slice (some ad172) x5_2.length co32 : Value).ownBlock)) k_ ∧ w46.heap.size ≤ k_) (fun _ => False) rfl rfl ?aP (fun _ hk => hk.elim) ?aF ?aO ?aB ?aS ?aL ?_
                                          (case aP => exact k31_mkM _ _ _ (⟨(rd_T31 x5_2 x9_4).f0, (rd_T31 x5_2 x9_4).f1, (rd_T31 x5_2 x9_4).f2⟩ : S31))
                                          (case aB => exact (by repeat (first | (with_reducible first | exact HB.out | apply below_alloc | apply pw_below_drewN | apply below_drew1) | exact HB.out)))
                                          (case aF => exact (fun k_ hk => .inr ⟨Kd.fresh' (Kd.R_lt (by (with_reducible repeat (first | apply Kd.R_alloc | apply Kd.R_drewN | apply Kd.R_drew)); exact HO_5.out)) k_ hk, hk⟩))
                                          (case aO => exact (by (with_reducible repeat (first | apply Kd.R_alloc | apply Kd.R_drewN | apply Kd.R_drew)); exact Kd.R_mono UU48.out (fun _ hk => .inl hk)))
                                          (case aS => exact (below_size (by repeat (first | (with_reducible first | exact HB.out | apply below_alloc | apply pw_below_drewN | apply below_drew1) | exact HB.out))))
                                          (case aL => have := LMc44.out; omega)
                                          intro v174 w49 ho hb hg hat
                                          rw [← Ny173.out] at ho
                                          have n0_ := Aside0.mk (Kd.R_grown2 (by (with_reducible repeat (first | apply Kd.R_alloc | apply Kd.R_drewN | apply Kd.R_drew)); exact HO_5.out) rfl hg (fun k_ e_ => (HL171_0.out.1 k_ e_).1))
                                          have n1_ := Aside0.mk (hb)
                                          have n2_ := Aside0.mk (Kd.H_grown (Kd.H_widen (by repeat (first | exact HH48.out | refine Kd.H_alloc ?_ _ | refine Kd.H_drewN ?_ _ | refine Kd.H_drew ?_))) hg (fun k_ e_ => .inl (UU48.out.1 k_ e_)))
                                          have n3_ := Aside0.mk (ho)
                                          clear HO_5
                                          clear HB
                                          clear HH48
                                          clear HO_8
                                          clear UU48
                                          clear HL171_0
                                          have HO_5 := n0_
                                          have HB := n1_
                                          have HH48 := n2_
                                          have HO175 := n3_
                                          clear n0_ n1_ n2_ n3_
                                          clear ho hb hg hat
                                          have p45 : 0 ≤ ((ji40) : Int) := of_decide_eq_true (by first | (with_reducible assumption) | assumption)
                                          have q45 : ((ji40) : Int) < ((x8_4.length : Int) : Int) := of_decide_eq_true (by first | (with_reducible assumption) | assumption)
                                          replace p45 := eq_true p45
                                          replace q45 := eq_true q45
                                          obtain ⟨Ao52, co52, eo52⟩ := Kd.R_slice HO175.out
                                          (first | subst eo52 | (injection eo52 with f1_ f2_ f3_; have f4_ := f1_.symm; have f5_ := f3_.symm; clear f1_ f2_ f3_; subst f4_; subst f5_))
                                          obtain ⟨_, _, hraw50, _, _, hcc50, _⟩ := Kd.H_raw HH48.out (of_decide_eq_true (by first | (with_reducible assumption) | assumption)) (by have h_ : ((ji40) : Int) < ((x8_4.length : Int) : Int) := of_decide_eq_true (by first | (with_reducible assumption) | assumption); first | exact h_ | (have e_ := (HN48.out); omega) | simpa using h_)
                                          obtain ⟨_, hfr50⟩ := Kd.H_at HH48.out (of_decide_eq_true (by first | (with_reducible assumption) | assumption)) (by have h_ : ((ji40) : Int) < ((x8_4.length : Int) : Int) := of_decide_eq_true (by first | (with_reducible assumption) | assumption); first | exact h_ | (have e_ := (HN48.out); omega) | simpa using h_)
                                          have hx50_0 := hcc50 0 _ rfl
                                          have hf50_0 := hfr50 0
                                          (try simp only [Nat.add_zero] at hx50_0 hf50_0)
                                          (try rw [show ((Kd.slice 31 k31)).sz = 1 from rfl, Nat.mul_one] at hx50_0)
                                          (try rw [show ((Kd.slice 31 k31)).sz = 1 from rfl, Nat.mul_one] at hf50_0)
                                          have HP50 := Kd.S_seg0 HH48.out (of_decide_eq_true (by first | (with_reducible assumption) | assumption)) (by have h_ : ((ji40) : Int) < ((x8_4.length : Int) : Int) := of_decide_eq_true (by first | (with_reducible assumption) | assumption); first | exact h_ | (have e_ := (HN48.out); omega) | simpa using h_) (seg := [.slice Ao52 y173.length co52]) (j := 0) (show 1 ≤ 1 from by decide) (x' := y173) (Kd.M_row HO175.out) (fun _ hk => hk)
                                          (try simp only [show ((Kd.slice 31 k31)).sz = 1 from rfl, Nat.mul_one, Nat.add_zero] at HP50)
                                          clear hcc50 hfr50
                                          have HS50 := HP50.1
                                          rw [← Ny176.out] at HS50
                                          have HQ50 := Aside0.mk HS50
                                          obtain ⟨_, hgg50⟩ := Kd.R_typed hraw50 go48 rfl
                                          have GG50_ := Aside0.mk hgg50
                                          clear HP50 HS50 hgg50
                                          refine hK.out _ _ ?_
                                          clear hK K
                                          refine norm_ (a' := ?_) ?_ ?_
                                          rotate_left
                                          · show Act.put _ (some 83) _ = _
                                            simp only [Act.put, List.setIfInBounds_toArray, List.set_cons_zero, List.set_cons_succ, i64_w, i32_w]
                                            rfl
                                          refine pure_ (i := 12) (N := some 84) (v := ?_) (a' := ?_) #[true, true, true, true, true, true, true, true, true, true, true, true, true, false] rfl rfl (any_of HT_.out (by kernel_rfl)) (fun _ _ _ h => h) (Or.inl ⟨by rfl, ?_⟩) ?_ ?_
                                          rotate_left
                                          · intro w'
                                            go_simp
                                            with_reducible rfl
                                          rotate_left
                                          · simp only [Act.put, List.setIfInBounds_toArray, List.set_cons_zero, List.set_cons_succ, i64_w, i32_w]
                                            rfl
                                          refine last_ (i := 13) (N := none) #[true, true, true, true, true, true, true, true, true, true, true, true, true, true] rfl rfl (one_of HT_.out (by kernel_rfl)) (by decide) (fun K hK => ?_)
                                          refine skip_ (w1 := ?_) (by rfl) rfl ?_ ?_
                                          rotate_left
                                          · go_simp
                                            rfl
                                          refine hK.out _ _ ?_
                                          clear hK K
                                          refine done_ (done_of HT_.out (by kernel_rfl)) ?_
                                          try go_wp2
                                          go_roundg k4
                                          case measure => have := HJ2.out; have := HK2.out; have := HK3.out; have := HK4.out; omega
                                          case rel => exact ⟨(y176), (wrap64 (x9_4 + 1)), (by first | rfl | (simp; done) | (simp [*]; done)), H', ⟨by have := HJ2.out; have := HK2.out; have := HK3.out; have := HK4.out; omega⟩, ⟨by (with_reducible repeat (first | apply Kd.R_alloc | apply Kd.R_drewN | apply Kd.R_drew)); exact Kd.R_mono (Kd.R_far (p := ⟨go48, ((ji40) : Int).toNat, none⟩) (Kd.R_types HO_5.out GG50_.out (by decide)) (fun _ hk => hk.2) (.slice Ao52 y173.length co52)) (fun _ hk => trivial)⟩, ⟨by (with_reducible repeat (first | apply Kd.S_alloc | apply Kd.S_drewN | apply Kd.S_drew)); exact HQ50.out⟩, ⟨by repeat (first | (with_reducible first | exact HB.out | apply below_alloc | apply pw_below_drewN | apply below_drew1 | refine below_set ?_ GB48.out) | exact HB.out)⟩⟩
                                        · rw [if_neg c44] at H
                                          exact absurd H (by simp)
                                      · rw [if_neg c43] at H
                                        exact absurd H (by simp)
                                    · rw [if_neg c42] at H
                                      exact absurd H (by simp)
                                  · rw [if_neg c41] at H
                                    exact absurd H (by simp)
                                · rw [if_neg c39] at H
                                  exact absurd H (by simp)
                              · rw [if_neg c38] at H
                                exact absurd H (by simp)
                          · rw [if_neg c35] at H
                            have c35b0 : decide (x9_4 < (x5_2.length : Int)) = false := decide_eq_false c35
                            clear c35
                            replace H := Option.bind_eq_some_iff.mp H
                            obtain ⟨⟨t177, t178, t179⟩, A530, H⟩ := H
                            replace H : (if t179 = 0 then (if t178 = true then (some false) else ((fascineref07_Same.f k4 t177 x5_2).bind fun t182 => (some t182))) else (some false)) = some r := H
                            have A53 := Aside0.mk A530
                            clear A530
                            by_cases c54 : t179 = 0
                            · rw [if_pos c54] at H
                              have c54b0 : (t179 == 0) = true := beq_iff_eq.mpr c54
                              have c54b1 : (t179 != 0) = false := bne_eq_false_iff_eq.mpr c54
                              clear c54
                              by_cases c55 : t178 = true
                              · subst c55
                                have H1 : (some false) = some r := by rw [if_pos rfl] at H; exact H
                                clear H
                                have H := H1
                                clear H1
                                exact absurd (HR_.out.symm.trans (Option.some.inj H).symm) (by decide)
                              · replace c55 := Bool.eq_false_iff.mpr c55
                                subst c55
                                have H1 : ((fascineref07_Same.f k4 t177 x5_2).bind fun t182 => (some t182)) = some r := by rw [if_neg (show ¬ (false = true) by decide)] at H; exact H
                                clear H
                                have H := H1
                                clear H1
                                replace H := Option.bind_eq_some_iff.mp H
                                obtain ⟨t182, A560, H⟩ := H
                                replace H : (some t182) = some r := H
                                have A56 := Aside0.mk A560
                                clear A560
                                obtain rfl := Option.some.inj H
                                obtain ⟨Ao57, co57, eo57⟩ := Kd.S_slice HO_8.out
                                subst eo57
                                go_wp2_with (first | ((with_reducible refine gate_callee (f := 8) rfl ?_); refine goesL_ (some 89) rfl rfl Try.func8 (by kernel_rfl) rfl #[.slice Ao57 x8_4.length co57, .int .i64 (x5_2.length : Int)] rfl (by (try simp only [List.map_toArray, List.map_cons, List.map_nil]); first | done | rfl | (simp only [List.length_drop, List.length_take]; rfl)) ?_; (with_reducible refine (merge_Merge.calls _ _ x8_4 (x5_2.length : Int) t177 false t179 _ ?side1 ?side2 A53.out).mono ?_); (case side1 => repeat (first | exact (Kd.S_reads' HO_8.out).2.2 | (with_reducible refine Kd.C_alloc ?_ _) | (with_reducible refine Kd.C_drewN ?_ _) | (with_reducible refine Kd.C_drew ?_))); (case side2 => exact (Kd.S_reads' HO_8.out).2.1); rintro e w58 ⟨v180, rfl, ho0, hb⟩; refine ⟨_, rfl, ?_⟩; have n0_ := Aside0.mk (Kd.R_elder' (by (with_reducible repeat (first | apply Kd.R_alloc | apply Kd.R_drewN | apply Kd.R_drew)); exact HO_5.out) (Kd.R_base ho0) hb); have n1_ := Aside0.mk (Kd.S_elder' (by (with_reducible repeat (first | apply Kd.S_alloc | apply Kd.S_drewN | apply Kd.S_drew)); exact HO_8.out) (Kd.R_base ho0) hb); have n2_ := Aside0.mk (Kd.R_lower (Kd.R_new' ho0 (Kd.R_lt (by (with_reducible repeat (first | apply Kd.R_alloc | apply Kd.R_drewN | apply Kd.R_drew)); exact HO_5.out))) (below_size (by repeat (first | (with_reducible first | exact HB.out | apply below_alloc | apply pw_below_drewN | apply below_drew1) | exact HB.out)))); have n3_ := Aside0.mk (below_step (by repeat (first | (with_reducible first | exact HB.out | apply below_alloc | apply pw_below_drewN | apply below_drew1) | exact HB.out)) hb); clear HO_5; clear HO_8; clear HB; have HO_5 := n0_; have HO_8 := n1_; have HO181 := n2_; have HB := n3_; clear n0_ n1_ n2_ n3_; (try clear hb); (try clear hb2); (try clear hk); (try clear hi); (try clear ho0); obtain ⟨Ao59, co59, eo59⟩ := Kd.R_slice HO181.out; subst eo59) | (go_at_call 11; (with_reducible refine (fascineref07_Same.calls k4 _ _ t177 _ _ x5_2 t182 _ ?side1 ?side2 ?side3 ?side4 A56.out).mono ?_); (case side1 => repeat (first | exact (Kd.R_reads' HO181.out).2.2 | (with_reducible refine Kd.C_alloc ?_ _) | (with_reducible refine Kd.C_drewN ?_ _) | (with_reducible refine Kd.C_drew ?_))); (case side2 => exact (Kd.R_reads' HO181.out).2.1); (case side3 => repeat (first | exact (Kd.R_reads' HO_5.out).2.2 | (with_reducible refine Kd.C_alloc ?_ _) | (with_reducible refine Kd.C_drewN ?_ _) | (with_reducible refine Kd.C_drew ?_))); (case side4 => exact (Kd.R_reads' HO_5.out).2.1); rintro e w' ⟨rfl, ⟨nd, rfl⟩⟩))
                                go_ret
                                exact ⟨by first | rfl | (simp [errW_none, errW_some] <;> rfl) | (simp [*, errW_none, errW_some] <;> rfl), by repeat (first | (with_reducible first | exact HB.out | apply below_alloc | apply pw_below_drewN | apply below_drew1) | exact HB.out)⟩
                            · rw [if_neg c54] at H
                              have c54b0 : (t179 == 0) = false := beq_eq_false_iff_ne.mpr c54
                              have c54b1 : (t179 != 0) = true := bne_iff_ne.mpr c54
                              exact absurd (HR_.out.symm.trans (Option.some.inj H).symm) (by decide)
                    · rw [if_neg c31] at H
                      exact absurd H (by simp)

end Go.Proofs.Ytaediecdpgndjaa.PMergeSplits
