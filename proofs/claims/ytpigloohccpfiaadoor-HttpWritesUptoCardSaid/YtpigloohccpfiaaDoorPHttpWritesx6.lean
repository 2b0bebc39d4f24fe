-- WRITTEN BY A PROGRAM OF THIS SESSION (wip/patch_print.py: the kit's printer with rules of this session's own); Lean checks it.
import Derived.Test.YtpigloohccpfiaaDoorPHttpWritesx0
import Derived.Test.YtpigloohccpfiaaDoorPHttpWritesx1
import Derived.Test.YtpigloohccpfiaaDoorPHttpWritesx4
import Derived.Test.YtpigloohccpfiaaDoorPHttpWritesx5
namespace Go.Proofs.YtpigloohccpfiaaDoor.PHttpWrites
open Go.RowKit Go.Proofs.YtpigloohccpfiaaDoorW.PrintWords Go.Proofs.YtpigloohccpfiaaDoorW.PrintLast Go.Proofs.YtpigloohccpfiaaDoorW.PrintMore
open Go.Proofs.YtpigloohccpfiaaDoor.G
attribute [local go_sem] max2_int min2_int max_two min_two max_three min_three max_four min_four   -- for this text's walks alone
set_option linter.unusedVariables false
set_option linter.unusedSimpArgs false

/-! ### http_Answer: function 16 -/
mutual
def http_Answer.j0 : Nat → ByteArray → ByteArray → List ByteArray → Bool → Option (Int × ByteArray × Int)
  | 0, _, _, _, _ => none
  | k + 1, x0, x5, x8, x45 => if x45 = true then (some (0, (⟨#[]⟩ : ByteArray), 0)) else (if 0 < (x8.length : Int) then (if 9 ≤ 12 then (if 12 ≤ ((rdOf ByteArray.empty x8 0).size : Int) then ((strconv_Atoi.f ((rdOf ByteArray.empty x8 0).extract 9 12)).bind fun bt198 => (if 2 < (x8.length : Int) then ((strings_TrimPrefix.f (rdOf ByteArray.empty x8 2) (⟨#[67, 111, 110, 116, 101, 110, 116, 45, 76, 101, 110, 103, 116, 104, 58, 32]⟩ : ByteArray)).bind fun t201 => ((strconv_Atoi.f t201).bind fun bt202 => (if bt198.2.isNone = true then (if bt202.2.isNone = true then (if bt202.1 < 0 then (http_Answer.j1 k x0 x8 bt198.1 bt202.1 (wrap64 ((x5.size : Int) + 4)) true) else (http_Answer.j1 k x0 x8 bt198.1 bt202.1 (wrap64 ((x5.size : Int) + 4)) (decide (bt202.1 > (wrap64 ((x0.size : Int) - (wrap64 ((x5.size : Int) + 4)))))))) else (http_Answer.j1 k x0 x8 bt198.1 bt202.1 (wrap64 ((x5.size : Int) + 4)) true)) else (http_Answer.j1 k x0 x8 bt198.1 bt202.1 (wrap64 ((x5.size : Int) + 4)) true)))) else (none))) else (none)) else (none)) else (none))
def http_Answer.j1 : Nat → ByteArray → List ByteArray → Int → Int → Int → Bool → Option (Int × ByteArray × Int)
  | 0, _, _, _, _, _, _ => none
  | k + 1, x0, x8, x9, x11, x13, x82 => if x82 = true then (some (0, (⟨#[]⟩ : ByteArray), 0)) else (if 0 ≤ x13 then (if x13 ≤ (wrap64 (x13 + x11)) then (if (wrap64 (x13 + x11)) ≤ (x0.size : Int) then ((http_Write.f k x9 (x0.extract (x13 : Int).toNat ((wrap64 (x13 + x11)) : Int).toNat) ((x8.length : Int) == 4)).bind fun bt206 => (if 0 ≤ (wrap64 (x13 + x11)) then (if bt206.1.toList = (x0.extract 0 ((wrap64 (x13 + x11)) : Int).toNat).toList then (some (x9, x0.extract (x13 : Int).toNat ((wrap64 (x13 + x11)) : Int).toNat, wrap64 (x13 + x11))) else (some (0, (⟨#[]⟩ : ByteArray), 0))) else (none))) else (none)) else (none)) else (none))
end
def http_Answer.f (k : Nat) (a0 : ByteArray) : Option (Int × ByteArray × Int) := (strings_Cut.f a0 (⟨#[13, 10, 13, 10]⟩ : ByteArray)).bind fun bt188 => ((strings_Split.f bt188.1 (⟨#[13, 10]⟩ : ByteArray)).bind fun t191 => (if bt188.2.2 = true then (if (t191.length : Int) < 3 then (http_Answer.j0 k a0 bt188.1 t191 true) else (if 0 < (t191.length : Int) then ((strings_HasPrefix.f (rdOf ByteArray.empty t191 0) (⟨#[72, 84, 84, 80, 47, 49, 46, 49, 32]⟩ : ByteArray)).bind fun t195 => (if t195 = true then (http_Answer.j0 k a0 bt188.1 t191 (decide (((rdOf ByteArray.empty t191 0).size : Int) < 13))) else (http_Answer.j0 k a0 bt188.1 t191 true))) else (none))) else (http_Answer.j0 k a0 bt188.1 t191 true)))
theorem http_Answer.mono_l : ∀ k, (∀ y0 y1 y2 y3, LeO (http_Answer.j0 k y0 y1 y2 y3) (http_Answer.j0 (k + 1) y0 y1 y2 y3)) ∧ (∀ y0 y1 y2 y3 y4 y5, LeO (http_Answer.j1 k y0 y1 y2 y3 y4 y5) (http_Answer.j1 (k + 1) y0 y1 y2 y3 y4 y5))
  | 0 => ⟨fun _ _ _ _ r h => by simp [http_Answer.j0] at h, fun _ _ _ _ _ _ r h => by simp [http_Answer.j1] at h⟩
  | k + 1 => by
    obtain ⟨ih0, ih1⟩ := http_Answer.mono_l k
    refine ⟨?_, ?_⟩
    · intro y0 y1 y2 y3
      unfold http_Answer.j0
      repeat' first
      | (with_reducible exact ih0 _ _ _ _)
      | (with_reducible exact ih1 _ _ _ _ _ _)
      | (with_reducible exact http_Write.mono _ _ _ _)
      | (with_reducible exact LeO.refl _)
      | (with_reducible exact LeO.none _)
      | (with_reducible refine LeO.ite ?_ ?_)
      | (with_reducible refine LeO.bind ?_ (fun _ => ?_))
      | exact ih0 _ _ _ _
      | exact ih1 _ _ _ _ _ _
      | exact http_Write.mono _ _ _ _
      | exact LeO.none _
      | refine LeO.ite ?_ ?_
      | refine LeO.bind ?_ (fun _ => ?_)
    · intro y0 y1 y2 y3 y4 y5
      unfold http_Answer.j1
      repeat' first
      | (with_reducible exact ih0 _ _ _ _)
      | (with_reducible exact ih1 _ _ _ _ _ _)
      | (with_reducible exact http_Write.mono _ _ _ _)
      | (with_reducible exact LeO.refl _)
      | (with_reducible exact LeO.none _)
      | (with_reducible refine LeO.ite ?_ ?_)
      | (with_reducible refine LeO.bind ?_ (fun _ => ?_))
      | exact ih0 _ _ _ _
      | exact ih1 _ _ _ _ _ _
      | exact http_Write.mono _ _ _ _
      | exact LeO.none _
      | refine LeO.ite ?_ ?_
      | refine LeO.bind ?_ (fun _ => ?_)
theorem http_Answer.mono : ∀ a0 k, LeO (http_Answer.f k a0) (http_Answer.f (k + 1) a0) := by
  intro a0 k
  obtain ⟨ih0, ih1⟩ := http_Answer.mono_l k
  unfold http_Answer.f
  repeat' first
      | (with_reducible exact ih0 _ _ _ _)
      | (with_reducible exact ih1 _ _ _ _ _ _)
      | (with_reducible exact http_Write.mono _ _ _ _)
      | (with_reducible exact LeO.refl _)
      | (with_reducible exact LeO.none _)
      | (with_reducible refine LeO.ite ?_ ?_)
      | (with_reducible refine LeO.bind ?_ (fun _ => ?_))
      | exact ih0 _ _ _ _
      | exact ih1 _ _ _ _ _ _
      | exact http_Write.mono _ _ _ _
      | exact LeO.none _
      | refine LeO.ite ?_ ?_
      | refine LeO.bind ?_ (fun _ => ?_)
set_option maxHeartbeats 8000000 in
set_option maxRecDepth 100000 in
theorem http_Answer.calls (k : Nat) (a0 : ByteArray) (r1 : Int) (r2 : ByteArray) (r3 : Int) (w : World) (hT : tabs w) (h : http_Answer.f k a0 = some (r1, r2, r3)) :
    Calls Tryd.prog 16 #[.string a0] w fun e w' => e = .returned (.tuple #[.int .i64 r1, .string r2, .int .i64 r3]) ∧ Below w.heap.size w w' := by
  have hu59 := Tryd.underlying59
  have HT := Aside0.mk hT
  clear hT
  have HB := Aside0.mk (Below.refl w.heap.size w)
  have H : ((strings_Cut.f a0 (⟨#[13, 10, 13, 10]⟩ : ByteArray)).bind fun bt188 => ((strings_Split.f bt188.1 (⟨#[13, 10]⟩ : ByteArray)).bind fun t191 => (if bt188.2.2 = true then (if (t191.length : Int) < 3 then (http_Answer.j0 k a0 bt188.1 t191 true) else (if 0 < (t191.length : Int) then ((strings_HasPrefix.f (rdOf ByteArray.empty t191 0) (⟨#[72, 84, 84, 80, 47, 49, 46, 49, 32]⟩ : ByteArray)).bind fun t195 => (if t195 = true then (http_Answer.j0 k a0 bt188.1 t191 (decide (((rdOf ByteArray.empty t191 0).size : Int) < 13))) else (http_Answer.j0 k a0 bt188.1 t191 true))) else (none))) else (http_Answer.j0 k a0 bt188.1 t191 true)))) = some (r1, r2, r3) := h
  clear h
  replace H := Option.bind_eq_some_iff.mp H
  obtain ⟨⟨t188, t189, t190⟩, A20, H⟩ := H
  replace H : ((strings_Split.f t188 (⟨#[13, 10]⟩ : ByteArray)).bind fun t191 => (if t190 = true then (if (t191.length : Int) < 3 then (http_Answer.j0 k a0 t188 t191 true) else (if 0 < (t191.length : Int) then ((strings_HasPrefix.f (rdOf ByteArray.empty t191 0) (⟨#[72, 84, 84, 80, 47, 49, 46, 49, 32]⟩ : ByteArray)).bind fun t195 => (if t195 = true then (http_Answer.j0 k a0 t188 t191 (decide (((rdOf ByteArray.empty t191 0).size : Int) < 13))) else (http_Answer.j0 k a0 t188 t191 true))) else (none))) else (http_Answer.j0 k a0 t188 t191 true))) = some (r1, r2, r3) := H
  have A2 := Aside0.mk A20
  clear A20
  replace H := Option.bind_eq_some_iff.mp H
  obtain ⟨t191, A30, H⟩ := H
  replace H : (if t190 = true then (if (t191.length : Int) < 3 then (http_Answer.j0 k a0 t188 t191 true) else (if 0 < (t191.length : Int) then ((strings_HasPrefix.f (rdOf ByteArray.empty t191 0) (⟨#[72, 84, 84, 80, 47, 49, 46, 49, 32]⟩ : ByteArray)).bind fun t195 => (if t195 = true then (http_Answer.j0 k a0 t188 t191 (decide (((rdOf ByteArray.empty t191 0).size : Int) < 13))) else (http_Answer.j0 k a0 t188 t191 true))) else (none))) else (http_Answer.j0 k a0 t188 t191 true)) = some (r1, r2, r3) := H
  have A3 := Aside0.mk A30
  clear A30
  have HC4 := Aside0.mk H
  clear H
  go_enter Tryd.func16, Tryd.ntmps16
  go_upto_region 3 with (first | ((with_reducible refine gate_callee (f := 31) rfl ?_); refine goesL_ (some 19) rfl rfl Tryd.func31 (by kernel_rfl) rfl #[.string a0, .string (⟨#[13, 10, 13, 10]⟩ : ByteArray)] rfl (by (try simp only [List.map_toArray, List.map_cons, List.map_nil]); first | done | rfl | (simp only [List.length_drop, List.length_take]; rfl)) ?_; (with_reducible refine (strings_Cut.calls a0 (⟨#[13, 10, 13, 10]⟩ : ByteArray) t188 t189 t190 _ ?side1 A2.out).mono ?_); (case side1 => first | exact HT.out | exact tabs_below HT.out (by repeat (first | (with_reducible first | exact HB.out | apply below_alloc | apply pw_below_drewN | apply below_drew1) | exact HB.out))); rintro e w' ⟨rfl, ⟨nd, rfl⟩⟩; refine ⟨_, rfl, ?_⟩) | ((with_reducible refine gate_callee (f := 32) rfl ?_); refine goesL_ (some 24) rfl rfl Tryd.func32 (by kernel_rfl) rfl #[.string t188, .string (⟨#[13, 10]⟩ : ByteArray)] rfl (by (try simp only [List.map_toArray, List.map_cons, List.map_nil]); first | done | rfl | (simp only [List.length_drop, List.length_take]; rfl)) ?_; (with_reducible refine (strings_Split.calls t188 (⟨#[13, 10]⟩ : ByteArray) t191 _ ?side1 A3.out).mono ?_); (case side1 => first | exact HT.out | exact tabs_below HT.out (by repeat (first | (with_reducible first | exact HB.out | apply below_alloc | apply pw_below_drewN | apply below_drew1) | exact HB.out))); rintro e w5 ⟨v192, rfl, ho0, hb⟩; refine ⟨_, rfl, ?_⟩; have n0_ := Aside0.mk (Kd.R_lower ho0 (below_size (by repeat (first | (with_reducible first | exact HB.out | apply below_alloc | apply pw_below_drewN | apply below_drew1) | exact HB.out)))); have n1_ := Aside0.mk (below_step (by repeat (first | (with_reducible first | exact HB.out | apply below_alloc | apply pw_below_drewN | apply below_drew1) | exact HB.out)) hb); clear HB; have HO193 := n0_; have HB := n1_; clear n0_ n1_; (try clear hb); (try clear hb2); (try clear hk); (try clear hi); (try clear ho0)))
  (try simp only [Act.put, List.setIfInBounds_toArray, List.set_cons_zero, List.set_cons_succ])
  go_cut [45] (fun v45 wc => ∃ (kq : Nat) (x45_3 : Bool), v45 = .bool x45_3 ∧ Aside0 (http_Answer.j0 kq a0 t188 t191 x45_3 = some (r1, r2, r3)) ∧ Aside0 (kq ≤ k) ∧ Aside0 (Kd.R Kd.string 9 wc w.heap.size (fun _ => True) v192 t191) ∧ Aside0 (Below w.heap.size w wc))
  case first =>
    have H := HC4.out
    clear HC4
    by_cases c6 : t190 = true
    · subst c6
      have H1 : (if (t191.length : Int) < 3 then (http_Answer.j0 k a0 t188 t191 true) else (if 0 < (t191.length : Int) then ((strings_HasPrefix.f (rdOf ByteArray.empty t191 0) (⟨#[72, 84, 84, 80, 47, 49, 46, 49, 32]⟩ : ByteArray)).bind fun t195 => (if t195 = true then (http_Answer.j0 k a0 t188 t191 (decide (((rdOf ByteArray.empty t191 0).size : Int) < 13))) else (http_Answer.j0 k a0 t188 t191 true))) else (none))) = some (r1, r2, r3) := by rw [if_pos rfl] at H; exact H
      clear H
      have H := H1
      clear H1
      by_cases c7 : (t191.length : Int) < 3
      · rw [if_pos c7] at H
        have c7b0 : decide ((t191.length : Int) < 3) = true := decide_eq_true c7
        have c7b1 : decide (t191.length < 3) = true := decide_eq_true (by omega)
        clear c7
        (first | rw [c7b0] | (simp only [i64_w, i32_w]; rw [c7b0]) | skip)
        have H' := Aside0.mk H
        clear H
        obtain ⟨Ao8, co8, eo8⟩ := Kd.R_slice HO193.out
        subst eo8
        go_wp2
        go_meet
        case rel => exact ⟨_, (true), (by first | rfl | (simp; done) | (simp [*]; done)), H', ⟨by first | omega | exact Nat.le_refl _⟩, ⟨by (with_reducible repeat (first | apply Kd.R_alloc | apply Kd.R_drewN | apply Kd.R_drew)); exact HO193.out⟩, ⟨by repeat (first | (with_reducible first | exact HB.out | apply below_alloc | apply pw_below_drewN | apply below_drew1) | exact HB.out)⟩⟩
      · rw [if_neg c7] at H
        have c7b0 : decide ((t191.length : Int) < 3) = false := decide_eq_false c7
        have c7b1 : decide (t191.length < 3) = false := decide_eq_false (by omega)
        clear c7
        (first | rw [c7b0] | (simp only [i64_w, i32_w]; rw [c7b0]) | skip)
        by_cases c9 : 0 < (t191.length : Int)
        · rw [if_pos c9] at H
          have c9b0 : decide (0 < (t191.length : Int)) = true := decide_eq_true c9
          have c9b1 : decide (0 < t191.length) = true := decide_eq_true (by omega)
          clear c9
          replace H := Option.bind_eq_some_iff.mp H
          obtain ⟨t195, A100, H⟩ := H
          replace H : (if t195 = true then (http_Answer.j0 k a0 t188 t191 (decide (((rdOf ByteArray.empty t191 0).size : Int) < 13))) else (http_Answer.j0 k a0 t188 t191 true)) = some (r1, r2, r3) := H
          have A10 := Aside0.mk A100
          clear A100
          by_cases c11 : t195 = true
          · subst c11
            have H1 : (http_Answer.j0 k a0 t188 t191 (decide (((rdOf ByteArray.empty t191 0).size : Int) < 13))) = some (r1, r2, r3) := by rw [if_pos rfl] at H; exact H
            clear H
            have H := H1
            clear H1
            have H' := Aside0.mk H
            clear H
            obtain ⟨Ao12, co12, eo12⟩ := Kd.R_slice HO193.out
            subst eo12
            have p194 : 0 ≤ (0 : Int) := (by omega)
            have q194 : 0 < (t191.length : Int) := of_decide_eq_true (by first | (with_reducible assumption) | assumption)
            obtain ⟨ad194, e194, hx194_0⟩ := Kd.at_string (Kd.R_reads' HO193.out).2.2 0 p194 q194
            cases e194
            have qi194 : (0 < t191.length) = True := eq_true (by omega)
            (try rw [show ((0 : Int)).toNat = 0 from rfl] at hx194_0)
            (try rw [Addr.add_zero'] at hx194_0)
            replace p194 := eq_true p194
            replace q194 := eq_true q194
            go_wp2_with (first | (go_at_call 33; (with_reducible refine (strings_HasPrefix.calls (rdOf ByteArray.empty t191 0) (⟨#[72, 84, 84, 80, 47, 49, 46, 49, 32]⟩ : ByteArray) true _ A10.out).mono ?_); rintro e w' ⟨rfl, ⟨nd, rfl⟩⟩; have p196 : 0 ≤ (0 : Int) := (by omega); have q196 : 0 < (t191.length : Int) := of_decide_eq_true (by first | (with_reducible assumption) | assumption); obtain ⟨ad196, e196, hx196_0⟩ := Kd.at_string (Kd.R_reads' HO193.out).2.2 0 p196 q196; obtain rfl : ad194 = ad196 := (by injection e196); have qi196 : (0 < t191.length) = True := eq_true (by omega); (try rw [show ((0 : Int)).toNat = 0 from rfl] at hx196_0); (try rw [Addr.add_zero'] at hx196_0); replace p196 := eq_true p196; replace q196 := eq_true q196))
            go_meet
            case rel => exact ⟨_, (decide (((rdOf ByteArray.empty t191 0).size : Int) < 13)), (by first | rfl | (simp; done) | (simp [*]; done)), H', ⟨by first | omega | exact Nat.le_refl _⟩, ⟨by (with_reducible repeat (first | apply Kd.R_alloc | apply Kd.R_drewN | apply Kd.R_drew)); exact HO193.out⟩, ⟨by repeat (first | (with_reducible first | exact HB.out | apply below_alloc | apply pw_below_drewN | apply below_drew1) | exact HB.out)⟩⟩
          · replace c11 := Bool.eq_false_iff.mpr c11
            subst c11
            have H1 : (http_Answer.j0 k a0 t188 t191 true) = some (r1, r2, r3) := by rw [if_neg (show ¬ (false = true) by decide)] at H; exact H
            clear H
            have H := H1
            clear H1
            have H' := Aside0.mk H
            clear H
            obtain ⟨Ao13, co13, eo13⟩ := Kd.R_slice HO193.out
            subst eo13
            have p194 : 0 ≤ (0 : Int) := (by omega)
            have q194 : 0 < (t191.length : Int) := of_decide_eq_true (by first | (with_reducible assumption) | assumption)
            obtain ⟨ad194, e194, hx194_0⟩ := Kd.at_string (Kd.R_reads' HO193.out).2.2 0 p194 q194
            cases e194
            have qi194 : (0 < t191.length) = True := eq_true (by omega)
            (try rw [show ((0 : Int)).toNat = 0 from rfl] at hx194_0)
            (try rw [Addr.add_zero'] at hx194_0)
            replace p194 := eq_true p194
            replace q194 := eq_true q194
            go_wp2_with (first | (go_at_call 33; (with_reducible refine (strings_HasPrefix.calls (rdOf ByteArray.empty t191 0) (⟨#[72, 84, 84, 80, 47, 49, 46, 49, 32]⟩ : ByteArray) false _ A10.out).mono ?_); rintro e w' ⟨rfl, ⟨nd, rfl⟩⟩))
            go_meet
            case rel => exact ⟨_, (true), (by first | rfl | (simp; done) | (simp [*]; done)), H', ⟨by first | omega | exact Nat.le_refl _⟩, ⟨by (with_reducible repeat (first | apply Kd.R_alloc | apply Kd.R_drewN | apply Kd.R_drew)); exact HO193.out⟩, ⟨by repeat (first | (with_reducible first | exact HB.out | apply below_alloc | apply pw_below_drewN | apply below_drew1) | exact HB.out)⟩⟩
        · rw [if_neg c9] at H
          exact absurd H (by simp)
    · replace c6 := Bool.eq_false_iff.mpr c6
      subst c6
      have H1 : (http_Answer.j0 k a0 t188 t191 true) = some (r1, r2, r3) := by rw [if_neg (show ¬ (false = true) by decide)] at H; exact H
      clear H
      have H := H1
      clear H1
      have H' := Aside0.mk H
      clear H
      go_wp2
      go_meet
      case rel => exact ⟨_, (true), (by first | rfl | (simp; done) | (simp [*]; done)), H', ⟨by first | omega | exact Nat.le_refl _⟩, ⟨by (with_reducible repeat (first | apply Kd.R_alloc | apply Kd.R_drewN | apply Kd.R_drew)); exact HO193.out⟩, ⟨by repeat (first | (with_reducible first | exact HB.out | apply below_alloc | apply pw_below_drewN | apply below_drew1) | exact HB.out)⟩⟩
  case rest =>
    clear HC4
    try clear c1
    try clear p1
    try clear q1
    try clear hx1
    try clear qi1
    try clear p2
    try clear c3
    try clear c6
    try clear c7
    try clear c7b0
    try clear c7b1
    try clear c9
    try clear c9b0
    try clear c9b1
    try clear c11
    try clear hx194_0
    try clear hx196_0
    try clear p194
    try clear p196
    try clear q194
    try clear q196
    obtain ⟨kq, x45_3, rfl, HA, HJ3, HO_8, HB⟩ := hcut
    cases kq with
    | zero => exact absurd HA.out (by simp [http_Answer.j0])
    | succ kj3 =>
      have H := HA.out
      clear HA
      simp only [http_Answer.j0] at H
      by_cases c14 : x45_3 = true
      · subst c14
        have H1 : (some (0, (⟨#[]⟩ : ByteArray), 0)) = some (r1, r2, r3) := by rw [if_pos rfl] at H; exact H
        clear H
        have H := H1
        clear H1
        simp only [Option.some.injEq, Prod.mk.injEq] at H
        obtain ⟨rfl, rfl, rfl⟩ := H
        go_wp2
        go_ret3
        exact ⟨by first | rfl | (simp [errW_none, errW_some] <;> rfl) | (simp [*, errW_none, errW_some] <;> rfl), by repeat (first | (with_reducible first | exact HB.out | apply below_alloc | apply pw_below_drewN | apply below_drew1) | exact HB.out)⟩
      · replace c14 := Bool.eq_false_iff.mpr c14
        subst c14
        have H1 : (if 0 < (t191.length : Int) then (if 9 ≤ 12 then (if 12 ≤ ((rdOf ByteArray.empty t191 0).size : Int) then ((strconv_Atoi.f ((rdOf ByteArray.empty t191 0).extract 9 12)).bind fun bt198 => (if 2 < (t191.length : Int) then ((strings_TrimPrefix.f (rdOf ByteArray.empty t191 2) (⟨#[67, 111, 110, 116, 101, 110, 116, 45, 76, 101, 110, 103, 116, 104, 58, 32]⟩ : ByteArray)).bind fun t201 => ((strconv_Atoi.f t201).bind fun bt202 => (if bt198.2.isNone = true then (if bt202.2.isNone = true then (if bt202.1 < 0 then (http_Answer.j1 kj3 a0 t191 bt198.1 bt202.1 (wrap64 ((t188.size : Int) + 4)) true) else (http_Answer.j1 kj3 a0 t191 bt198.1 bt202.1 (wrap64 ((t188.size : Int) + 4)) (decide (bt202.1 > (wrap64 ((a0.size : Int) - (wrap64 ((t188.size : Int) + 4)))))))) else (http_Answer.j1 kj3 a0 t191 bt198.1 bt202.1 (wrap64 ((t188.size : Int) + 4)) true)) else (http_Answer.j1 kj3 a0 t191 bt198.1 bt202.1 (wrap64 ((t188.size : Int) + 4)) true)))) else (none))) else (none)) else (none)) else (none)) = some (r1, r2, r3) := by rw [if_neg (show ¬ (false = true) by decide)] at H; exact H
        clear H
        have H := H1
        clear H1
        by_cases c15 : 0 < (t191.length : Int)
        · rw [if_pos c15] at H
          have c15b0 : decide (0 < (t191.length : Int)) = true := decide_eq_true c15
          have c15b1 : decide (0 < t191.length) = true := decide_eq_true (by omega)
          clear c15
          by_cases c16 : 9 ≤ 12
          · rw [if_pos c16] at H
            have c16b0 := eq_true c16
            have c16b1 : decide (9 ≤ 12) = true := decide_eq_true c16
            clear c16
            by_cases c17 : 12 ≤ ((rdOf ByteArray.empty t191 0).size : Int)
            · rw [if_pos c17] at H
              have c17b0 := eq_true c17
              have c17b1 : decide (12 ≤ ((rdOf ByteArray.empty t191 0).size : Int)) = true := decide_eq_true c17
              clear c17
              replace H := Option.bind_eq_some_iff.mp H
              obtain ⟨⟨t198, t199⟩, A180, H⟩ := H
              replace H : (if 2 < (t191.length : Int) then ((strings_TrimPrefix.f (rdOf ByteArray.empty t191 2) (⟨#[67, 111, 110, 116, 101, 110, 116, 45, 76, 101, 110, 103, 116, 104, 58, 32]⟩ : ByteArray)).bind fun t201 => ((strconv_Atoi.f t201).bind fun bt202 => (if t199.isNone = true then (if bt202.2.isNone = true then (if bt202.1 < 0 then (http_Answer.j1 kj3 a0 t191 t198 bt202.1 (wrap64 ((t188.size : Int) + 4)) true) else (http_Answer.j1 kj3 a0 t191 t198 bt202.1 (wrap64 ((t188.size : Int) + 4)) (decide (bt202.1 > (wrap64 ((a0.size : Int) - (wrap64 ((t188.size : Int) + 4)))))))) else (http_Answer.j1 kj3 a0 t191 t198 bt202.1 (wrap64 ((t188.size : Int) + 4)) true)) else (http_Answer.j1 kj3 a0 t191 t198 bt202.1 (wrap64 ((t188.size : Int) + 4)) true)))) else (none)) = some (r1, r2, r3) := H
              have A18 := Aside0.mk A180
              clear A180
              by_cases c19 : 2 < (t191.length : Int)
              · rw [if_pos c19] at H
                have c19b0 : decide (2 < (t191.length : Int)) = true := decide_eq_true c19
                have c19b1 : decide (2 < t191.length) = true := decide_eq_true (by omega)
                clear c19
                replace H := Option.bind_eq_some_iff.mp H
                obtain ⟨t201, A200, H⟩ := H
                replace H : ((strconv_Atoi.f t201).bind fun bt202 => (if t199.isNone = true then (if bt202.2.isNone = true then (if bt202.1 < 0 then (http_Answer.j1 kj3 a0 t191 t198 bt202.1 (wrap64 ((t188.size : Int) + 4)) true) else (http_Answer.j1 kj3 a0 t191 t198 bt202.1 (wrap64 ((t188.size : Int) + 4)) (decide (bt202.1 > (wrap64 ((a0.size : Int) - (wrap64 ((t188.size : Int) + 4)))))))) else (http_Answer.j1 kj3 a0 t191 t198 bt202.1 (wrap64 ((t188.size : Int) + 4)) true)) else (http_Answer.j1 kj3 a0 t191 t198 bt202.1 (wrap64 ((t188.size : Int) + 4)) true))) = some (r1, r2, r3) := H
                have A20 := Aside0.mk A200
                clear A200
                replace H := Option.bind_eq_some_iff.mp H
                obtain ⟨⟨t202, t203⟩, A210, H⟩ := H
                replace H : (if t199.isNone = true then (if t203.isNone = true then (if t202 < 0 then (http_Answer.j1 kj3 a0 t191 t198 t202 (wrap64 ((t188.size : Int) + 4)) true) else (http_Answer.j1 kj3 a0 t191 t198 t202 (wrap64 ((t188.size : Int) + 4)) (decide (t202 > (wrap64 ((a0.size : Int) - (wrap64 ((t188.size : Int) + 4)))))))) else (http_Answer.j1 kj3 a0 t191 t198 t202 (wrap64 ((t188.size : Int) + 4)) true)) else (http_Answer.j1 kj3 a0 t191 t198 t202 (wrap64 ((t188.size : Int) + 4)) true)) = some (r1, r2, r3) := H
                have A21 := Aside0.mk A210
                clear A210
                have HC22 := Aside0.mk H
                clear H
                rcases t199 with _ | q204
                · rcases t203 with _ | q205
                  · obtain ⟨Ao23, co23, eo23⟩ := Kd.R_slice HO_8.out
                    subst eo23
                    have p197 : 0 ≤ (0 : Int) := (by omega)
                    have q197 : 0 < (t191.length : Int) := of_decide_eq_true (by first | (with_reducible assumption) | assumption)
                    obtain ⟨ad197, e197, hx197_0⟩ := Kd.at_string (Kd.R_reads' HO_8.out).2.2 0 p197 q197
                    cases e197
                    have qi197 : (0 < t191.length) = True := eq_true (by omega)
                    (try rw [show ((0 : Int)).toNat = 0 from rfl] at hx197_0)
                    (try rw [Addr.add_zero'] at hx197_0)
                    replace p197 := eq_true p197
                    replace q197 := eq_true q197
                    go_upto_region 8 with (first | ((with_reducible refine gate_callee (f := 34) rfl ?_); refine goesL_ (some 51) rfl rfl Tryd.func34 (by kernel_rfl) rfl #[.string ((rdOf ByteArray.empty t191 0).extract 9 12)] rfl (by (try simp only [List.map_toArray, List.map_cons, List.map_nil]); first | done | rfl | (simp only [List.length_drop, List.length_take]; rfl)) ?_; (with_reducible refine (strconv_Atoi.calls ((rdOf ByteArray.empty t191 0).extract 9 12) t198 (none : Option Int) _ ?side1 A18.out).mono ?_); (case side1 => first | exact HT.out | exact tabs_below HT.out (by repeat (first | (with_reducible first | exact HB.out | apply below_alloc | apply pw_below_drewN | apply below_drew1) | exact HB.out))); rintro e w24 ⟨ev_, rfl, hv_, hb⟩; (first | (have hv2_ := Go.Proofs.YtpigloohccpfiaaDoor.M.ErrV.nil hv_; subst hv2_; clear hv_) | (obtain ⟨et_, ep_, hv2_⟩ := Go.Proofs.YtpigloohccpfiaaDoor.M.ErrV.one hv_; subst hv2_; clear hv_)); refine ⟨_, rfl, ?_⟩; have n0_ := Aside0.mk (Kd.R_below (by (with_reducible repeat (first | apply Kd.R_alloc | apply Kd.R_drewN | apply Kd.R_drew)); exact HO_8.out) hb); have n1_ := Aside0.mk (below_step (by repeat (first | (with_reducible first | exact HB.out | apply below_alloc | apply pw_below_drewN | apply below_drew1) | exact HB.out)) hb); clear HO_8; clear HB; have HO_8 := n0_; have HB := n1_; clear n0_ n1_; (try clear hb); (try clear hb2); (try clear hk); (try clear hi); (try simp only [errW_none, errW_some]); have p200 : 0 ≤ (2 : Int) := (by omega); have q200 : 2 < (t191.length : Int) := of_decide_eq_true (by first | (with_reducible assumption) | assumption); obtain ⟨ad200, e200, hx200_0⟩ := Kd.at_string (Kd.R_reads' HO_8.out).2.2 2 p200 q200; obtain rfl : ad197 = ad200 := (by injection e200); (try simp only [show (2 : Int).toNat = 2 from rfl, Nat.reduceMul, Nat.reduceEqDiff, Go.Addr.add, ↓reduceIte] at hx200_0); have qi200 : (2 < t191.length) = True := eq_true (by omega); (try rw [show ((2 : Int)).toNat = 2 from rfl] at hx200_0); replace p200 := eq_true p200; replace q200 := eq_true q200) | ((with_reducible refine gate_callee (f := 35) rfl ?_); refine goesL_ (some 58) rfl rfl Tryd.func35 (by kernel_rfl) rfl #[.string (rdOf ByteArray.empty t191 2), .string (⟨#[67, 111, 110, 116, 101, 110, 116, 45, 76, 101, 110, 103, 116, 104, 58, 32]⟩ : ByteArray)] rfl (by (try simp only [List.map_toArray, List.map_cons, List.map_nil]); first | done | rfl | (simp only [List.length_drop, List.length_take]; rfl)) ?_; (with_reducible refine (strings_TrimPrefix.calls (rdOf ByteArray.empty t191 2) (⟨#[67, 111, 110, 116, 101, 110, 116, 45, 76, 101, 110, 103, 116, 104, 58, 32]⟩ : ByteArray) t201 _ A20.out).mono ?_); rintro e w' ⟨rfl, ⟨nd, rfl⟩⟩; refine ⟨_, rfl, ?_⟩) | ((with_reducible refine gate_callee (f := 34) rfl ?_); refine goesL_ (some 59) rfl rfl Tryd.func34 (by kernel_rfl) rfl #[.string t201] rfl (by (try simp only [List.map_toArray, List.map_cons, List.map_nil]); first | done | rfl | (simp only [List.length_drop, List.length_take]; rfl)) ?_; (with_reducible refine (strconv_Atoi.calls t201 t202 (none : Option Int) _ ?side1 A21.out).mono ?_); (case side1 => first | exact HT.out | exact tabs_below HT.out (by repeat (first | (with_reducible first | exact HB.out | apply below_alloc | apply pw_below_drewN | apply below_drew1) | exact HB.out))); rintro e w25 ⟨ev_, rfl, hv_, hb⟩; (first | (have hv2_ := Go.Proofs.YtpigloohccpfiaaDoor.M.ErrV.nil hv_; subst hv2_; clear hv_) | (obtain ⟨et_, ep_, hv2_⟩ := Go.Proofs.YtpigloohccpfiaaDoor.M.ErrV.one hv_; subst hv2_; clear hv_)); refine ⟨_, rfl, ?_⟩; have n0_ := Aside0.mk (Kd.R_below (by (with_reducible repeat (first | apply Kd.R_alloc | apply Kd.R_drewN | apply Kd.R_drew)); exact HO_8.out) hb); have n1_ := Aside0.mk (below_step (by repeat (first | (with_reducible first | exact HB.out | apply below_alloc | apply pw_below_drewN | apply below_drew1) | exact HB.out)) hb); clear HO_8; clear HB; have HO_8 := n0_; have HB := n1_; clear n0_ n1_; (try clear hb); (try clear hb2); (try clear hk); (try clear hi); (try simp only [errW_none, errW_some])))
                    (try simp only [Act.put, List.setIfInBounds_toArray, List.set_cons_zero, List.set_cons_succ])
                    go_cut [82] (fun v82 wc => ∃ (kq : Nat) (x82_21 : Bool), v82 = .bool x82_21 ∧ Aside0 (http_Answer.j1 kq a0 t191 t198 t202 (wrap64 ((t188.size : Int) + 4)) x82_21 = some (r1, r2, r3)) ∧ Aside0 (kq ≤ kj3) ∧ Aside0 (Kd.R Kd.string 9 wc w.heap.size (fun _ => True) (.slice (some ad197) t191.length co23) t191) ∧ Aside0 (Below w.heap.size w wc))
                    case first =>
                      have H := HC22.out
                      clear HC22
                      have H1 : (if (none : Option Int).isNone = true then (if t202 < 0 then (http_Answer.j1 kj3 a0 t191 t198 t202 (wrap64 ((t188.size : Int) + 4)) true) else (http_Answer.j1 kj3 a0 t191 t198 t202 (wrap64 ((t188.size : Int) + 4)) (decide (t202 > (wrap64 ((a0.size : Int) - (wrap64 ((t188.size : Int) + 4)))))))) else (http_Answer.j1 kj3 a0 t191 t198 t202 (wrap64 ((t188.size : Int) + 4)) true)) = some (r1, r2, r3) := by rw [if_pos (show (none : Option Int).isNone = true by rfl)] at H; exact H
                      clear H
                      have H := H1
                      clear H1
                      try simp only [errW_none, errW_some]
                      have H1 : (if t202 < 0 then (http_Answer.j1 kj3 a0 t191 t198 t202 (wrap64 ((t188.size : Int) + 4)) true) else (http_Answer.j1 kj3 a0 t191 t198 t202 (wrap64 ((t188.size : Int) + 4)) (decide (t202 > (wrap64 ((a0.size : Int) - (wrap64 ((t188.size : Int) + 4)))))))) = some (r1, r2, r3) := by rw [if_pos (show (none : Option Int).isNone = true by rfl)] at H; exact H
                      clear H
                      have H := H1
                      clear H1
                      try simp only [errW_none, errW_some]
                      by_cases c26 : t202 < 0
                      · rw [if_pos c26] at H
                        have c26b0 : decide (t202 < 0) = true := decide_eq_true c26
                        clear c26
                        (first | rw [c26b0] | (simp only [i64_w, i32_w]; rw [c26b0]) | skip)
                        have H' := Aside0.mk H
                        clear H
                        go_wp2
                        go_meet
                        case rel => exact ⟨_, (true), (by first | rfl | (simp; done) | (simp [*]; done)), H', ⟨by have := HJ3.out; first | omega | exact Nat.le_refl _⟩, ⟨by (with_reducible repeat (first | apply Kd.R_alloc | apply Kd.R_drewN | apply Kd.R_drew)); exact HO_8.out⟩, ⟨by repeat (first | (with_reducible first | exact HB.out | apply below_alloc | apply pw_below_drewN | apply below_drew1) | exact HB.out)⟩⟩
                      · rw [if_neg c26] at H
                        have c26b0 : decide (t202 < 0) = false := decide_eq_false c26
                        clear c26
                        (first | rw [c26b0] | (simp only [i64_w, i32_w]; rw [c26b0]) | skip)
                        have H' := Aside0.mk H
                        clear H
                        go_wp2
                        go_meet
                        case rel => exact ⟨_, (decide (t202 > (wrap64 ((a0.size : Int) - (wrap64 ((t188.size : Int) + 4)))))), (by first | rfl | (simp; done) | (simp [*]; done)), H', ⟨by have := HJ3.out; first | omega | exact Nat.le_refl _⟩, ⟨by (with_reducible repeat (first | apply Kd.R_alloc | apply Kd.R_drewN | apply Kd.R_drew)); exact HO_8.out⟩, ⟨by repeat (first | (with_reducible first | exact HB.out | apply below_alloc | apply pw_below_drewN | apply below_drew1) | exact HB.out)⟩⟩
                    case rest =>
                      clear HC22
                      try clear c1
                      try clear p1
                      try clear q1
                      try clear hx1
                      try clear qi1
                      try clear c2
                      try clear p2
                      try clear q2
                      try clear hx2
                      try clear qi2
                      try clear c3
                      try clear c6
                      try clear p6
                      try clear c7
                      try clear c7b0
                      try clear c7b1
                      try clear c9
                      try clear c9b0
                      try clear c9b1
                      try clear c11
                      try clear c14
                      try clear c15
                      try clear c15b0
                      try clear c15b1
                      try clear c16
                      try clear c16b0
                      try clear c16b1
                      try clear c17
                      try clear c17b0
                      try clear c17b1
                      try clear c19
                      try clear c19b0
                      try clear c19b1
                      try clear p19
                      try clear q19
                      try clear hx19
                      try clear qi19
                      try clear p20
                      try clear q20
                      try clear hx20
                      try clear qi20
                      try clear c26
                      try clear c26b0
                      try clear hx194_0
                      try clear hx196_0
                      try clear hx197_0
                      try clear hx200_0
                      try clear p1
                      try clear p194
                      try clear p196
                      try clear p197
                      try clear p2
                      try clear p200
                      try clear q1
                      try clear q194
                      try clear q196
                      try clear q197
                      try clear q200
                      try clear q204
                      try clear q205
                      obtain ⟨kq, x82_21, rfl, HA, HJ21, HO_8, HB⟩ := hcut
                      cases kq with
                      | zero => exact absurd HA.out (by simp [http_Answer.j1])
                      | succ kj21 =>
                        have H := HA.out
                        clear HA
                        simp only [http_Answer.j1] at H
                        by_cases c27 : x82_21 = true
                        · subst c27
                          have H1 : (some (0, (⟨#[]⟩ : ByteArray), 0)) = some (r1, r2, r3) := by rw [if_pos rfl] at H; exact H
                          clear H
                          have H := H1
                          clear H1
                          simp only [Option.some.injEq, Prod.mk.injEq] at H
                          obtain ⟨rfl, rfl, rfl⟩ := H
                          go_wp2
                          go_ret3
                          exact ⟨by first | rfl | (simp [errW_none, errW_some] <;> rfl) | (simp [*, errW_none, errW_some] <;> rfl), by repeat (first | (with_reducible first | exact HB.out | apply below_alloc | apply pw_below_drewN | apply below_drew1) | exact HB.out)⟩
                        · replace c27 := Bool.eq_false_iff.mpr c27
                          subst c27
                          have H1 : (if 0 ≤ (wrap64 ((t188.size : Int) + 4)) then (if (wrap64 ((t188.size : Int) + 4)) ≤ (wrap64 ((wrap64 ((t188.size : Int) + 4)) + t202)) then (if (wrap64 ((wrap64 ((t188.size : Int) + 4)) + t202)) ≤ (a0.size : Int) then ((http_Write.f kj21 t198 (a0.extract ((wrap64 ((t188.size : Int) + 4)) : Int).toNat ((wrap64 ((wrap64 ((t188.size : Int) + 4)) + t202)) : Int).toNat) ((t191.length : Int) == 4)).bind fun bt206 => (if 0 ≤ (wrap64 ((wrap64 ((t188.size : Int) + 4)) + t202)) then (if bt206.1.toList = (a0.extract 0 ((wrap64 ((wrap64 ((t188.size : Int) + 4)) + t202)) : Int).toNat).toList then (some (t198, a0.extract ((wrap64 ((t188.size : Int) + 4)) : Int).toNat ((wrap64 ((wrap64 ((t188.size : Int) + 4)) + t202)) : Int).toNat, wrap64 ((wrap64 ((t188.size : Int) + 4)) + t202))) else (some (0, (⟨#[]⟩ : ByteArray), 0))) else (none))) else (none)) else (none)) else (none)) = some (r1, r2, r3) := by rw [if_neg (show ¬ (false = true) by decide)] at H; exact H
                          clear H
                          have H := H1
                          clear H1
                          obtain ⟨ji28, hji28⟩ : ∃ j_ : Int, (wrap64 ((t188.size : Int) + 4)) = j_ := ⟨_, rfl⟩
                          replace H : (if 0 ≤ (ji28) then (if (ji28) ≤ (wrap64 ((ji28) + t202)) then (if (wrap64 ((ji28) + t202)) ≤ (a0.size : Int) then ((http_Write.f kj21 t198 (a0.extract ((ji28) : Int).toNat ((wrap64 ((ji28) + t202)) : Int).toNat) ((t191.length : Int) == 4)).bind fun bt206 => (if 0 ≤ (wrap64 ((ji28) + t202)) then (if bt206.1.toList = (a0.extract 0 ((wrap64 ((ji28) + t202)) : Int).toNat).toList then (some (t198, a0.extract ((ji28) : Int).toNat ((wrap64 ((ji28) + t202)) : Int).toNat, wrap64 ((ji28) + t202))) else (some (0, (⟨#[]⟩ : ByteArray), 0))) else (none))) else (none)) else (none)) else (none)) = some (r1, r2, r3) := by first | (rw [hji28] at H; exact H) | (simp only [hji28] at H ⊢; exact H)
                          have hji28w : (IntKind.i64.wrap ((t188.size : Int) + 4)) = ji28 := (i64_w _).trans hji28
                          by_cases c29 : 0 ≤ (ji28)
                          · rw [if_pos c29] at H
                            have c29b0 := eq_true c29
                            have c29b1 : decide (0 ≤ (ji28)) = true := decide_eq_true c29
                            clear c29
                            by_cases c30 : (ji28) ≤ (wrap64 ((ji28) + t202))
                            · rw [if_pos c30] at H
                              have c30b0 := eq_true c30
                              have c30b1 : decide ((ji28) ≤ (wrap64 ((ji28) + t202))) = true := decide_eq_true c30
                              by_cases c31 : (wrap64 ((ji28) + t202)) ≤ (a0.size : Int)
                              · rw [if_pos c31] at H
                                have c31b0 := eq_true c31
                                have c31b1 : decide ((wrap64 ((ji28) + t202)) ≤ (a0.size : Int)) = true := decide_eq_true c31
                                replace H := Option.bind_eq_some_iff.mp H
                                obtain ⟨⟨t206, t207⟩, A320, H⟩ := H
                                replace H : (if 0 ≤ (wrap64 ((ji28) + t202)) then (if t206.toList = (a0.extract 0 ((wrap64 ((ji28) + t202)) : Int).toNat).toList then (some (t198, a0.extract ((ji28) : Int).toNat ((wrap64 ((ji28) + t202)) : Int).toNat, wrap64 ((ji28) + t202))) else (some (0, (⟨#[]⟩ : ByteArray), 0))) else (none)) = some (r1, r2, r3) := H
                                have A32 := Aside0.mk A320
                                clear A320
                                obtain ⟨ji33, hji33⟩ : ∃ j_ : Int, (wrap64 ((ji28) + t202)) = j_ := ⟨_, rfl⟩
                                replace H : (if 0 ≤ (ji33) then (if t206.toList = (a0.extract 0 ((ji33) : Int).toNat).toList then (some (t198, a0.extract ((ji28) : Int).toNat ((ji33) : Int).toNat, ji33)) else (some (0, (⟨#[]⟩ : ByteArray), 0))) else (none)) = some (r1, r2, r3) := by first | (rw [hji33] at H; exact H) | (simp only [hji33] at H ⊢; exact H)
                                (try rw [hji33] at c30b0)
                                (try rw [hji33] at c30b1)
                                (try rw [hji33] at c30)
                                (try rw [hji33] at c31b0)
                                (try rw [hji33] at c31b1)
                                (try rw [hji33] at c31)
                                (try rw [hji33] at A32)
                                have hji33w : (IntKind.i64.wrap ((ji28) + t202)) = ji33 := (i64_w _).trans hji33
                                by_cases c34 : 0 ≤ (ji33)
                                · rw [if_pos c34] at H
                                  have c34b0 := eq_true c34
                                  have c34b1 : decide (0 ≤ (ji33)) = true := decide_eq_true c34
                                  clear c34
                                  have c35b0 := eq_true (of_decide_eq_true (by first | (with_reducible assumption) | assumption) : (ji33) ≤ (a0.size : Int))
                                  by_cases c36 : t206.toList = (a0.extract 0 ((ji33) : Int).toNat).toList
                                  · rw [if_pos c36] at H
                                    have c36b0 : (t206.toList == (a0.extract 0 ((ji33) : Int).toNat).toList) = true := beq_iff_eq.mpr c36
                                    have c36b1 : (t206.toList != (a0.extract 0 ((ji33) : Int).toNat).toList) = false := bne_eq_false_iff_eq.mpr c36
                                    clear c36
                                    simp only [Option.some.injEq, Prod.mk.injEq] at H
                                    obtain ⟨rfl, rfl, rfl⟩ := H
                                    go_wp2_with (first | ((with_reducible refine gate_callee (f := 14) rfl ?_); refine goesL_ (some 95) rfl rfl Tryd.func14 (by kernel_rfl) rfl #[.int .i64 t198, .string (a0.extract ((ji28) : Int).toNat ((ji33) : Int).toNat), .bool ((t191.length : Int) == 4)] rfl (by (try simp only [List.map_toArray, List.map_cons, List.map_nil]); first | done | (simp only [hji28, hji33]; rfl) | rfl | (simp only [List.length_drop, List.length_take]; rfl)) ?_; (with_reducible refine (http_Write.calls kj21 t198 (a0.extract ((ji28) : Int).toNat ((ji33) : Int).toNat) ((t191.length : Int) == 4) t206 t207 _ ?side1 A32.out).mono ?_); (case side1 => first | exact HT.out | exact tabs_below HT.out (by repeat (first | (with_reducible first | exact HB.out | apply below_alloc | apply pw_below_drewN | apply below_drew1) | exact HB.out))); rintro e w37 ⟨rfl, hb⟩; refine ⟨_, rfl, ?_⟩; have n0_ := Aside0.mk (Kd.R_below (by (with_reducible repeat (first | apply Kd.R_alloc | apply Kd.R_drewN | apply Kd.R_drew)); exact HO_8.out) hb); have n1_ := Aside0.mk (below_step (by repeat (first | (with_reducible first | exact HB.out | apply below_alloc | apply pw_below_drewN | apply below_drew1) | exact HB.out)) hb); clear HO_8; clear HB; have HO_8 := n0_; have HB := n1_; clear n0_ n1_; (try clear hb); (try clear hb2); (try clear hk); (try clear hi)))
                                    go_ret3
                                    exact ⟨by first | rfl | (simp [errW_none, errW_some] <;> rfl) | (simp only [← hji28, ← hji33]; first | rfl | (simp [errW_none, errW_some] <;> rfl)) | (simp [*, errW_none, errW_some] <;> rfl), by repeat (first | (with_reducible first | exact HB.out | apply below_alloc | apply pw_below_drewN | apply below_drew1) | exact HB.out)⟩
                                  · rw [if_neg c36] at H
                                    have c36b0 : (t206.toList == (a0.extract 0 ((ji33) : Int).toNat).toList) = false := beq_eq_false_iff_ne.mpr c36
                                    have c36b1 : (t206.toList != (a0.extract 0 ((ji33) : Int).toNat).toList) = true := bne_iff_ne.mpr c36
                                    simp only [Option.some.injEq, Prod.mk.injEq] at H
                                    obtain ⟨rfl, rfl, rfl⟩ := H
                                    go_wp2_with (first | ((with_reducible refine gate_callee (f := 14) rfl ?_); refine goesL_ (some 95) rfl rfl Tryd.func14 (by kernel_rfl) rfl #[.int .i64 t198, .string (a0.extract ((ji28) : Int).toNat ((ji33) : Int).toNat), .bool ((t191.length : Int) == 4)] rfl (by (try simp only [List.map_toArray, List.map_cons, List.map_nil]); first | done | (simp only [hji28, hji33]; rfl) | rfl | (simp only [List.length_drop, List.length_take]; rfl)) ?_; (with_reducible refine (http_Write.calls kj21 t198 (a0.extract ((ji28) : Int).toNat ((ji33) : Int).toNat) ((t191.length : Int) == 4) t206 t207 _ ?side1 A32.out).mono ?_); (case side1 => first | exact HT.out | exact tabs_below HT.out (by repeat (first | (with_reducible first | exact HB.out | apply below_alloc | apply pw_below_drewN | apply below_drew1) | exact HB.out))); rintro e w38 ⟨rfl, hb⟩; refine ⟨_, rfl, ?_⟩; have n0_ := Aside0.mk (Kd.R_below (by (with_reducible repeat (first | apply Kd.R_alloc | apply Kd.R_drewN | apply Kd.R_drew)); exact HO_8.out) hb); have n1_ := Aside0.mk (below_step (by repeat (first | (with_reducible first | exact HB.out | apply below_alloc | apply pw_below_drewN | apply below_drew1) | exact HB.out)) hb); clear HO_8; clear HB; have HO_8 := n0_; have HB := n1_; clear n0_ n1_; (try clear hb); (try clear hb2); (try clear hk); (try clear hi)))
                                    go_ret3
                                    exact ⟨by first | rfl | (simp [errW_none, errW_some] <;> rfl) | (simp only [← hji28, ← hji33]; first | rfl | (simp [errW_none, errW_some] <;> rfl)) | (simp [*, errW_none, errW_some] <;> rfl), by repeat (first | (with_reducible first | exact HB.out | apply below_alloc | apply pw_below_drewN | apply below_drew1) | exact HB.out)⟩
                                · rw [if_neg c34] at H
                                  exact absurd H (by simp)
                              · rw [if_neg c31] at H
                                exact absurd H (by simp)
                            · rw [if_neg c30] at H
                              exact absurd H (by simp)
                          · rw [if_neg c29] at H
                            exact absurd H (by simp)
                  · obtain ⟨Ao23, co23, eo23⟩ := Kd.R_slice HO_8.out
                    subst eo23
                    have p197 : 0 ≤ (0 : Int) := (by omega)
                    have q197 : 0 < (t191.length : Int) := of_decide_eq_true (by first | (with_reducible assumption) | assumption)
                    obtain ⟨ad197, e197, hx197_0⟩ := Kd.at_string (Kd.R_reads' HO_8.out).2.2 0 p197 q197
                    cases e197
                    have qi197 : (0 < t191.length) = True := eq_true (by omega)
                    (try rw [show ((0 : Int)).toNat = 0 from rfl] at hx197_0)
                    (try rw [Addr.add_zero'] at hx197_0)
                    replace p197 := eq_true p197
                    replace q197 := eq_true q197
                    go_upto_region 8 with (first | ((with_reducible refine gate_callee (f := 34) rfl ?_); refine goesL_ (some 51) rfl rfl Tryd.func34 (by kernel_rfl) rfl #[.string ((rdOf ByteArray.empty t191 0).extract 9 12)] rfl (by (try simp only [List.map_toArray, List.map_cons, List.map_nil]); first | done | rfl | (simp only [List.length_drop, List.length_take]; rfl)) ?_; (with_reducible refine (strconv_Atoi.calls ((rdOf ByteArray.empty t191 0).extract 9 12) t198 (none : Option Int) _ ?side1 A18.out).mono ?_); (case side1 => first | exact HT.out | exact tabs_below HT.out (by repeat (first | (with_reducible first | exact HB.out | apply below_alloc | apply pw_below_drewN | apply below_drew1) | exact HB.out))); rintro e w24 ⟨ev_, rfl, hv_, hb⟩; (first | (have hv2_ := Go.Proofs.YtpigloohccpfiaaDoor.M.ErrV.nil hv_; subst hv2_; clear hv_) | (obtain ⟨et_, ep_, hv2_⟩ := Go.Proofs.YtpigloohccpfiaaDoor.M.ErrV.one hv_; subst hv2_; clear hv_)); refine ⟨_, rfl, ?_⟩; have n0_ := Aside0.mk (Kd.R_below (by (with_reducible repeat (first | apply Kd.R_alloc | apply Kd.R_drewN | apply Kd.R_drew)); exact HO_8.out) hb); have n1_ := Aside0.mk (below_step (by repeat (first | (with_reducible first | exact HB.out | apply below_alloc | apply pw_below_drewN | apply below_drew1) | exact HB.out)) hb); clear HO_8; clear HB; have HO_8 := n0_; have HB := n1_; clear n0_ n1_; (try clear hb); (try clear hb2); (try clear hk); (try clear hi); (try simp only [errW_none, errW_some]); have p200 : 0 ≤ (2 : Int) := (by omega); have q200 : 2 < (t191.length : Int) := of_decide_eq_true (by first | (with_reducible assumption) | assumption); obtain ⟨ad200, e200, hx200_0⟩ := Kd.at_string (Kd.R_reads' HO_8.out).2.2 2 p200 q200; obtain rfl : ad197 = ad200 := (by injection e200); (try simp only [show (2 : Int).toNat = 2 from rfl, Nat.reduceMul, Nat.reduceEqDiff, Go.Addr.add, ↓reduceIte] at hx200_0); have qi200 : (2 < t191.length) = True := eq_true (by omega); (try rw [show ((2 : Int)).toNat = 2 from rfl] at hx200_0); replace p200 := eq_true p200; replace q200 := eq_true q200) | ((with_reducible refine gate_callee (f := 35) rfl ?_); refine goesL_ (some 58) rfl rfl Tryd.func35 (by kernel_rfl) rfl #[.string (rdOf ByteArray.empty t191 2), .string (⟨#[67, 111, 110, 116, 101, 110, 116, 45, 76, 101, 110, 103, 116, 104, 58, 32]⟩ : ByteArray)] rfl (by (try simp only [List.map_toArray, List.map_cons, List.map_nil]); first | done | rfl | (simp only [List.length_drop, List.length_take]; rfl)) ?_; (with_reducible refine (strings_TrimPrefix.calls (rdOf ByteArray.empty t191 2) (⟨#[67, 111, 110, 116, 101, 110, 116, 45, 76, 101, 110, 103, 116, 104, 58, 32]⟩ : ByteArray) t201 _ A20.out).mono ?_); rintro e w' ⟨rfl, ⟨nd, rfl⟩⟩; refine ⟨_, rfl, ?_⟩) | ((with_reducible refine gate_callee (f := 34) rfl ?_); refine goesL_ (some 59) rfl rfl Tryd.func34 (by kernel_rfl) rfl #[.string t201] rfl (by (try simp only [List.map_toArray, List.map_cons, List.map_nil]); first | done | rfl | (simp only [List.length_drop, List.length_take]; rfl)) ?_; (with_reducible refine (strconv_Atoi.calls t201 t202 (some q205 : Option Int) _ ?side1 A21.out).mono ?_); (case side1 => first | exact HT.out | exact tabs_below HT.out (by repeat (first | (with_reducible first | exact HB.out | apply below_alloc | apply pw_below_drewN | apply below_drew1) | exact HB.out))); rintro e w25 ⟨ev_, rfl, hv_, hb⟩; (first | (have hv2_ := Go.Proofs.YtpigloohccpfiaaDoor.M.ErrV.nil hv_; subst hv2_; clear hv_) | (obtain ⟨et_, ep_, hv2_⟩ := Go.Proofs.YtpigloohccpfiaaDoor.M.ErrV.one hv_; subst hv2_; clear hv_)); refine ⟨_, rfl, ?_⟩; have n0_ := Aside0.mk (Kd.R_below (by (with_reducible repeat (first | apply Kd.R_alloc | apply Kd.R_drewN | apply Kd.R_drew)); exact HO_8.out) hb); have n1_ := Aside0.mk (below_step (by repeat (first | (with_reducible first | exact HB.out | apply below_alloc | apply pw_below_drewN | apply below_drew1) | exact HB.out)) hb); clear HO_8; clear HB; have HO_8 := n0_; have HB := n1_; clear n0_ n1_; (try clear hb); (try clear hb2); (try clear hk); (try clear hi); (try simp only [errW_none, errW_some])))
                    (try simp only [Act.put, List.setIfInBounds_toArray, List.set_cons_zero, List.set_cons_succ])
                    go_cut [82] (fun v82 wc => ∃ (kq : Nat) (x82_21 : Bool), v82 = .bool x82_21 ∧ Aside0 (http_Answer.j1 kq a0 t191 t198 t202 (wrap64 ((t188.size : Int) + 4)) x82_21 = some (r1, r2, r3)) ∧ Aside0 (kq ≤ kj3) ∧ Aside0 (Kd.R Kd.string 9 wc w.heap.size (fun _ => True) (.slice (some ad197) t191.length co23) t191) ∧ Aside0 (Below w.heap.size w wc))
                    case first =>
                      have H := HC22.out
                      clear HC22
                      have H1 : (if (some q205 : Option Int).isNone = true then (if t202 < 0 then (http_Answer.j1 kj3 a0 t191 t198 t202 (wrap64 ((t188.size : Int) + 4)) true) else (http_Answer.j1 kj3 a0 t191 t198 t202 (wrap64 ((t188.size : Int) + 4)) (decide (t202 > (wrap64 ((a0.size : Int) - (wrap64 ((t188.size : Int) + 4)))))))) else (http_Answer.j1 kj3 a0 t191 t198 t202 (wrap64 ((t188.size : Int) + 4)) true)) = some (r1, r2, r3) := by rw [if_pos (show (none : Option Int).isNone = true by rfl)] at H; exact H
                      clear H
                      have H := H1
                      clear H1
                      try simp only [errW_none, errW_some]
                      have H1 : (http_Answer.j1 kj3 a0 t191 t198 t202 (wrap64 ((t188.size : Int) + 4)) true) = some (r1, r2, r3) := by rw [if_neg (show ¬ (some q205).isNone = true by simp)] at H; exact H
                      clear H
                      have H := H1
                      clear H1
                      try simp only [errW_none, errW_some]
                      have H' := Aside0.mk H
                      clear H
                      go_wp2
                      go_meet
                      case rel => exact ⟨_, (true), (by first | rfl | (simp; done) | (simp [*]; done)), H', ⟨by have := HJ3.out; first | omega | exact Nat.le_refl _⟩, ⟨by (with_reducible repeat (first | apply Kd.R_alloc | apply Kd.R_drewN | apply Kd.R_drew)); exact HO_8.out⟩, ⟨by repeat (first | (with_reducible first | exact HB.out | apply below_alloc | apply pw_below_drewN | apply below_drew1) | exact HB.out)⟩⟩
                    case rest =>
                      clear HC22
                      try clear c1
                      try clear p1
                      try clear q1
                      try clear hx1
                      try clear qi1
                      try clear c2
                      try clear p2
                      try clear q2
                      try clear hx2
                      try clear qi2
                      try clear c3
                      try clear c6
                      try clear p6
                      try clear c7
                      try clear c7b0
                      try clear c7b1
                      try clear c9
                      try clear c9b0
                      try clear c9b1
                      try clear c11
                      try clear c14
                      try clear c15
                      try clear c15b0
                      try clear c15b1
                      try clear c16
                      try clear c16b0
                      try clear c16b1
                      try clear c17
                      try clear c17b0
                      try clear c17b1
                      try clear c19
                      try clear c19b0
                      try clear c19b1
                      try clear p19
                      try clear q19
                      try clear hx19
                      try clear qi19
                      try clear p20
                      try clear q20
                      try clear hx20
                      try clear qi20
                      try clear c26
                      try clear c26b0
                      try clear hx194_0
                      try clear hx196_0
                      try clear hx197_0
                      try clear hx200_0
                      try clear p1
                      try clear p194
                      try clear p196
                      try clear p197
                      try clear p2
                      try clear p200
                      try clear q1
                      try clear q194
                      try clear q196
                      try clear q197
                      try clear q200
                      try clear q204
                      try clear q205
                      obtain ⟨kq, x82_21, rfl, HA, HJ21, HO_8, HB⟩ := hcut
                      cases kq with
                      | zero => exact absurd HA.out (by simp [http_Answer.j1])
                      | succ kj21 =>
                        have H := HA.out
                        clear HA
                        simp only [http_Answer.j1] at H
                        by_cases c27 : x82_21 = true
                        · subst c27
                          have H1 : (some (0, (⟨#[]⟩ : ByteArray), 0)) = some (r1, r2, r3) := by rw [if_pos rfl] at H; exact H
                          clear H
                          have H := H1
                          clear H1
                          simp only [Option.some.injEq, Prod.mk.injEq] at H
                          obtain ⟨rfl, rfl, rfl⟩ := H
                          go_wp2
                          go_ret3
                          exact ⟨by first | rfl | (simp [errW_none, errW_some] <;> rfl) | (simp [*, errW_none, errW_some] <;> rfl), by repeat (first | (with_reducible first | exact HB.out | apply below_alloc | apply pw_below_drewN | apply below_drew1) | exact HB.out)⟩
                        · replace c27 := Bool.eq_false_iff.mpr c27
                          subst c27
                          have H1 : (if 0 ≤ (wrap64 ((t188.size : Int) + 4)) then (if (wrap64 ((t188.size : Int) + 4)) ≤ (wrap64 ((wrap64 ((t188.size : Int) + 4)) + t202)) then (if (wrap64 ((wrap64 ((t188.size : Int) + 4)) + t202)) ≤ (a0.size : Int) then ((http_Write.f kj21 t198 (a0.extract ((wrap64 ((t188.size : Int) + 4)) : Int).toNat ((wrap64 ((wrap64 ((t188.size : Int) + 4)) + t202)) : Int).toNat) ((t191.length : Int) == 4)).bind fun bt206 => (if 0 ≤ (wrap64 ((wrap64 ((t188.size : Int) + 4)) + t202)) then (if bt206.1.toList = (a0.extract 0 ((wrap64 ((wrap64 ((t188.size : Int) + 4)) + t202)) : Int).toNat).toList then (some (t198, a0.extract ((wrap64 ((t188.size : Int) + 4)) : Int).toNat ((wrap64 ((wrap64 ((t188.size : Int) + 4)) + t202)) : Int).toNat, wrap64 ((wrap64 ((t188.size : Int) + 4)) + t202))) else (some (0, (⟨#[]⟩ : ByteArray), 0))) else (none))) else (none)) else (none)) else (none)) = some (r1, r2, r3) := by rw [if_neg (show ¬ (false = true) by decide)] at H; exact H
                          clear H
                          have H := H1
                          clear H1
                          obtain ⟨ji28, hji28⟩ : ∃ j_ : Int, (wrap64 ((t188.size : Int) + 4)) = j_ := ⟨_, rfl⟩
                          replace H : (if 0 ≤ (ji28) then (if (ji28) ≤ (wrap64 ((ji28) + t202)) then (if (wrap64 ((ji28) + t202)) ≤ (a0.size : Int) then ((http_Write.f kj21 t198 (a0.extract ((ji28) : Int).toNat ((wrap64 ((ji28) + t202)) : Int).toNat) ((t191.length : Int) == 4)).bind fun bt206 => (if 0 ≤ (wrap64 ((ji28) + t202)) then (if bt206.1.toList = (a0.extract 0 ((wrap64 ((ji28) + t202)) : Int).toNat).toList then (some (t198, a0.extract ((ji28) : Int).toNat ((wrap64 ((ji28) + t202)) : Int).toNat, wrap64 ((ji28) + t202))) else (some (0, (⟨#[]⟩ : ByteArray), 0))) else (none))) else (none)) else (none)) else (none)) = some (r1, r2, r3) := by first | (rw [hji28] at H; exact H) | (simp only [hji28] at H ⊢; exact H)
                          have hji28w : (IntKind.i64.wrap ((t188.size : Int) + 4)) = ji28 := (i64_w _).trans hji28
                          by_cases c29 : 0 ≤ (ji28)
                          · rw [if_pos c29] at H
                            have c29b0 := eq_true c29
                            have c29b1 : decide (0 ≤ (ji28)) = true := decide_eq_true c29
                            clear c29
                            by_cases c30 : (ji28) ≤ (wrap64 ((ji28) + t202))
                            · rw [if_pos c30] at H
                              have c30b0 := eq_true c30
                              have c30b1 : decide ((ji28) ≤ (wrap64 ((ji28) + t202))) = true := decide_eq_true c30
                              by_cases c31 : (wrap64 ((ji28) + t202)) ≤ (a0.size : Int)
                              · rw [if_pos c31] at H
                                have c31b0 := eq_true c31
                                have c31b1 : decide ((wrap64 ((ji28) + t202)) ≤ (a0.size : Int)) = true := decide_eq_true c31
                                replace H := Option.bind_eq_some_iff.mp H
                                obtain ⟨⟨t206, t207⟩, A320, H⟩ := H
                                replace H : (if 0 ≤ (wrap64 ((ji28) + t202)) then (if t206.toList = (a0.extract 0 ((wrap64 ((ji28) + t202)) : Int).toNat).toList then (some (t198, a0.extract ((ji28) : Int).toNat ((wrap64 ((ji28) + t202)) : Int).toNat, wrap64 ((ji28) + t202))) else (some (0, (⟨#[]⟩ : ByteArray), 0))) else (none)) = some (r1, r2, r3) := H
                                have A32 := Aside0.mk A320
                                clear A320
                                obtain ⟨ji33, hji33⟩ : ∃ j_ : Int, (wrap64 ((ji28) + t202)) = j_ := ⟨_, rfl⟩
                                replace H : (if 0 ≤ (ji33) then (if t206.toList = (a0.extract 0 ((ji33) : Int).toNat).toList then (some (t198, a0.extract ((ji28) : Int).toNat ((ji33) : Int).toNat, ji33)) else (some (0, (⟨#[]⟩ : ByteArray), 0))) else (none)) = some (r1, r2, r3) := by first | (rw [hji33] at H; exact H) | (simp only [hji33] at H ⊢; exact H)
                                (try rw [hji33] at c30b0)
                                (try rw [hji33] at c30b1)
                                (try rw [hji33] at c30)
                                (try rw [hji33] at c31b0)
                                (try rw [hji33] at c31b1)
                                (try rw [hji33] at c31)
                                (try rw [hji33] at A32)
                                have hji33w : (IntKind.i64.wrap ((ji28) + t202)) = ji33 := (i64_w _).trans hji33
                                by_cases c34 : 0 ≤ (ji33)
                                · rw [if_pos c34] at H
                                  have c34b0 := eq_true c34
                                  have c34b1 : decide (0 ≤ (ji33)) = true := decide_eq_true c34
                                  clear c34
                                  have c35b0 := eq_true (of_decide_eq_true (by first | (with_reducible assumption) | assumption) : (ji33) ≤ (a0.size : Int))
                                  by_cases c36 : t206.toList = (a0.extract 0 ((ji33) : Int).toNat).toList
                                  · rw [if_pos c36] at H
                                    have c36b0 : (t206.toList == (a0.extract 0 ((ji33) : Int).toNat).toList) = true := beq_iff_eq.mpr c36
                                    have c36b1 : (t206.toList != (a0.extract 0 ((ji33) : Int).toNat).toList) = false := bne_eq_false_iff_eq.mpr c36
                                    clear c36
                                    simp only [Option.some.injEq, Prod.mk.injEq] at H
                                    obtain ⟨rfl, rfl, rfl⟩ := H
                                    go_wp2_with (first | ((with_reducible refine gate_callee (f := 14) rfl ?_); refine goesL_ (some 95) rfl rfl Tryd.func14 (by kernel_rfl) rfl #[.int .i64 t198, .string (a0.extract ((ji28) : Int).toNat ((ji33) : Int).toNat), .bool ((t191.length : Int) == 4)] rfl (by (try simp only [List.map_toArray, List.map_cons, List.map_nil]); first | done | (simp only [hji28, hji33]; rfl) | rfl | (simp only [List.length_drop, List.length_take]; rfl)) ?_; (with_reducible refine (http_Write.calls kj21 t198 (a0.extract ((ji28) : Int).toNat ((ji33) : Int).toNat) ((t191.length : Int) == 4) t206 t207 _ ?side1 A32.out).mono ?_); (case side1 => first | exact HT.out | exact tabs_below HT.out (by repeat (first | (with_reducible first | exact HB.out | apply below_alloc | apply pw_below_drewN | apply below_drew1) | exact HB.out))); rintro e w37 ⟨rfl, hb⟩; refine ⟨_, rfl, ?_⟩; have n0_ := Aside0.mk (Kd.R_below (by (with_reducible repeat (first | apply Kd.R_alloc | apply Kd.R_drewN | apply Kd.R_drew)); exact HO_8.out) hb); have n1_ := Aside0.mk (below_step (by repeat (first | (with_reducible first | exact HB.out | apply below_alloc | apply pw_below_drewN | apply below_drew1) | exact HB.out)) hb); clear HO_8; clear HB; have HO_8 := n0_; have HB := n1_; clear n0_ n1_; (try clear hb); (try clear hb2); (try clear hk); (try clear hi)))
                                    go_ret3
                                    exact ⟨by first | rfl | (simp [errW_none, errW_some] <;> rfl) | (simp only [← hji28, ← hji33]; first | rfl | (simp [errW_none, errW_some] <;> rfl)) | (simp [*, errW_none, errW_some] <;> rfl), by repeat (first | (with_reducible first | exact HB.out | apply below_alloc | apply pw_below_drewN | apply below_drew1) | exact HB.out)⟩
                                  · rw [if_neg c36] at H
                                    have c36b0 : (t206.toList == (a0.extract 0 ((ji33) : Int).toNat).toList) = false := beq_eq_false_iff_ne.mpr c36
                                    have c36b1 : (t206.toList != (a0.extract 0 ((ji33) : Int).toNat).toList) = true := bne_iff_ne.mpr c36
                                    simp only [Option.some.injEq, Prod.mk.injEq] at H
                                    obtain ⟨rfl, rfl, rfl⟩ := H
                                    go_wp2_with (first | ((with_reducible refine gate_callee (f := 14) rfl ?_); refine goesL_ (some 95) rfl rfl Tryd.func14 (by kernel_rfl) rfl #[.int .i64 t198, .string (a0.extract ((ji28) : Int).toNat ((ji33) : Int).toNat), .bool ((t191.length : Int) == 4)] rfl (by (try simp only [List.map_toArray, List.map_cons, List.map_nil]); first | done | (simp only [hji28, hji33]; rfl) | rfl | (simp only [List.length_drop, List.length_take]; rfl)) ?_; (with_reducible refine (http_Write.calls kj21 t198 (a0.extract ((ji28) : Int).toNat ((ji33) : Int).toNat) ((t191.length : Int) == 4) t206 t207 _ ?side1 A32.out).mono ?_); (case side1 => first | exact HT.out | exact tabs_below HT.out (by repeat (first | (with_reducible first | exact HB.out | apply below_alloc | apply pw_below_drewN | apply below_drew1) | exact HB.out))); rintro e w38 ⟨rfl, hb⟩; refine ⟨_, rfl, ?_⟩; have n0_ := Aside0.mk (Kd.R_below (by (with_reducible repeat (first | apply Kd.R_alloc | apply Kd.R_drewN | apply Kd.R_drew)); exact HO_8.out) hb); have n1_ := Aside0.mk (below_step (by repeat (first | (with_reducible first | exact HB.out | apply below_alloc | apply pw_below_drewN | apply below_drew1) | exact HB.out)) hb); clear HO_8; clear HB; have HO_8 := n0_; have HB := n1_; clear n0_ n1_; (try clear hb); (try clear hb2); (try clear hk); (try clear hi)))
                                    go_ret3
                                    exact ⟨by first | rfl | (simp [errW_none, errW_some] <;> rfl) | (simp only [← hji28, ← hji33]; first | rfl | (simp [errW_none, errW_some] <;> rfl)) | (simp [*, errW_none, errW_some] <;> rfl), by repeat (first | (with_reducible first | exact HB.out | apply below_alloc | apply pw_below_drewN | apply below_drew1) | exact HB.out)⟩
                                · rw [if_neg c34] at H
                                  exact absurd H (by simp)
                              · rw [if_neg c31] at H
                                exact absurd H (by simp)
                            · rw [if_neg c30] at H
                              exact absurd H (by simp)
                          · rw [if_neg c29] at H
                            exact absurd H (by simp)
                · rcases t203 with _ | q205
                  · obtain ⟨Ao23, co23, eo23⟩ := Kd.R_slice HO_8.out
                    subst eo23
                    have p197 : 0 ≤ (0 : Int) := (by omega)
                    have q197 : 0 < (t191.length : Int) := of_decide_eq_true (by first | (with_reducible assumption) | assumption)
                    obtain ⟨ad197, e197, hx197_0⟩ := Kd.at_string (Kd.R_reads' HO_8.out).2.2 0 p197 q197
                    cases e197
                    have qi197 : (0 < t191.length) = True := eq_true (by omega)
                    (try rw [show ((0 : Int)).toNat = 0 from rfl] at hx197_0)
                    (try rw [Addr.add_zero'] at hx197_0)
                    replace p197 := eq_true p197
                    replace q197 := eq_true q197
                    go_upto_region 8 with (first | ((with_reducible refine gate_callee (f := 34) rfl ?_); refine goesL_ (some 51) rfl rfl Tryd.func34 (by kernel_rfl) rfl #[.string ((rdOf ByteArray.empty t191 0).extract 9 12)] rfl (by (try simp only [List.map_toArray, List.map_cons, List.map_nil]); first | done | rfl | (simp only [List.length_drop, List.length_take]; rfl)) ?_; (with_reducible refine (strconv_Atoi.calls ((rdOf ByteArray.empty t191 0).extract 9 12) t198 (some q204 : Option Int) _ ?side1 A18.out).mono ?_); (case side1 => first | exact HT.out | exact tabs_below HT.out (by repeat (first | (with_reducible first | exact HB.out | apply below_alloc | apply pw_below_drewN | apply below_drew1) | exact HB.out))); rintro e w24 ⟨ev_, rfl, hv_, hb⟩; (first | (have hv2_ := Go.Proofs.YtpigloohccpfiaaDoor.M.ErrV.nil hv_; subst hv2_; clear hv_) | (obtain ⟨et_, ep_, hv2_⟩ := Go.Proofs.YtpigloohccpfiaaDoor.M.ErrV.one hv_; subst hv2_; clear hv_)); refine ⟨_, rfl, ?_⟩; have n0_ := Aside0.mk (Kd.R_below (by (with_reducible repeat (first | apply Kd.R_alloc | apply Kd.R_drewN | apply Kd.R_drew)); exact HO_8.out) hb); have n1_ := Aside0.mk (below_step (by repeat (first | (with_reducible first | exact HB.out | apply below_alloc | apply pw_below_drewN | apply below_drew1) | exact HB.out)) hb); clear HO_8; clear HB; have HO_8 := n0_; have HB := n1_; clear n0_ n1_; (try clear hb); (try clear hb2); (try clear hk); (try clear hi); (try simp only [errW_none, errW_some]); have p200 : 0 ≤ (2 : Int) := (by omega); have q200 : 2 < (t191.length : Int) := of_decide_eq_true (by first | (with_reducible assumption) | assumption); obtain ⟨ad200, e200, hx200_0⟩ := Kd.at_string (Kd.R_reads' HO_8.out).2.2 2 p200 q200; obtain rfl : ad197 = ad200 := (by injection e200); (try simp only [show (2 : Int).toNat = 2 from rfl, Nat.reduceMul, Nat.reduceEqDiff, Go.Addr.add, ↓reduceIte] at hx200_0); have qi200 : (2 < t191.length) = True := eq_true (by omega); (try rw [show ((2 : Int)).toNat = 2 from rfl] at hx200_0); replace p200 := eq_true p200; replace q200 := eq_true q200) | ((with_reducible refine gate_callee (f := 35) rfl ?_); refine goesL_ (some 58) rfl rfl Tryd.func35 (by kernel_rfl) rfl #[.string (rdOf ByteArray.empty t191 2), .string (⟨#[67, 111, 110, 116, 101, 110, 116, 45, 76, 101, 110, 103, 116, 104, 58, 32]⟩ : ByteArray)] rfl (by (try simp only [List.map_toArray, List.map_cons, List.map_nil]); first | done | rfl | (simp only [List.length_drop, List.length_take]; rfl)) ?_; (with_reducible refine (strings_TrimPrefix.calls (rdOf ByteArray.empty t191 2) (⟨#[67, 111, 110, 116, 101, 110, 116, 45, 76, 101, 110, 103, 116, 104, 58, 32]⟩ : ByteArray) t201 _ A20.out).mono ?_); rintro e w' ⟨rfl, ⟨nd, rfl⟩⟩; refine ⟨_, rfl, ?_⟩) | ((with_reducible refine gate_callee (f := 34) rfl ?_); refine goesL_ (some 59) rfl rfl Tryd.func34 (by kernel_rfl) rfl #[.string t201] rfl (by (try simp only [List.map_toArray, List.map_cons, List.map_nil]); first | done | rfl | (simp only [List.length_drop, List.length_take]; rfl)) ?_; (with_reducible refine (strconv_Atoi.calls t201 t202 (none : Option Int) _ ?side1 A21.out).mono ?_); (case side1 => first | exact HT.out | exact tabs_below HT.out (by repeat (first | (with_reducible first | exact HB.out | apply below_alloc | apply pw_below_drewN | apply below_drew1) | exact HB.out))); rintro e w25 ⟨ev_, rfl, hv_, hb⟩; (first | (have hv2_ := Go.Proofs.YtpigloohccpfiaaDoor.M.ErrV.nil hv_; subst hv2_; clear hv_) | (obtain ⟨et_, ep_, hv2_⟩ := Go.Proofs.YtpigloohccpfiaaDoor.M.ErrV.one hv_; subst hv2_; clear hv_)); refine ⟨_, rfl, ?_⟩; have n0_ := Aside0.mk (Kd.R_below (by (with_reducible repeat (first | apply Kd.R_alloc | apply Kd.R_drewN | apply Kd.R_drew)); exact HO_8.out) hb); have n1_ := Aside0.mk (below_step (by repeat (first | (with_reducible first | exact HB.out | apply below_alloc | apply pw_below_drewN | apply below_drew1) | exact HB.out)) hb); clear HO_8; clear HB; have HO_8 := n0_; have HB := n1_; clear n0_ n1_; (try clear hb); (try clear hb2); (try clear hk); (try clear hi); (try simp only [errW_none, errW_some])))
                    (try simp only [Act.put, List.setIfInBounds_toArray, List.set_cons_zero, List.set_cons_succ])
                    go_cut [82] (fun v82 wc => ∃ (kq : Nat) (x82_21 : Bool), v82 = .bool x82_21 ∧ Aside0 (http_Answer.j1 kq a0 t191 t198 t202 (wrap64 ((t188.size : Int) + 4)) x82_21 = some (r1, r2, r3)) ∧ Aside0 (kq ≤ kj3) ∧ Aside0 (Kd.R Kd.string 9 wc w.heap.size (fun _ => True) (.slice (some ad197) t191.length co23) t191) ∧ Aside0 (Below w.heap.size w wc))
                    case first =>
                      have H := HC22.out
                      clear HC22
                      have H1 : (http_Answer.j1 kj3 a0 t191 t198 t202 (wrap64 ((t188.size : Int) + 4)) true) = some (r1, r2, r3) := by rw [if_neg (show ¬ (some q204).isNone = true by simp)] at H; exact H
                      clear H
                      have H := H1
                      clear H1
                      try simp only [errW_none, errW_some]
                      have H' := Aside0.mk H
                      clear H
                      go_wp2
                      go_meet
                      case rel => exact ⟨_, (true), (by first | rfl | (simp; done) | (simp [*]; done)), H', ⟨by have := HJ3.out; first | omega | exact Nat.le_refl _⟩, ⟨by (with_reducible repeat (first | apply Kd.R_alloc | apply Kd.R_drewN | apply Kd.R_drew)); exact HO_8.out⟩, ⟨by repeat (first | (with_reducible first | exact HB.out | apply below_alloc | apply pw_below_drewN | apply below_drew1) | exact HB.out)⟩⟩
                    case rest =>
                      clear HC22
                      try clear c1
                      try clear p1
                      try clear q1
                      try clear hx1
                      try clear qi1
                      try clear c2
                      try clear p2
                      try clear q2
                      try clear hx2
                      try clear qi2
                      try clear c3
                      try clear c6
                      try clear p6
                      try clear c7
                      try clear c7b0
                      try clear c7b1
                      try clear c9
                      try clear c9b0
                      try clear c9b1
                      try clear c11
                      try clear c14
                      try clear c15
                      try clear c15b0
                      try clear c15b1
                      try clear c16
                      try clear c16b0
                      try clear c16b1
                      try clear c17
                      try clear c17b0
                      try clear c17b1
                      try clear c19
                      try clear c19b0
                      try clear c19b1
                      try clear p19
                      try clear q19
                      try clear hx19
                      try clear qi19
                      try clear p20
                      try clear q20
                      try clear hx20
                      try clear qi20
                      try clear c26
                      try clear c26b0
                      try clear hx194_0
                      try clear hx196_0
                      try clear hx197_0
                      try clear hx200_0
                      try clear p1
                      try clear p194
                      try clear p196
                      try clear p197
                      try clear p2
                      try clear p200
                      try clear q1
                      try clear q194
                      try clear q196
                      try clear q197
                      try clear q200
                      try clear q204
                      try clear q205
                      obtain ⟨kq, x82_21, rfl, HA, HJ21, HO_8, HB⟩ := hcut
                      cases kq with
                      | zero => exact absurd HA.out (by simp [http_Answer.j1])
                      | succ kj21 =>
                        have H := HA.out
                        clear HA
                        simp only [http_Answer.j1] at H
                        by_cases c27 : x82_21 = true
                        · subst c27
                          have H1 : (some (0, (⟨#[]⟩ : ByteArray), 0)) = some (r1, r2, r3) := by rw [if_pos rfl] at H; exact H
                          clear H
                          have H := H1
                          clear H1
                          simp only [Option.some.injEq, Prod.mk.injEq] at H
                          obtain ⟨rfl, rfl, rfl⟩ := H
                          go_wp2
                          go_ret3
                          exact ⟨by first | rfl | (simp [errW_none, errW_some] <;> rfl) | (simp [*, errW_none, errW_some] <;> rfl), by repeat (first | (with_reducible first | exact HB.out | apply below_alloc | apply pw_below_drewN | apply below_drew1) | exact HB.out)⟩
                        · replace c27 := Bool.eq_false_iff.mpr c27
                          subst c27
                          have H1 : (if 0 ≤ (wrap64 ((t188.size : Int) + 4)) then (if (wrap64 ((t188.size : Int) + 4)) ≤ (wrap64 ((wrap64 ((t188.size : Int) + 4)) + t202)) then (if (wrap64 ((wrap64 ((t188.size : Int) + 4)) + t202)) ≤ (a0.size : Int) then ((http_Write.f kj21 t198 (a0.extract ((wrap64 ((t188.size : Int) + 4)) : Int).toNat ((wrap64 ((wrap64 ((t188.size : Int) + 4)) + t202)) : Int).toNat) ((t191.length : Int) == 4)).bind fun bt206 => (if 0 ≤ (wrap64 ((wrap64 ((t188.size : Int) + 4)) + t202)) then (if bt206.1.toList = (a0.extract 0 ((wrap64 ((wrap64 ((t188.size : Int) + 4)) + t202)) : Int).toNat).toList then (some (t198, a0.extract ((wrap64 ((t188.size : Int) + 4)) : Int).toNat ((wrap64 ((wrap64 ((t188.size : Int) + 4)) + t202)) : Int).toNat, wrap64 ((wrap64 ((t188.size : Int) + 4)) + t202))) else (some (0, (⟨#[]⟩ : ByteArray), 0))) else (none))) else (none)) else (none)) else (none)) = some (r1, r2, r3) := by rw [if_neg (show ¬ (false = true) by decide)] at H; exact H
                          clear H
                          have H := H1
                          clear H1
                          obtain ⟨ji28, hji28⟩ : ∃ j_ : Int, (wrap64 ((t188.size : Int) + 4)) = j_ := ⟨_, rfl⟩
                          replace H : (if 0 ≤ (ji28) then (if (ji28) ≤ (wrap64 ((ji28) + t202)) then (if (wrap64 ((ji28) + t202)) ≤ (a0.size : Int) then ((http_Write.f kj21 t198 (a0.extract ((ji28) : Int).toNat ((wrap64 ((ji28) + t202)) : Int).toNat) ((t191.length : Int) == 4)).bind fun bt206 => (if 0 ≤ (wrap64 ((ji28) + t202)) then (if bt206.1.toList = (a0.extract 0 ((wrap64 ((ji28) + t202)) : Int).toNat).toList then (some (t198, a0.extract ((ji28) : Int).toNat ((wrap64 ((ji28) + t202)) : Int).toNat, wrap64 ((ji28) + t202))) else (some (0, (⟨#[]⟩ : ByteArray), 0))) else (none))) else (none)) else (none)) else (none)) = some (r1, r2, r3) := by first | (rw [hji28] at H; exact H) | (simp only [hji28] at H ⊢; exact H)
                          have hji28w : (IntKind.i64.wrap ((t188.size : Int) + 4)) = ji28 := (i64_w _).trans hji28
                          by_cases c29 : 0 ≤ (ji28)
                          · rw [if_pos c29] at H
                            have c29b0 := eq_true c29
                            have c29b1 : decide (0 ≤ (ji28)) = true := decide_eq_true c29
                            clear c29
                            by_cases c30 : (ji28) ≤ (wrap64 ((ji28) + t202))
                            · rw [if_pos c30] at H
                              have c30b0 := eq_true c30
                              have c30b1 : decide ((ji28) ≤ (wrap64 ((ji28) + t202))) = true := decide_eq_true c30
                              by_cases c31 : (wrap64 ((ji28) + t202)) ≤ (a0.size : Int)
                              · rw [if_pos c31] at H
                                have c31b0 := eq_true c31
                                have c31b1 : decide ((wrap64 ((ji28) + t202)) ≤ (a0.size : Int)) = true := decide_eq_true c31
                                replace H := Option.bind_eq_some_iff.mp H
                                obtain ⟨⟨t206, t207⟩, A320, H⟩ := H
                                replace H : (if 0 ≤ (wrap64 ((ji28) + t202)) then (if t206.toList = (a0.extract 0 ((wrap64 ((ji28) + t202)) : Int).toNat).toList then (some (t198, a0.extract ((ji28) : Int).toNat ((wrap64 ((ji28) + t202)) : Int).toNat, wrap64 ((ji28) + t202))) else (some (0, (⟨#[]⟩ : ByteArray), 0))) else (none)) = some (r1, r2, r3) := H
                                have A32 := Aside0.mk A320
                                clear A320
                                obtain ⟨ji33, hji33⟩ : ∃ j_ : Int, (wrap64 ((ji28) + t202)) = j_ := ⟨_, rfl⟩
                                replace H : (if 0 ≤ (ji33) then (if t206.toList = (a0.extract 0 ((ji33) : Int).toNat).toList then (some (t198, a0.extract ((ji28) : Int).toNat ((ji33) : Int).toNat, ji33)) else (some (0, (⟨#[]⟩ : ByteArray), 0))) else (none)) = some (r1, r2, r3) := by first | (rw [hji33] at H; exact H) | (simp only [hji33] at H ⊢; exact H)
                                (try rw [hji33] at c30b0)
                                (try rw [hji33] at c30b1)
                                (try rw [hji33] at c30)
                                (try rw [hji33] at c31b0)
                                (try rw [hji33] at c31b1)
                                (try rw [hji33] at c31)
                                (try rw [hji33] at A32)
                                have hji33w : (IntKind.i64.wrap ((ji28) + t202)) = ji33 := (i64_w _).trans hji33
                                by_cases c34 : 0 ≤ (ji33)
                                · rw [if_pos c34] at H
                                  have c34b0 := eq_true c34
                                  have c34b1 : decide (0 ≤ (ji33)) = true := decide_eq_true c34
                                  clear c34
                                  have c35b0 := eq_true (of_decide_eq_true (by first | (with_reducible assumption) | assumption) : (ji33) ≤ (a0.size : Int))
                                  by_cases c36 : t206.toList = (a0.extract 0 ((ji33) : Int).toNat).toList
                                  · rw [if_pos c36] at H
                                    have c36b0 : (t206.toList == (a0.extract 0 ((ji33) : Int).toNat).toList) = true := beq_iff_eq.mpr c36
                                    have c36b1 : (t206.toList != (a0.extract 0 ((ji33) : Int).toNat).toList) = false := bne_eq_false_iff_eq.mpr c36
                                    clear c36
                                    simp only [Option.some.injEq, Prod.mk.injEq] at H
                                    obtain ⟨rfl, rfl, rfl⟩ := H
                                    go_wp2_with (first | ((with_reducible refine gate_callee (f := 14) rfl ?_); refine goesL_ (some 95) rfl rfl Tryd.func14 (by kernel_rfl) rfl #[.int .i64 t198, .string (a0.extract ((ji28) : Int).toNat ((ji33) : Int).toNat), .bool ((t191.length : Int) == 4)] rfl (by (try simp only [List.map_toArray, List.map_cons, List.map_nil]); first | done | (simp only [hji28, hji33]; rfl) | rfl | (simp only [List.length_drop, List.length_take]; rfl)) ?_; (with_reducible refine (http_Write.calls kj21 t198 (a0.extract ((ji28) : Int).toNat ((ji33) : Int).toNat) ((t191.length : Int) == 4) t206 t207 _ ?side1 A32.out).mono ?_); (case side1 => first | exact HT.out | exact tabs_below HT.out (by repeat (first | (with_reducible first | exact HB.out | apply below_alloc | apply pw_below_drewN | apply below_drew1) | exact HB.out))); rintro e w37 ⟨rfl, hb⟩; refine ⟨_, rfl, ?_⟩; have n0_ := Aside0.mk (Kd.R_below (by (with_reducible repeat (first | apply Kd.R_alloc | apply Kd.R_drewN | apply Kd.R_drew)); exact HO_8.out) hb); have n1_ := Aside0.mk (below_step (by repeat (first | (with_reducible first | exact HB.out | apply below_alloc | apply pw_below_drewN | apply below_drew1) | exact HB.out)) hb); clear HO_8; clear HB; have HO_8 := n0_; have HB := n1_; clear n0_ n1_; (try clear hb); (try clear hb2); (try clear hk); (try clear hi)))
                                    go_ret3
                                    exact ⟨by first | rfl | (simp [errW_none, errW_some] <;> rfl) | (simp only [← hji28, ← hji33]; first | rfl | (simp [errW_none, errW_some] <;> rfl)) | (simp [*, errW_none, errW_some] <;> rfl), by repeat (first | (with_reducible first | exact HB.out | apply below_alloc | apply pw_below_drewN | apply below_drew1) | exact HB.out)⟩
                                  · rw [if_neg c36] at H
                                    have c36b0 : (t206.toList == (a0.extract 0 ((ji33) : Int).toNat).toList) = false := beq_eq_false_iff_ne.mpr c36
                                    have c36b1 : (t206.toList != (a0.extract 0 ((ji33) : Int).toNat).toList) = true := bne_iff_ne.mpr c36
                                    simp only [Option.some.injEq, Prod.mk.injEq] at H
                                    obtain ⟨rfl, rfl, rfl⟩ := H
                                    go_wp2_with (first | ((with_reducible refine gate_callee (f := 14) rfl ?_); refine goesL_ (some 95) rfl rfl Tryd.func14 (by kernel_rfl) rfl #[.int .i64 t198, .string (a0.extract ((ji28) : Int).toNat ((ji33) : Int).toNat), .bool ((t191.length : Int) == 4)] rfl (by (try simp only [List.map_toArray, List.map_cons, List.map_nil]); first | done | (simp only [hji28, hji33]; rfl) | rfl | (simp only [List.length_drop, List.length_take]; rfl)) ?_; (with_reducible refine (http_Write.calls kj21 t198 (a0.extract ((ji28) : Int).toNat ((ji33) : Int).toNat) ((t191.length : Int) == 4) t206 t207 _ ?side1 A32.out).mono ?_); (case side1 => first | exact HT.out | exact tabs_below HT.out (by repeat (first | (with_reducible first | exact HB.out | apply below_alloc | apply pw_below_drewN | apply below_drew1) | exact HB.out))); rintro e w38 ⟨rfl, hb⟩; refine ⟨_, rfl, ?_⟩; have n0_ := Aside0.mk (Kd.R_below (by (with_reducible repeat (first | apply Kd.R_alloc | apply Kd.R_drewN | apply Kd.R_drew)); exact HO_8.out) hb); have n1_ := Aside0.mk (below_step (by repeat (first | (with_reducible first | exact HB.out | apply below_alloc | apply pw_below_drewN | apply below_drew1) | exact HB.out)) hb); clear HO_8; clear HB; have HO_8 := n0_; have HB := n1_; clear n0_ n1_; (try clear hb); (try clear hb2); (try clear hk); (try clear hi)))
                                    go_ret3
                                    exact ⟨by first | rfl | (simp [errW_none, errW_some] <;> rfl) | (simp only [← hji28, ← hji33]; first | rfl | (simp [errW_none, errW_some] <;> rfl)) | (simp [*, errW_none, errW_some] <;> rfl), by repeat (first | (with_reducible first | exact HB.out | apply below_alloc | apply pw_below_drewN | apply below_drew1) | exact HB.out)⟩
                                · rw [if_neg c34] at H
                                  exact absurd H (by simp)
                              · rw [if_neg c31] at H
                                exact absurd H (by simp)
                            · rw [if_neg c30] at H
                              exact absurd H (by simp)
                          · rw [if_neg c29] at H
                            exact absurd H (by simp)
                  · obtain ⟨Ao23, co23, eo23⟩ := Kd.R_slice HO_8.out
                    subst eo23
                    have p197 : 0 ≤ (0 : Int) := (by omega)
                    have q197 : 0 < (t191.length : Int) := of_decide_eq_true (by first | (with_reducible assumption) | assumption)
                    obtain ⟨ad197, e197, hx197_0⟩ := Kd.at_string (Kd.R_reads' HO_8.out).2.2 0 p197 q197
                    cases e197
                    have qi197 : (0 < t191.length) = True := eq_true (by omega)
                    (try rw [show ((0 : Int)).toNat = 0 from rfl] at hx197_0)
                    (try rw [Addr.add_zero'] at hx197_0)
                    replace p197 := eq_true p197
                    replace q197 := eq_true q197
                    go_upto_region 8 with (first | ((with_reducible refine gate_callee (f := 34) rfl ?_); refine goesL_ (some 51) rfl rfl Tryd.func34 (by kernel_rfl) rfl #[.string ((rdOf ByteArray.empty t191 0).extract 9 12)] rfl (by (try simp only [List.map_toArray, List.map_cons, List.map_nil]); first | done | rfl | (simp only [List.length_drop, List.length_take]; rfl)) ?_; (with_reducible refine (strconv_Atoi.calls ((rdOf ByteArray.empty t191 0).extract 9 12) t198 (some q204 : Option Int) _ ?side1 A18.out).mono ?_); (case side1 => first | exact HT.out | exact tabs_below HT.out (by repeat (first | (with_reducible first | exact HB.out | apply below_alloc | apply pw_below_drewN | apply below_drew1) | exact HB.out))); rintro e w24 ⟨ev_, rfl, hv_, hb⟩; (first | (have hv2_ := Go.Proofs.YtpigloohccpfiaaDoor.M.ErrV.nil hv_; subst hv2_; clear hv_) | (obtain ⟨et_, ep_, hv2_⟩ := Go.Proofs.YtpigloohccpfiaaDoor.M.ErrV.one hv_; subst hv2_; clear hv_)); refine ⟨_, rfl, ?_⟩; have n0_ := Aside0.mk (Kd.R_below (by (with_reducible repeat (first | apply Kd.R_alloc | apply Kd.R_drewN | apply Kd.R_drew)); exact HO_8.out) hb); have n1_ := Aside0.mk (below_step (by repeat (first | (with_reducible first | exact HB.out | apply below_alloc | apply pw_below_drewN | apply below_drew1) | exact HB.out)) hb); clear HO_8; clear HB; have HO_8 := n0_; have HB := n1_; clear n0_ n1_; (try clear hb); (try clear hb2); (try clear hk); (try clear hi); (try simp only [errW_none, errW_some]); have p200 : 0 ≤ (2 : Int) := (by omega); have q200 : 2 < (t191.length : Int) := of_decide_eq_true (by first | (with_reducible assumption) | assumption); obtain ⟨ad200, e200, hx200_0⟩ := Kd.at_string (Kd.R_reads' HO_8.out).2.2 2 p200 q200; obtain rfl : ad197 = ad200 := (by injection e200); (try simp only [show (2 : Int).toNat = 2 from rfl, Nat.reduceMul, Nat.reduceEqDiff, Go.Addr.add, ↓reduceIte] at hx200_0); have qi200 : (2 < t191.length) = True := eq_true (by omega); (try rw [show ((2 : Int)).toNat = 2 from rfl] at hx200_0); replace p200 := eq_true p200; replace q200 := eq_true q200) | ((with_reducible refine gate_callee (f := 35) rfl ?_); refine goesL_ (some 58) rfl rfl Tryd.func35 (by kernel_rfl) rfl #[.string (rdOf ByteArray.empty t191 2), .string (⟨#[67, 111, 110, 116, 101, 110, 116, 45, 76, 101, 110, 103, 116, 104, 58, 32]⟩ : ByteArray)] rfl (by (try simp only [List.map_toArray, List.map_cons, List.map_nil]); first | done | rfl | (simp only [List.length_drop, List.length_take]; rfl)) ?_; (with_reducible refine (strings_TrimPrefix.calls (rdOf ByteArray.empty t191 2) (⟨#[67, 111, 110, 116, 101, 110, 116, 45, 76, 101, 110, 103, 116, 104, 58, 32]⟩ : ByteArray) t201 _ A20.out).mono ?_); rintro e w' ⟨rfl, ⟨nd, rfl⟩⟩; refine ⟨_, rfl, ?_⟩) | ((with_reducible refine gate_callee (f := 34) rfl ?_); refine goesL_ (some 59) rfl rfl Tryd.func34 (by kernel_rfl) rfl #[.string t201] rfl (by (try simp only [List.map_toArray, List.map_cons, List.map_nil]); first | done | rfl | (simp only [List.length_drop, List.length_take]; rfl)) ?_; (with_reducible refine (strconv_Atoi.calls t201 t202 (some q205 : Option Int) _ ?side1 A21.out).mono ?_); (case side1 => first | exact HT.out | exact tabs_below HT.out (by repeat (first | (with_reducible first | exact HB.out | apply below_alloc | apply pw_below_drewN | apply below_drew1) | exact HB.out))); rintro e w25 ⟨ev_, rfl, hv_, hb⟩; (first | (have hv2_ := Go.Proofs.YtpigloohccpfiaaDoor.M.ErrV.nil hv_; subst hv2_; clear hv_) | (obtain ⟨et_, ep_, hv2_⟩ := Go.Proofs.YtpigloohccpfiaaDoor.M.ErrV.one hv_; subst hv2_; clear hv_)); refine ⟨_, rfl, ?_⟩; have n0_ := Aside0.mk (Kd.R_below (by (with_reducible repeat (first | apply Kd.R_alloc | apply Kd.R_drewN | apply Kd.R_drew)); exact HO_8.out) hb); have n1_ := Aside0.mk (below_step (by repeat (first | (with_reducible first | exact HB.out | apply below_alloc | apply pw_below_drewN | apply below_drew1) | exact HB.out)) hb); clear HO_8; clear HB; have HO_8 := n0_; have HB := n1_; clear n0_ n1_; (try clear hb); (try clear hb2); (try clear hk); (try clear hi); (try simp only [errW_none, errW_some])))
                    (try simp only [Act.put, List.setIfInBounds_toArray, List.set_cons_zero, List.set_cons_succ])
                    go_cut [82] (fun v82 wc => ∃ (kq : Nat) (x82_21 : Bool), v82 = .bool x82_21 ∧ Aside0 (http_Answer.j1 kq a0 t191 t198 t202 (wrap64 ((t188.size : Int) + 4)) x82_21 = some (r1, r2, r3)) ∧ Aside0 (kq ≤ kj3) ∧ Aside0 (Kd.R Kd.string 9 wc w.heap.size (fun _ => True) (.slice (some ad197) t191.length co23) t191) ∧ Aside0 (Below w.heap.size w wc))
                    case first =>
                      have H := HC22.out
                      clear HC22
                      have H1 : (http_Answer.j1 kj3 a0 t191 t198 t202 (wrap64 ((t188.size : Int) + 4)) true) = some (r1, r2, r3) := by rw [if_neg (show ¬ (some q204).isNone = true by simp)] at H; exact H
                      clear H
                      have H := H1
                      clear H1
                      try simp only [errW_none, errW_some]
                      have H' := Aside0.mk H
                      clear H
                      go_wp2
                      go_meet
                      case rel => exact ⟨_, (true), (by first | rfl | (simp; done) | (simp [*]; done)), H', ⟨by have := HJ3.out; first | omega | exact Nat.le_refl _⟩, ⟨by (with_reducible repeat (first | apply Kd.R_alloc | apply Kd.R_drewN | apply Kd.R_drew)); exact HO_8.out⟩, ⟨by repeat (first | (with_reducible first | exact HB.out | apply below_alloc | apply pw_below_drewN | apply below_drew1) | exact HB.out)⟩⟩
                    case rest =>
                      clear HC22
                      try clear c1
                      try clear p1
                      try clear q1
                      try clear hx1
                      try clear qi1
                      try clear c2
                      try clear p2
                      try clear q2
                      try clear hx2
                      try clear qi2
                      try clear c3
                      try clear c6
                      try clear p6
                      try clear c7
                      try clear c7b0
                      try clear c7b1
                      try clear c9
                      try clear c9b0
                      try clear c9b1
                      try clear c11
                      try clear c14
                      try clear c15
                      try clear c15b0
                      try clear c15b1
                      try clear c16
                      try clear c16b0
                      try clear c16b1
                      try clear c17
                      try clear c17b0
                      try clear c17b1
                      try clear c19
                      try clear c19b0
                      try clear c19b1
                      try clear p19
                      try clear q19
                      try clear hx19
                      try clear qi19
                      try clear p20
                      try clear q20
                      try clear hx20
                      try clear qi20
                      try clear c26
                      try clear c26b0
                      try clear hx194_0
                      try clear hx196_0
                      try clear hx197_0
                      try clear hx200_0
                      try clear p1
                      try clear p194
                      try clear p196
                      try clear p197
                      try clear p2
                      try clear p200
                      try clear q1
                      try clear q194
                      try clear q196
                      try clear q197
                      try clear q200
                      try clear q204
                      try clear q205
                      obtain ⟨kq, x82_21, rfl, HA, HJ21, HO_8, HB⟩ := hcut
                      cases kq with
                      | zero => exact absurd HA.out (by simp [http_Answer.j1])
                      | succ kj21 =>
                        have H := HA.out
                        clear HA
                        simp only [http_Answer.j1] at H
                        by_cases c27 : x82_21 = true
                        · subst c27
                          have H1 : (some (0, (⟨#[]⟩ : ByteArray), 0)) = some (r1, r2, r3) := by rw [if_pos rfl] at H; exact H
                          clear H
                          have H := H1
                          clear H1
                          simp only [Option.some.injEq, Prod.mk.injEq] at H
                          obtain ⟨rfl, rfl, rfl⟩ := H
                          go_wp2
                          go_ret3
                          exact ⟨by first | rfl | (simp [errW_none, errW_some] <;> rfl) | (simp [*, errW_none, errW_some] <;> rfl), by repeat (first | (with_reducible first | exact HB.out | apply below_alloc | apply pw_below_drewN | apply below_drew1) | exact HB.out)⟩
                        · replace c27 := Bool.eq_false_iff.mpr c27
                          subst c27
                          have H1 : (if 0 ≤ (wrap64 ((t188.size : Int) + 4)) then (if (wrap64 ((t188.size : Int) + 4)) ≤ (wrap64 ((wrap64 ((t188.size : Int) + 4)) + t202)) then (if (wrap64 ((wrap64 ((t188.size : Int) + 4)) + t202)) ≤ (a0.size : Int) then ((http_Write.f kj21 t198 (a0.extract ((wrap64 ((t188.size : Int) + 4)) : Int).toNat ((wrap64 ((wrap64 ((t188.size : Int) + 4)) + t202)) : Int).toNat) ((t191.length : Int) == 4)).bind fun bt206 => (if 0 ≤ (wrap64 ((wrap64 ((t188.size : Int) + 4)) + t202)) then (if bt206.1.toList = (a0.extract 0 ((wrap64 ((wrap64 ((t188.size : Int) + 4)) + t202)) : Int).toNat).toList then (some (t198, a0.extract ((wrap64 ((t188.size : Int) + 4)) : Int).toNat ((wrap64 ((wrap64 ((t188.size : Int) + 4)) + t202)) : Int).toNat, wrap64 ((wrap64 ((t188.size : Int) + 4)) + t202))) else (some (0, (⟨#[]⟩ : ByteArray), 0))) else (none))) else (none)) else (none)) else (none)) = some (r1, r2, r3) := by rw [if_neg (show ¬ (false = true) by decide)] at H; exact H
                          clear H
                          have H := H1
                          clear H1
                          obtain ⟨ji28, hji28⟩ : ∃ j_ : Int, (wrap64 ((t188.size : Int) + 4)) = j_ := ⟨_, rfl⟩
                          replace H : (if 0 ≤ (ji28) then (if (ji28) ≤ (wrap64 ((ji28) + t202)) then (if (wrap64 ((ji28) + t202)) ≤ (a0.size : Int) then ((http_Write.f kj21 t198 (a0.extract ((ji28) : Int).toNat ((wrap64 ((ji28) + t202)) : Int).toNat) ((t191.length : Int) == 4)).bind fun bt206 => (if 0 ≤ (wrap64 ((ji28) + t202)) then (if bt206.1.toList = (a0.extract 0 ((wrap64 ((ji28) + t202)) : Int).toNat).toList then (some (t198, a0.extract ((ji28) : Int).toNat ((wrap64 ((ji28) + t202)) : Int).toNat, wrap64 ((ji28) + t202))) else (some (0, (⟨#[]⟩ : ByteArray), 0))) else (none))) else (none)) else (none)) else (none)) = some (r1, r2, r3) := by first | (rw [hji28] at H; exact H) | (simp only [hji28] at H ⊢; exact H)
                          have hji28w : (IntKind.i64.wrap ((t188.size : Int) + 4)) = ji28 := (i64_w _).trans hji28
                          by_cases c29 : 0 ≤ (ji28)
                          · rw [if_pos c29] at H
                            have c29b0 := eq_true c29
                            have c29b1 : decide (0 ≤ (ji28)) = true := decide_eq_true c29
                            clear c29
                            by_cases c30 : (ji28) ≤ (wrap64 ((ji28) + t202))
                            · rw [if_pos c30] at H
                              have c30b0 := eq_true c30
                              have c30b1 : decide ((ji28) ≤ (wrap64 ((ji28) + t202))) = true := decide_eq_true c30
                              by_cases c31 : (wrap64 ((ji28) + t202)) ≤ (a0.size : Int)
                              · rw [if_pos c31] at H
                                have c31b0 := eq_true c31
                                have c31b1 : decide ((wrap64 ((ji28) + t202)) ≤ (a0.size : Int)) = true := decide_eq_true c31
                                replace H := Option.bind_eq_some_iff.mp H
                                obtain ⟨⟨t206, t207⟩, A320, H⟩ := H
                                replace H : (if 0 ≤ (wrap64 ((ji28) + t202)) then (if t206.toList = (a0.extract 0 ((wrap64 ((ji28) + t202)) : Int).toNat).toList then (some (t198, a0.extract ((ji28) : Int).toNat ((wrap64 ((ji28) + t202)) : Int).toNat, wrap64 ((ji28) + t202))) else (some (0, (⟨#[]⟩ : ByteArray), 0))) else (none)) = some (r1, r2, r3) := H
                                have A32 := Aside0.mk A320
                                clear A320
                                obtain ⟨ji33, hji33⟩ : ∃ j_ : Int, (wrap64 ((ji28) + t202)) = j_ := ⟨_, rfl⟩
                                replace H : (if 0 ≤ (ji33) then (if t206.toList = (a0.extract 0 ((ji33) : Int).toNat).toList then (some (t198, a0.extract ((ji28) : Int).toNat ((ji33) : Int).toNat, ji33)) else (some (0, (⟨#[]⟩ : ByteArray), 0))) else (none)) = some (r1, r2, r3) := by first | (rw [hji33] at H; exact H) | (simp only [hji33] at H ⊢; exact H)
                                (try rw [hji33] at c30b0)
                                (try rw [hji33] at c30b1)
                                (try rw [hji33] at c30)
                                (try rw [hji33] at c31b0)
                                (try rw [hji33] at c31b1)
                                (try rw [hji33] at c31)
                                (try rw [hji33] at A32)
                                have hji33w : (IntKind.i64.wrap ((ji28) + t202)) = ji33 := (i64_w _).trans hji33
                                by_cases c34 : 0 ≤ (ji33)
                                · rw [if_pos c34] at H
                                  have c34b0 := eq_true c34
                                  have c34b1 : decide (0 ≤ (ji33)) = true := decide_eq_true c34
                                  clear c34
                                  have c35b0 := eq_true (of_decide_eq_true (by first | (with_reducible assumption) | assumption) : (ji33) ≤ (a0.size : Int))
                                  by_cases c36 : t206.toList = (a0.extract 0 ((ji33) : Int).toNat).toList
                                  · rw [if_pos c36] at H
                                    have c36b0 : (t206.toList == (a0.extract 0 ((ji33) : Int).toNat).toList) = true := beq_iff_eq.mpr c36
                                    have c36b1 : (t206.toList != (a0.extract 0 ((ji33) : Int).toNat).toList) = false := bne_eq_false_iff_eq.mpr c36
                                    clear c36
                                    simp only [Option.some.injEq, Prod.mk.injEq] at H
                                    obtain ⟨rfl, rfl, rfl⟩ := H
                                    go_wp2_with (first | ((with_reducible refine gate_callee (f := 14) rfl ?_); refine goesL_ (some 95) rfl rfl Tryd.func14 (by kernel_rfl) rfl #[.int .i64 t198, .string (a0.extract ((ji28) : Int).toNat ((ji33) : Int).toNat), .bool ((t191.length : Int) == 4)] rfl (by (try simp only [List.map_toArray, List.map_cons, List.map_nil]); first | done | (simp only [hji28, hji33]; rfl) | rfl | (simp only [List.length_drop, List.length_take]; rfl)) ?_; (with_reducible refine (http_Write.calls kj21 t198 (a0.extract ((ji28) : Int).toNat ((ji33) : Int).toNat) ((t191.length : Int) == 4) t206 t207 _ ?side1 A32.out).mono ?_); (case side1 => first | exact HT.out | exact tabs_below HT.out (by repeat (first | (with_reducible first | exact HB.out | apply below_alloc | apply pw_below_drewN | apply below_drew1) | exact HB.out))); rintro e w37 ⟨rfl, hb⟩; refine ⟨_, rfl, ?_⟩; have n0_ := Aside0.mk (Kd.R_below (by (with_reducible repeat (first | apply Kd.R_alloc | apply Kd.R_drewN | apply Kd.R_drew)); exact HO_8.out) hb); have n1_ := Aside0.mk (below_step (by repeat (first | (with_reducible first | exact HB.out | apply below_alloc | apply pw_below_drewN | apply below_drew1) | exact HB.out)) hb); clear HO_8; clear HB; have HO_8 := n0_; have HB := n1_; clear n0_ n1_; (try clear hb); (try clear hb2); (try clear hk); (try clear hi)))
                                    go_ret3
                                    exact ⟨by first | rfl | (simp [errW_none, errW_some] <;> rfl) | (simp only [← hji28, ← hji33]; first | rfl | (simp [errW_none, errW_some] <;> rfl)) | (simp [*, errW_none, errW_some] <;> rfl), by repeat (first | (with_reducible first | exact HB.out | apply below_alloc | apply pw_below_drewN | apply below_drew1) | exact HB.out)⟩
                                  · rw [if_neg c36] at H
                                    have c36b0 : (t206.toList == (a0.extract 0 ((ji33) : Int).toNat).toList) = false := beq_eq_false_iff_ne.mpr c36
                                    have c36b1 : (t206.toList != (a0.extract 0 ((ji33) : Int).toNat).toList) = true := bne_iff_ne.mpr c36
                                    simp only [Option.some.injEq, Prod.mk.injEq] at H
                                    obtain ⟨rfl, rfl, rfl⟩ := H
                                    go_wp2_with (first | ((with_reducible refine gate_callee (f := 14) rfl ?_); refine goesL_ (some 95) rfl rfl Tryd.func14 (by kernel_rfl) rfl #[.int .i64 t198, .string (a0.extract ((ji28) : Int).toNat ((ji33) : Int).toNat), .bool ((t191.length : Int) == 4)] rfl (by (try simp only [List.map_toArray, List.map_cons, List.map_nil]); first | done | (simp only [hji28, hji33]; rfl) | rfl | (simp only [List.length_drop, List.length_take]; rfl)) ?_; (with_reducible refine (http_Write.calls kj21 t198 (a0.extract ((ji28) : Int).toNat ((ji33) : Int).toNat) ((t191.length : Int) == 4) t206 t207 _ ?side1 A32.out).mono ?_); (case side1 => first | exact HT.out | exact tabs_below HT.out (by repeat (first | (with_reducible first | exact HB.out | apply below_alloc | apply pw_below_drewN | apply below_drew1) | exact HB.out))); rintro e w38 ⟨rfl, hb⟩; refine ⟨_, rfl, ?_⟩; have n0_ := Aside0.mk (Kd.R_below (by (with_reducible repeat (first | apply Kd.R_alloc | apply Kd.R_drewN | apply Kd.R_drew)); exact HO_8.out) hb); have n1_ := Aside0.mk (below_step (by repeat (first | (with_reducible first | exact HB.out | apply below_alloc | apply pw_below_drewN | apply below_drew1) | exact HB.out)) hb); clear HO_8; clear HB; have HO_8 := n0_; have HB := n1_; clear n0_ n1_; (try clear hb); (try clear hb2); (try clear hk); (try clear hi)))
                                    go_ret3
                                    exact ⟨by first | rfl | (simp [errW_none, errW_some] <;> rfl) | (simp only [← hji28, ← hji33]; first | rfl | (simp [errW_none, errW_some] <;> rfl)) | (simp [*, errW_none, errW_some] <;> rfl), by repeat (first | (with_reducible first | exact HB.out | apply below_alloc | apply pw_below_drewN | apply below_drew1) | exact HB.out)⟩
                                · rw [if_neg c34] at H
                                  exact absurd H (by simp)
                              · rw [if_neg c31] at H
                                exact absurd H (by simp)
                            · rw [if_neg c30] at H
                              exact absurd H (by simp)
                          · rw [if_neg c29] at H
                            exact absurd H (by simp)
              · rw [if_neg c19] at H
                exact absurd H (by simp)
            · rw [if_neg c17] at H
              exact absurd H (by simp)
          · rw [if_neg c16] at H
            exact absurd H (by simp)
        · rw [if_neg c15] at H
          exact absurd H (by simp)

/-! ### fascinelaw12_HttpWrites: function 7 -/
def fascinelaw12_HttpWrites.j0 : Nat → Int → ByteArray → Bool → ByteArray → ByteArray → Int → Bool → Option (Bool)
  | 0, _, _, _, _, _, _, _ => none
  | k + 1, x0, x1, x2, x3, x9, x10, x28 => if x28 = true then (if x10 = 1 then (some (x9.toList == ([] : List UInt8))) else (some false)) else (if x10 = 0 then ((fascineref12_Write.f k x0 x1 x2).bind fun t211 => (if x9.toList = t211.toList then (if x9.size + x3.size ≤ 9223372036854775807 then ((http_Answer.f k (x9 ++ x3)).bind fun bt212 => (if bt212.1 = x0 then (if bt212.2.1.toList = x1.toList then (some (bt212.2.2 == (x9.size : Int))) else (some false)) else (some false))) else (none)) else (some false))) else (some false))
def fascinelaw12_HttpWrites.f (k : Nat) (a0 : Int) (a1 : ByteArray) (a2 : Bool) (a3 : ByteArray) : Option (Bool) := (fascinelaw12_awake.f k).bind fun t208 => (if t208 = true then ((http_Write.f k a0 a1 a2).bind fun bt209 => (if a0 < 100 then (fascinelaw12_HttpWrites.j0 k a0 a1 a2 a3 bt209.1 bt209.2 true) else (fascinelaw12_HttpWrites.j0 k a0 a1 a2 a3 bt209.1 bt209.2 (decide (a0 > 999))))) else (some false))
theorem fascinelaw12_HttpWrites.mono_l : ∀ k, (∀ y0 y1 y2 y3 y4 y5 y6, LeO (fascinelaw12_HttpWrites.j0 k y0 y1 y2 y3 y4 y5 y6) (fascinelaw12_HttpWrites.j0 (k + 1) y0 y1 y2 y3 y4 y5 y6))
  | 0 => fun _ _ _ _ _ _ _ r h => by simp [fascinelaw12_HttpWrites.j0] at h
  | k + 1 => by
    have ih0 := fascinelaw12_HttpWrites.mono_l k
    · intro y0 y1 y2 y3 y4 y5 y6
      unfold fascinelaw12_HttpWrites.j0
      repeat' first
      | (with_reducible exact ih0 _ _ _ _ _ _ _)
      | (with_reducible exact fascinelaw12_awake.mono _)
      | (with_reducible exact fascineref12_Write.mono _ _ _ _)
      | (with_reducible exact http_Answer.mono _ _)
      | (with_reducible exact http_Write.mono _ _ _ _)
      | (with_reducible exact LeO.refl _)
      | (with_reducible exact LeO.none _)
      | (with_reducible refine LeO.ite ?_ ?_)
      | (with_reducible refine LeO.bind ?_ (fun _ => ?_))
      | exact ih0 _ _ _ _ _ _ _
      | exact fascinelaw12_awake.mono _
      | exact fascineref12_Write.mono _ _ _ _
      | exact http_Answer.mono _ _
      | exact http_Write.mono _ _ _ _
      | exact LeO.none _
      | refine LeO.ite ?_ ?_
      | refine LeO.bind ?_ (fun _ => ?_)
theorem fascinelaw12_HttpWrites.mono : ∀ a0 a1 a2 a3 k, LeO (fascinelaw12_HttpWrites.f k a0 a1 a2 a3) (fascinelaw12_HttpWrites.f (k + 1) a0 a1 a2 a3) := by
  intro a0 a1 a2 a3 k
  have ih0 := fascinelaw12_HttpWrites.mono_l k
  unfold fascinelaw12_HttpWrites.f
  repeat' first
      | (with_reducible exact ih0 _ _ _ _ _ _ _)
      | (with_reducible exact fascinelaw12_awake.mono _)
      | (with_reducible exact fascineref12_Write.mono _ _ _ _)
      | (with_reducible exact http_Answer.mono _ _)
      | (with_reducible exact http_Write.mono _ _ _ _)
      | (with_reducible exact LeO.refl _)
      | (with_reducible exact LeO.none _)
      | (with_reducible refine LeO.ite ?_ ?_)
      | (with_reducible refine LeO.bind ?_ (fun _ => ?_))
      | exact ih0 _ _ _ _ _ _ _
      | exact fascinelaw12_awake.mono _
      | exact fascineref12_Write.mono _ _ _ _
      | exact http_Answer.mono _ _
      | exact http_Write.mono _ _ _ _
      | exact LeO.none _
      | refine LeO.ite ?_ ?_
      | refine LeO.bind ?_ (fun _ => ?_)
set_option maxHeartbeats 8000000 in
set_option maxRecDepth 100000 in
theorem fascinelaw12_HttpWrites.calls (k : Nat) (a0 : Int) (a1 : ByteArray) (a2 : Bool) (a3 : ByteArray) (r : Bool) (w : World) (hT : tabs w) (h : fascinelaw12_HttpWrites.f k a0 a1 a2 a3 = some r) (hr_ : r = true) :
    Calls Tryd.prog 7 #[.int .i64 a0, .string a1, .bool a2, .string a3] w fun e w' => e = .returned (.bool r) ∧ Below w.heap.size w w' := by
  have HR_ := Aside0.mk hr_
  clear hr_
  have HT := Aside0.mk hT
  clear hT
  have HB := Aside0.mk (Below.refl w.heap.size w)
  have H : ((fascinelaw12_awake.f k).bind fun t208 => (if t208 = true then ((http_Write.f k a0 a1 a2).bind fun bt209 => (if a0 < 100 then (fascinelaw12_HttpWrites.j0 k a0 a1 a2 a3 bt209.1 bt209.2 true) else (fascinelaw12_HttpWrites.j0 k a0 a1 a2 a3 bt209.1 bt209.2 (decide (a0 > 999))))) else (some false))) = some r := h
  clear h
  replace H := Option.bind_eq_some_iff.mp H
  obtain ⟨t208, A50, H⟩ := H
  replace H : (if t208 = true then ((http_Write.f k a0 a1 a2).bind fun bt209 => (if a0 < 100 then (fascinelaw12_HttpWrites.j0 k a0 a1 a2 a3 bt209.1 bt209.2 true) else (fascinelaw12_HttpWrites.j0 k a0 a1 a2 a3 bt209.1 bt209.2 (decide (a0 > 999))))) else (some false)) = some r := H
  have A5 := Aside0.mk A50
  clear A50
  by_cases c6 : t208 = true
  · subst c6
    have H1 : ((http_Write.f k a0 a1 a2).bind fun bt209 => (if a0 < 100 then (fascinelaw12_HttpWrites.j0 k a0 a1 a2 a3 bt209.1 bt209.2 true) else (fascinelaw12_HttpWrites.j0 k a0 a1 a2 a3 bt209.1 bt209.2 (decide (a0 > 999))))) = some r := by rw [if_pos rfl] at H; exact H
    clear H
    have H := H1
    clear H1
    replace H := Option.bind_eq_some_iff.mp H
    obtain ⟨⟨t209, t210⟩, A70, H⟩ := H
    replace H : (if a0 < 100 then (fascinelaw12_HttpWrites.j0 k a0 a1 a2 a3 t209 t210 true) else (fascinelaw12_HttpWrites.j0 k a0 a1 a2 a3 t209 t210 (decide (a0 > 999)))) = some r := H
    have A7 := Aside0.mk A70
    clear A70
    have HC8 := Aside0.mk H
    clear H
    go_enter Tryd.func7, Tryd.ntmps7
    go_upto_region 4 with (first | ((with_reducible refine gate_callee (f := 9) rfl ?_); refine goesL_ (some 14) rfl rfl Tryd.func9 (by kernel_rfl) rfl #[] rfl (by (try simp only [List.map_toArray, List.map_cons, List.map_nil]); first | done | rfl | (simp only [List.length_drop, List.length_take]; rfl)) ?_; (with_reducible refine (fascinelaw12_awake.calls k  true _ ?side1 A5.out).mono ?_); (case side1 => first | exact HT.out | exact tabs_below HT.out (by repeat (first | (with_reducible first | exact HB.out | apply below_alloc | apply pw_below_drewN | apply below_drew1) | exact HB.out))); rintro e w9 ⟨rfl, hb⟩; refine ⟨_, rfl, ?_⟩; have n0_ := Aside0.mk (below_step (by repeat (first | (with_reducible first | exact HB.out | apply below_alloc | apply pw_below_drewN | apply below_drew1) | exact HB.out)) hb); clear HB; have HB := n0_; clear n0_; (try clear hb); (try clear hb2); (try clear hk); (try clear hi)) | ((with_reducible refine gate_callee (f := 14) rfl ?_); refine goesL_ (some 20) rfl rfl Tryd.func14 (by kernel_rfl) rfl #[.int .i64 a0, .string a1, .bool a2] rfl (by (try simp only [List.map_toArray, List.map_cons, List.map_nil]); first | done | rfl | (simp only [List.length_drop, List.length_take]; rfl)) ?_; (with_reducible refine (http_Write.calls k a0 a1 a2 t209 t210 _ ?side1 A7.out).mono ?_); (case side1 => first | exact HT.out | exact tabs_below HT.out (by repeat (first | (with_reducible first | exact HB.out | apply below_alloc | apply pw_below_drewN | apply below_drew1) | exact HB.out))); rintro e w10 ⟨rfl, hb⟩; refine ⟨_, rfl, ?_⟩; have n0_ := Aside0.mk (below_step (by repeat (first | (with_reducible first | exact HB.out | apply below_alloc | apply pw_below_drewN | apply below_drew1) | exact HB.out)) hb); clear HB; have HB := n0_; clear n0_; (try clear hb); (try clear hb2); (try clear hk); (try clear hi)))
    (try simp only [Act.put, List.setIfInBounds_toArray, List.set_cons_zero, List.set_cons_succ])
    go_cut [28] (fun v28 wc => ∃ (kq : Nat) (x28_7 : Bool), v28 = .bool x28_7 ∧ Aside0 (fascinelaw12_HttpWrites.j0 kq a0 a1 a2 a3 t209 t210 x28_7 = some r) ∧ Aside0 (kq ≤ k) ∧ Aside0 (Below w.heap.size w wc))
    case first =>
      have H := HC8.out
      clear HC8
      by_cases c11 : a0 < 100
      · rw [if_pos c11] at H
        have c11b0 : decide (a0 < 100) = true := decide_eq_true c11
        clear c11
        (first | rw [c11b0] | (simp only [i64_w, i32_w]; rw [c11b0]) | skip)
        have H' := Aside0.mk H
        clear H
        go_wp2
        go_meet
        case rel => exact ⟨_, (true), (by first | rfl | (simp; done) | (simp [*]; done)), H', ⟨by first | omega | exact Nat.le_refl _⟩, ⟨by repeat (first | (with_reducible first | exact HB.out | apply below_alloc | apply pw_below_drewN | apply below_drew1) | exact HB.out)⟩⟩
      · rw [if_neg c11] at H
        have c11b0 : decide (a0 < 100) = false := decide_eq_false c11
        clear c11
        (first | rw [c11b0] | (simp only [i64_w, i32_w]; rw [c11b0]) | skip)
        have H' := Aside0.mk H
        clear H
        go_wp2
        go_meet
        case rel => exact ⟨_, (decide (a0 > 999)), (by first | rfl | (simp; done) | (simp [*]; done)), H', ⟨by first | omega | exact Nat.le_refl _⟩, ⟨by repeat (first | (with_reducible first | exact HB.out | apply below_alloc | apply pw_below_drewN | apply below_drew1) | exact HB.out)⟩⟩
    case rest =>
      clear HC8
      try clear c1
      try clear p2
      try clear c6
      try clear c7
      try clear c9
      try clear c11
      try clear c11b0
      obtain ⟨kq, x28_7, rfl, HA, HJ7, HB⟩ := hcut
      cases kq with
      | zero => exact absurd HA.out (by simp [fascinelaw12_HttpWrites.j0])
      | succ kj7 =>
        have H := HA.out
        clear HA
        simp only [fascinelaw12_HttpWrites.j0] at H
        by_cases c12 : x28_7 = true
        · subst c12
          have H1 : (if t210 = 1 then (some (t209.toList == ([] : List UInt8))) else (some false)) = some r := by rw [if_pos rfl] at H; exact H
          clear H
          have H := H1
          clear H1
          by_cases c13 : t210 = 1
          · rw [if_pos c13] at H
            have c13b0 : (t210 == 1) = true := beq_iff_eq.mpr c13
            have c13b1 : (t210 != 1) = false := bne_eq_false_iff_eq.mpr c13
            clear c13
            obtain rfl := Option.some.inj H
            go_wp2
            go_ret
            exact ⟨by first | rfl | (simp [errW_none, errW_some] <;> rfl) | (simp [*, errW_none, errW_some] <;> rfl), by repeat (first | (with_reducible first | exact HB.out | apply below_alloc | apply pw_below_drewN | apply below_drew1) | exact HB.out)⟩
          · rw [if_neg c13] at H
            have c13b0 : (t210 == 1) = false := beq_eq_false_iff_ne.mpr c13
            have c13b1 : (t210 != 1) = true := bne_iff_ne.mpr c13
            exact absurd (HR_.out.symm.trans (Option.some.inj H).symm) (by decide)
        · replace c12 := Bool.eq_false_iff.mpr c12
          subst c12
          have H1 : (if t210 = 0 then ((fascineref12_Write.f kj7 a0 a1 a2).bind fun t211 => (if t209.toList = t211.toList then (if t209.size + a3.size ≤ 9223372036854775807 then ((http_Answer.f kj7 (t209 ++ a3)).bind fun bt212 => (if bt212.1 = a0 then (if bt212.2.1.toList = a1.toList then (some (bt212.2.2 == (t209.size : Int))) else (some false)) else (some false))) else (none)) else (some false))) else (some false)) = some r := by rw [if_neg (show ¬ (false = true) by decide)] at H; exact H
          clear H
          have H := H1
          clear H1
          by_cases c14 : t210 = 0
          · rw [if_pos c14] at H
            have c14b0 : (t210 == 0) = true := beq_iff_eq.mpr c14
            have c14b1 : (t210 != 0) = false := bne_eq_false_iff_eq.mpr c14
            clear c14
            replace H := Option.bind_eq_some_iff.mp H
            obtain ⟨t211, A150, H⟩ := H
            replace H : (if t209.toList = t211.toList then (if t209.size + a3.size ≤ 9223372036854775807 then ((http_Answer.f kj7 (t209 ++ a3)).bind fun bt212 => (if bt212.1 = a0 then (if bt212.2.1.toList = a1.toList then (some (bt212.2.2 == (t209.size : Int))) else (some false)) else (some false))) else (none)) else (some false)) = some r := H
            have A15 := Aside0.mk A150
            clear A150
            by_cases c16 : t209.toList = t211.toList
            · rw [if_pos c16] at H
              have c16b0 : (t209.toList == t211.toList) = true := beq_iff_eq.mpr c16
              have c16b1 : (t209.toList != t211.toList) = false := bne_eq_false_iff_eq.mpr c16
              clear c16
              by_cases c17 : t209.size + a3.size ≤ 9223372036854775807
              · rw [if_pos c17] at H
                have c17b0 := eq_true c17
                have c17b1 : decide (t209.size + a3.size ≤ 9223372036854775807) = true := decide_eq_true c17
                try have c17b2 : (9223372036854775807 < t209.size + a3.size) = False := eq_false (Nat.not_lt.2 c17)
                replace H := Option.bind_eq_some_iff.mp H
                obtain ⟨⟨t212, t213, t214⟩, A180, H⟩ := H
                replace H : (if t212 = a0 then (if t213.toList = a1.toList then (some (t214 == (t209.size : Int))) else (some false)) else (some false)) = some r := H
                have A18 := Aside0.mk A180
                clear A180
                by_cases c19 : t212 = a0
                · rw [if_pos c19] at H
                  have c19b0 : (t212 == a0) = true := beq_iff_eq.mpr c19
                  have c19b1 : (t212 != a0) = false := bne_eq_false_iff_eq.mpr c19
                  clear c19
                  by_cases c20 : t213.toList = a1.toList
                  · rw [if_pos c20] at H
                    have c20b0 : (t213.toList == a1.toList) = true := beq_iff_eq.mpr c20
                    have c20b1 : (t213.toList != a1.toList) = false := bne_eq_false_iff_eq.mpr c20
                    clear c20
                    obtain rfl := Option.some.inj H
                    go_wp2_with (first | (go_at_call 15; (with_reducible refine (fascineref12_Write.calls kj7 a0 a1 a2 t211 _ A15.out).mono ?_); rintro e w21 ⟨rfl, hb⟩; have n0_ := Aside0.mk (below_step (by repeat (first | (with_reducible first | exact HB.out | apply below_alloc | apply pw_below_drewN | apply below_drew1) | exact HB.out)) hb); clear HB; have HB := n0_; clear n0_; (try clear hb); (try clear hb2); (try clear hk); (try clear hi)) | ((with_reducible refine gate_callee (f := 16) rfl ?_); refine goesL_ (some 49) rfl rfl Tryd.func16 (by kernel_rfl) rfl #[.string (t209 ++ a3)] rfl (by (try simp only [List.map_toArray, List.map_cons, List.map_nil]); first | done | rfl | (simp only [List.length_drop, List.length_take]; rfl)) ?_; (with_reducible refine (http_Answer.calls kj7 (t209 ++ a3) t212 t213 t214 _ ?side1 A18.out).mono ?_); (case side1 => first | exact HT.out | exact tabs_below HT.out (by repeat (first | (with_reducible first | exact HB.out | apply below_alloc | apply pw_below_drewN | apply below_drew1) | exact HB.out))); rintro e w22 ⟨rfl, hb⟩; refine ⟨_, rfl, ?_⟩; have n0_ := Aside0.mk (below_step (by repeat (first | (with_reducible first | exact HB.out | apply below_alloc | apply pw_below_drewN | apply below_drew1) | exact HB.out)) hb); clear HB; have HB := n0_; clear n0_; (try clear hb); (try clear hb2); (try clear hk); (try clear hi)))
                    go_ret
                    exact ⟨by first | rfl | (simp [errW_none, errW_some] <;> rfl) | (simp [*, errW_none, errW_some] <;> rfl), by repeat (first | (with_reducible first | exact HB.out | apply below_alloc | apply pw_below_drewN | apply below_drew1) | exact HB.out)⟩
                  · rw [if_neg c20] at H
                    have c20b0 : (t213.toList == a1.toList) = false := beq_eq_false_iff_ne.mpr c20
                    have c20b1 : (t213.toList != a1.toList) = true := bne_iff_ne.mpr c20
                    exact absurd (HR_.out.symm.trans (Option.some.inj H).symm) (by decide)
                · rw [if_neg c19] at H
                  have c19b0 : (t212 == a0) = false := beq_eq_false_iff_ne.mpr c19
                  have c19b1 : (t212 != a0) = true := bne_iff_ne.mpr c19
                  exact absurd (HR_.out.symm.trans (Option.some.inj H).symm) (by decide)
              · rw [if_neg c17] at H
                exact absurd H (by simp)
            · rw [if_neg c16] at H
              have c16b0 : (t209.toList == t211.toList) = false := beq_eq_false_iff_ne.mpr c16
              have c16b1 : (t209.toList != t211.toList) = true := bne_iff_ne.mpr c16
              exact absurd (HR_.out.symm.trans (Option.some.inj H).symm) (by decide)
          · rw [if_neg c14] at H
            have c14b0 : (t210 == 0) = false := beq_eq_false_iff_ne.mpr c14
            have c14b1 : (t210 != 0) = true := bne_iff_ne.mpr c14
            exact absurd (HR_.out.symm.trans (Option.some.inj H).symm) (by decide)
  · replace c6 := Bool.eq_false_iff.mpr c6
    subst c6
    have H1 : (some false) = some r := by rw [if_neg (show ¬ (false = true) by decide)] at H; exact H
    clear H
    have H := H1
    clear H1
    exact absurd (HR_.out.symm.trans (Option.some.inj H).symm) (by decide)

/-- THE ONE PURE STATEMENT of fascinelaw12_HttpWrites: yours. -/
def fascinelaw12_HttpWrites.Pure : Prop := ∀ (a0 : Int) (a1 : ByteArray) (a2 : Bool) (a3 : ByteArray), (Lit.int .i64 a0).wf = true → a1.size ≤ 140737488351232 → a3.size ≤ 140737488351232 → ∃ k, fascinelaw12_HttpWrites.f k a0 a1 a2 a3 = some true
theorem fascinelaw12_HttpWrites.walk (P : fascinelaw12_HttpWrites.Pure) (a0 : Int) (a1 : ByteArray) (a2 : Bool) (a3 : ByteArray) (w : World) (hT : tabs w) (w0 : (Lit.int .i64 a0).wf = true) (w1 : a1.size ≤ 140737488351232) (w3 : a3.size ≤ 140737488351232) :
    Calls Tryd.prog 7 #[.int .i64 a0, .string a1, .bool a2, .string a3] w fun e w' => e = .returned (.bool true) ∧ Below w.heap.size w w' := by
  obtain ⟨k, h⟩ := P a0 a1 a2 a3 w0 w1 w3
  refine (fascinelaw12_HttpWrites.calls k a0 a1 a2 a3 true w hT h rfl).mono ?_
  rintro e w' ⟨rfl, hd⟩
  exact ⟨rfl, hd⟩

end Go.Proofs.YtpigloohccpfiaaDoor.PHttpWrites
-- ANSWER
