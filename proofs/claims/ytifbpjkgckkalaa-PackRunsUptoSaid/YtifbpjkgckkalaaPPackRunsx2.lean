-- WRITTEN BY A PROGRAM OF THIS SESSION (wip/patch_print.py: the kit's printer with rules of this session's own); Lean checks it.
import Derived.Test.YtifbpjkgckkalaaPPackRunsx0
import Derived.Test.YtifbpjkgckkalaaPPackRunsx1
namespace Go.Proofs.Ytifbpjkgckkalaa.PPackRuns
open Go.RowKit Go.Proofs.YtifbpjkgckkalaaW.PrintWords Go.Proofs.YtifbpjkgckkalaaW.PrintLast Go.Proofs.YtifbpjkgckkalaaW.PrintMore
attribute [local go_sem] max2_int min2_int max_two min_two max_three min_three max_four min_four   -- for this text's walks alone
set_option linter.unusedVariables false
set_option linter.unusedSimpArgs false

/-! ### fascinelaw01_PackRuns: function 8 -/
mutual
def fascinelaw01_PackRuns.j0 : Nat → List ByteArray → List Int → Bool → Option (Bool)
  | 0, _, _, _ => none
  | k + 1, x0, x1, x24 => if x24 = true then ((fascinelaw01_awake.f k).bind fun t128 => (some t128)) else (fascinelaw01_PackRuns.l0 k x0 x1 ([] : List Int) 0)
def fascinelaw01_PackRuns.l0 : Nat → List ByteArray → List Int → List Int → Int → Option (Bool)
  | 0, _, _, _, _ => none
  | k + 1, x0, x1, x5, x6 => if x6 < (x0.length : Int) then (if 0 ≤ x6 then ((pack_Text.f k (rdOf ByteArray.empty x0 x6)).bind fun t130 => (if x5.length + t130.length < 140737488355328 then ((some (x5 ++ t130 : List Int)).bind fun y133 => (if x6 < (x1.length : Int) then ((pack_Uvarint.f k (rd x1 x6)).bind fun t137 => (if y133.length + t137.length < 140737488355328 then (fascinelaw01_PackRuns.l0 k x0 x1 (y133 ++ t137) (wrap64 (x6 + 1))) else (none))) else (fascinelaw01_PackRuns.l0 k x0 x1 y133 (wrap64 (x6 + 1))))) else (none))) else (none)) else (fascinelaw01_PackRuns.l1 k x0 x1 x5 0 0)
def fascinelaw01_PackRuns.l1 : Nat → List ByteArray → List Int → List Int → Int → Int → Option (Bool)
  | 0, _, _, _, _, _ => none
  | k + 1, x0, x1, x5, x7, x8 => if x8 < (x0.length : Int) then (if 0 ≤ x8 then ((pack_ReadText.f k x5 x7 ((rdOf ByteArray.empty x0 x8).size : Int)).bind fun bt144 => (if bt144.2.2 = 0 then (fascinelaw01_PackRuns.j3 k x0 x1 x5 x8 bt144.2.1 (bt144.1.toList != (rdOf ByteArray.empty x0 x8).toList)) else (fascinelaw01_PackRuns.j3 k x0 x1 x5 x8 bt144.2.1 true))) else (none)) else (some (x7 == (x5.length : Int)))
def fascinelaw01_PackRuns.j3 : Nat → List ByteArray → List Int → List Int → Int → Int → Bool → Option (Bool)
  | 0, _, _, _, _, _, _ => none
  | k + 1, x0, x1, x5, x8, x10, x77 => if x77 = true then (some false) else (if x8 < (x1.length : Int) then ((pack_ReadUvarint.f k x5 x10).bind fun bt148 => (if bt148.2.2 = 0 then (if 0 ≤ x8 then (if bt148.1 = (rd x1 x8) then (fascinelaw01_PackRuns.l1 k x0 x1 x5 bt148.2.1 (wrap64 (x8 + 1))) else (some false)) else (none)) else (some false))) else (fascinelaw01_PackRuns.l1 k x0 x1 x5 x10 (wrap64 (x8 + 1))))
end
def fascinelaw01_PackRuns.f (k : Nat) (l0 : List ByteArray) (l1 : List Int) : Option (Bool) := (fascinelaw01_awake.f k).bind fun t127 => (if t127 = true then (fascinelaw01_PackRuns.j0 k l0 l1 (decide ((wrap64 ((l0.length : Int) + (l1.length : Int))) > 200))) else (fascinelaw01_PackRuns.j0 k l0 l1 true))
theorem fascinelaw01_PackRuns.mono_l : ∀ k, (∀ y0 y1 y2, LeO (fascinelaw01_PackRuns.j0 k y0 y1 y2) (fascinelaw01_PackRuns.j0 (k + 1) y0 y1 y2)) ∧ (∀ y0 y1 y2 y3, LeO (fascinelaw01_PackRuns.l0 k y0 y1 y2 y3) (fascinelaw01_PackRuns.l0 (k + 1) y0 y1 y2 y3)) ∧ (∀ y0 y1 y2 y3 y4, LeO (fascinelaw01_PackRuns.l1 k y0 y1 y2 y3 y4) (fascinelaw01_PackRuns.l1 (k + 1) y0 y1 y2 y3 y4)) ∧ (∀ y0 y1 y2 y3 y4 y5, LeO (fascinelaw01_PackRuns.j3 k y0 y1 y2 y3 y4 y5) (fascinelaw01_PackRuns.j3 (k + 1) y0 y1 y2 y3 y4 y5))
  | 0 => ⟨fun _ _ _ r h => by simp [fascinelaw01_PackRuns.j0] at h, fun _ _ _ _ r h => by simp [fascinelaw01_PackRuns.l0] at h, fun _ _ _ _ _ r h => by simp [fascinelaw01_PackRuns.l1] at h, fun _ _ _ _ _ _ r h => by simp [fascinelaw01_PackRuns.j3] at h⟩
  | k + 1 => by
    obtain ⟨ih0, ih1, ih2, ih3⟩ := fascinelaw01_PackRuns.mono_l k
    refine ⟨?_, ?_, ?_, ?_⟩
    · intro y0 y1 y2
      unfold fascinelaw01_PackRuns.j0
      repeat' first
      | (with_reducible exact ih0 _ _ _)
      | (with_reducible exact ih1 _ _ _ _)
      | (with_reducible exact ih2 _ _ _ _ _)
      | (with_reducible exact ih3 _ _ _ _ _ _)
      | (with_reducible exact fascinelaw01_awake.mono _)
      | (with_reducible exact pack_ReadText.mono _ _ _ _)
      | (with_reducible exact pack_ReadUvarint.mono _ _ _)
      | (with_reducible exact pack_Text.mono _ _)
      | (with_reducible exact pack_Uvarint.mono _ _)
      | (with_reducible exact LeO.refl _)
      | (with_reducible exact LeO.none _)
      | (with_reducible refine LeO.ite ?_ ?_)
      | (with_reducible refine LeO.bind ?_ (fun _ => ?_))
      | exact ih0 _ _ _
      | exact ih1 _ _ _ _
      | exact ih2 _ _ _ _ _
      | exact ih3 _ _ _ _ _ _
      | exact fascinelaw01_awake.mono _
      | exact pack_ReadText.mono _ _ _ _
      | exact pack_ReadUvarint.mono _ _ _
      | exact pack_Text.mono _ _
      | exact pack_Uvarint.mono _ _
      | exact LeO.none _
      | refine LeO.ite ?_ ?_
      | refine LeO.bind ?_ (fun _ => ?_)
    · intro y0 y1 y2 y3
      unfold fascinelaw01_PackRuns.l0
      repeat' first
      | (with_reducible exact ih0 _ _ _)
      | (with_reducible exact ih1 _ _ _ _)
      | (with_reducible exact ih2 _ _ _ _ _)
      | (with_reducible exact ih3 _ _ _ _ _ _)
      | (with_reducible exact fascinelaw01_awake.mono _)
      | (with_reducible exact pack_ReadText.mono _ _ _ _)
      | (with_reducible exact pack_ReadUvarint.mono _ _ _)
      | (with_reducible exact pack_Text.mono _ _)
      | (with_reducible exact pack_Uvarint.mono _ _)
      | (with_reducible exact LeO.refl _)
      | (with_reducible exact LeO.none _)
      | (with_reducible refine LeO.ite ?_ ?_)
      | (with_reducible refine LeO.bind ?_ (fun _ => ?_))
      | exact ih0 _ _ _
      | exact ih1 _ _ _ _
      | exact ih2 _ _ _ _ _
      | exact ih3 _ _ _ _ _ _
      | exact fascinelaw01_awake.mono _
      | exact pack_ReadText.mono _ _ _ _
      | exact pack_ReadUvarint.mono _ _ _
      | exact pack_Text.mono _ _
      | exact pack_Uvarint.mono _ _
      | exact LeO.none _
      | refine LeO.ite ?_ ?_
      | refine LeO.bind ?_ (fun _ => ?_)
    · intro y0 y1 y2 y3 y4
      unfold fascinelaw01_PackRuns.l1
      repeat' first
      | (with_reducible exact ih0 _ _ _)
      | (with_reducible exact ih1 _ _ _ _)
      | (with_reducible exact ih2 _ _ _ _ _)
      | (with_reducible exact ih3 _ _ _ _ _ _)
      | (with_reducible exact fascinelaw01_awake.mono _)
      | (with_reducible exact pack_ReadText.mono _ _ _ _)
      | (with_reducible exact pack_ReadUvarint.mono _ _ _)
      | (with_reducible exact pack_Text.mono _ _)
      | (with_reducible exact pack_Uvarint.mono _ _)
      | (with_reducible exact LeO.refl _)
      | (with_reducible exact LeO.none _)
      | (with_reducible refine LeO.ite ?_ ?_)
      | (with_reducible refine LeO.bind ?_ (fun _ => ?_))
      | exact ih0 _ _ _
      | exact ih1 _ _ _ _
      | exact ih2 _ _ _ _ _
      | exact ih3 _ _ _ _ _ _
      | exact fascinelaw01_awake.mono _
      | exact pack_ReadText.mono _ _ _ _
      | exact pack_ReadUvarint.mono _ _ _
      | exact pack_Text.mono _ _
      | exact pack_Uvarint.mono _ _
      | exact LeO.none _
      | refine LeO.ite ?_ ?_
      | refine LeO.bind ?_ (fun _ => ?_)
    · intro y0 y1 y2 y3 y4 y5
      unfold fascinelaw01_PackRuns.j3
      repeat' first
      | (with_reducible exact ih0 _ _ _)
      | (with_reducible exact ih1 _ _ _ _)
      | (with_reducible exact ih2 _ _ _ _ _)
      | (with_reducible exact ih3 _ _ _ _ _ _)
      | (with_reducible exact fascinelaw01_awake.mono _)
      | (with_reducible exact pack_ReadText.mono _ _ _ _)
      | (with_reducible exact pack_ReadUvarint.mono _ _ _)
      | (with_reducible exact pack_Text.mono _ _)
      | (with_reducible exact pack_Uvarint.mono _ _)
      | (with_reducible exact LeO.refl _)
      | (with_reducible exact LeO.none _)
      | (with_reducible refine LeO.ite ?_ ?_)
      | (with_reducible refine LeO.bind ?_ (fun _ => ?_))
      | exact ih0 _ _ _
      | exact ih1 _ _ _ _
      | exact ih2 _ _ _ _ _
      | exact ih3 _ _ _ _ _ _
      | exact fascinelaw01_awake.mono _
      | exact pack_ReadText.mono _ _ _ _
      | exact pack_ReadUvarint.mono _ _ _
      | exact pack_Text.mono _ _
      | exact pack_Uvarint.mono _ _
      | exact LeO.none _
      | refine LeO.ite ?_ ?_
      | refine LeO.bind ?_ (fun _ => ?_)
theorem fascinelaw01_PackRuns.mono : ∀ a0 a1 k, LeO (fascinelaw01_PackRuns.f k a0 a1) (fascinelaw01_PackRuns.f (k + 1) a0 a1) := by
  intro a0 a1 k
  obtain ⟨ih0, ih1, ih2, ih3⟩ := fascinelaw01_PackRuns.mono_l k
  unfold fascinelaw01_PackRuns.f
  repeat' first
      | (with_reducible exact ih0 _ _ _)
      | (with_reducible exact ih1 _ _ _ _)
      | (with_reducible exact ih2 _ _ _ _ _)
      | (with_reducible exact ih3 _ _ _ _ _ _)
      | (with_reducible exact fascinelaw01_awake.mono _)
      | (with_reducible exact pack_ReadText.mono _ _ _ _)
      | (with_reducible exact pack_ReadUvarint.mono _ _ _)
      | (with_reducible exact pack_Text.mono _ _)
      | (with_reducible exact pack_Uvarint.mono _ _)
      | (with_reducible exact LeO.refl _)
      | (with_reducible exact LeO.none _)
      | (with_reducible refine LeO.ite ?_ ?_)
      | (with_reducible refine LeO.bind ?_ (fun _ => ?_))
      | exact ih0 _ _ _
      | exact ih1 _ _ _ _
      | exact ih2 _ _ _ _ _
      | exact ih3 _ _ _ _ _ _
      | exact fascinelaw01_awake.mono _
      | exact pack_ReadText.mono _ _ _ _
      | exact pack_ReadUvarint.mono _ _ _
      | exact pack_Text.mono _ _
      | exact pack_Uvarint.mono _ _
      | exact LeO.none _
      | refine LeO.ite ?_ ?_
      | refine LeO.bind ?_ (fun _ => ?_)
set_option maxHeartbeats 8000000 in
set_option maxRecDepth 100000 in
theorem fascinelaw01_PackRuns.calls (k : Nat) (A0 : Option Addr) (c0 : Nat) (l0 : List ByteArray) (A1 : Option Addr) (c1 : Nat) (l1 : List Int) (r : Bool) (w : World) (hr0 : Kd.C Kd.string w A0 l0.length l0) (hc0 : l0.length ≤ c0) (hr1 : Kd.C (Kd.int .u64) w A1 l1.length l1) (hc1 : l1.length ≤ c1) (h : fascinelaw01_PackRuns.f k l0 l1 = some r) (hr_ : r = true) :
    Calls Try.prog 8 #[.slice A0 l0.length c0, .slice A1 l1.length c1] w fun e w' => e = .returned (.bool r) ∧ Below w.heap.size w w' := by
  have HR_ := Aside0.mk hr_
  clear hr_
  have HR0 := Aside0.mk hr0
  have HC0 := Aside0.mk hc0
  clear hr0 hc0
  have HR1 := Aside0.mk hr1
  have HC1 := Aside0.mk hc1
  clear hr1 hc1
  have HB := Aside0.mk (Below.refl w.heap.size w)
  have H : ((fascinelaw01_awake.f k).bind fun t127 => (if t127 = true then (fascinelaw01_PackRuns.j0 k l0 l1 (decide ((wrap64 ((l0.length : Int) + (l1.length : Int))) > 200))) else (fascinelaw01_PackRuns.j0 k l0 l1 true))) = some r := h
  clear h
  have HC3 := Aside0.mk H
  clear H
  go_enter Try.func8, Try.ntmps8
  go_upto_region 1 with (fail)
  go_cut [24] (fun v24 wc => ∃ (kq : Nat) (x24_2 : Bool), v24 = .bool x24_2 ∧ Aside0 (fascinelaw01_PackRuns.j0 kq l0 l1 x24_2 = some r) ∧ Aside0 (kq ≤ k) ∧ Aside0 (Below w.heap.size w wc))
  case first =>
    have H := HC3.out
    clear HC3
    replace H := Option.bind_eq_some_iff.mp H
    obtain ⟨t127, A40, H⟩ := H
    replace H : (if t127 = true then (fascinelaw01_PackRuns.j0 k l0 l1 (decide ((wrap64 ((l0.length : Int) + (l1.length : Int))) > 200))) else (fascinelaw01_PackRuns.j0 k l0 l1 true)) = some r := H
    have A4 := Aside0.mk A40
    clear A40
    by_cases c5 : t127 = true
    · subst c5
      have H1 : (fascinelaw01_PackRuns.j0 k l0 l1 (decide ((wrap64 ((l0.length : Int) + (l1.length : Int))) > 200))) = some r := by rw [if_pos rfl] at H; exact H
      clear H
      have H := H1
      clear H1
      have H' := Aside0.mk H
      clear H
      go_wp2_with (first | ((with_reducible refine gate_callee (f := 20) rfl ?_); refine goesL_ (some 15) rfl rfl Try.func20 (by kernel_rfl) rfl #[] rfl (by (try simp only [List.map_toArray, List.map_cons, List.map_nil]); first | done | rfl | (simp only [List.length_drop, List.length_take]; rfl)) ?_; (with_reducible refine (fascinelaw01_awake.calls k  true _ A4.out).mono ?_); rintro e w6 ⟨rfl, hb⟩; refine ⟨_, rfl, ?_⟩; have n0_ := Aside0.mk (below_step (by repeat (first | (with_reducible first | exact HB.out | apply below_alloc | apply pw_below_drewN | apply below_drew1) | exact HB.out)) hb); clear HB; have HB := n0_; clear n0_; (try clear hb); (try clear hb2); (try clear hk); (try clear hi)))
      go_meet
      case rel => exact ⟨_, (decide ((wrap64 ((l0.length : Int) + (l1.length : Int))) > 200)), (by first | rfl | (simp; done) | (simp [*]; done)), H', ⟨by first | omega | exact Nat.le_refl _⟩, ⟨by repeat (first | (with_reducible first | exact HB.out | apply below_alloc | apply pw_below_drewN | apply below_drew1) | exact HB.out)⟩⟩
    · replace c5 := Bool.eq_false_iff.mpr c5
      subst c5
      have H1 : (fascinelaw01_PackRuns.j0 k l0 l1 true) = some r := by rw [if_neg (show ¬ (false = true) by decide)] at H; exact H
      clear H
      have H := H1
      clear H1
      have H' := Aside0.mk H
      clear H
      go_wp2_with (first | ((with_reducible refine gate_callee (f := 20) rfl ?_); refine goesL_ (some 15) rfl rfl Try.func20 (by kernel_rfl) rfl #[] rfl (by (try simp only [List.map_toArray, List.map_cons, List.map_nil]); first | done | rfl | (simp only [List.length_drop, List.length_take]; rfl)) ?_; (with_reducible refine (fascinelaw01_awake.calls k  false _ A4.out).mono ?_); rintro e w7 ⟨rfl, hb⟩; refine ⟨_, rfl, ?_⟩; have n0_ := Aside0.mk (below_step (by repeat (first | (with_reducible first | exact HB.out | apply below_alloc | apply pw_below_drewN | apply below_drew1) | exact HB.out)) hb); clear HB; have HB := n0_; clear n0_; (try clear hb); (try clear hb2); (try clear hk); (try clear hi)))
      go_meet
      case rel => exact ⟨_, (true), (by first | rfl | (simp; done) | (simp [*]; done)), H', ⟨by first | omega | exact Nat.le_refl _⟩, ⟨by repeat (first | (with_reducible first | exact HB.out | apply below_alloc | apply pw_below_drewN | apply below_drew1) | exact HB.out)⟩⟩
  case rest =>
    clear HC3
    try clear c1
    try clear c2
    try clear p2
    try clear c5
    try clear p6
    obtain ⟨kq, x24_2, rfl, HA, HJ2, HB⟩ := hcut
    cases kq with
    | zero => exact absurd HA.out (by simp [fascinelaw01_PackRuns.j0])
    | succ kj2 =>
      have H := HA.out
      clear HA
      simp only [fascinelaw01_PackRuns.j0] at H
      by_cases c8 : x24_2 = true
      · subst c8
        have H1 : ((fascinelaw01_awake.f kj2).bind fun t128 => (some t128)) = some r := by rw [if_pos rfl] at H; exact H
        clear H
        have H := H1
        clear H1
        replace H := Option.bind_eq_some_iff.mp H
        obtain ⟨t128, A90, H⟩ := H
        replace H : (some t128) = some r := H
        have A9 := Aside0.mk A90
        clear A90
        obtain rfl := Option.some.inj H
        go_wp2_with (first | ((with_reducible refine gate_callee (f := 20) rfl ?_); refine goesL_ (some 25) rfl rfl Try.func20 (by kernel_rfl) rfl #[] rfl (by (try simp only [List.map_toArray, List.map_cons, List.map_nil]); first | done | rfl | (simp only [List.length_drop, List.length_take]; rfl)) ?_; (with_reducible refine (fascinelaw01_awake.calls kj2  t128 _ A9.out).mono ?_); rintro e w10 ⟨rfl, hb⟩; refine ⟨_, rfl, ?_⟩; have n0_ := Aside0.mk (below_step (by repeat (first | (with_reducible first | exact HB.out | apply below_alloc | apply pw_below_drewN | apply below_drew1) | exact HB.out)) hb); clear HB; have HB := n0_; clear n0_; (try clear hb); (try clear hb2); (try clear hk); (try clear hi)))
        go_ret
        exact ⟨by first | rfl | (simp [errW_none, errW_some] <;> rfl) | (simp [*, errW_none, errW_some] <;> rfl), by repeat (first | (with_reducible first | exact HB.out | apply below_alloc | apply pw_below_drewN | apply below_drew1) | exact HB.out)⟩
      · replace c8 := Bool.eq_false_iff.mpr c8
        subst c8
        have H1 : (fascinelaw01_PackRuns.l0 kj2 l0 l1 ([] : List Int) 0) = some r := by rw [if_neg (show ¬ (false = true) by decide)] at H; exact H
        clear H
        have H := H1
        clear H1
        have H' := Aside0.mk H
        clear H
        go_wp2
        go_loopg [5, 6] kj2 (fun kq v5 v6 w' => ∃ (x5_2 : List Int) (x6_2 : Int), v6 = .int .i64 x6_2 ∧ Aside0 (fascinelaw01_PackRuns.l0 kq l0 l1 x5_2 x6_2 = some r) ∧ Aside0 (kq ≤ kj2) ∧ Aside0 (Kd.R (Kd.int .u8) 5 w' w.heap.size (fun _ => True) v5 x5_2) ∧ Aside0 (Below w.heap.size w w'))
        case atStart => exact ⟨(([] : List Int)), (0), (by first | rfl | (simp; done) | (simp [*]; done)), H', ⟨Nat.le_refl _⟩, ⟨by first | exact Kd.R_nil _ _ _ _ _ | exact Kd.N_nil _ _ _ _ _ | exact Kd.V_nil _ _ _ _ _ | exact Kd.Q_nil _ _ _ _ _ | exact Kd.S_nil _ _ _ _ _⟩, ⟨by repeat (first | (with_reducible first | exact HB.out | apply below_alloc | apply pw_below_drewN | apply below_drew1) | exact HB.out)⟩⟩
        case round =>
          clear H'
          try clear c1
          try clear c2
          try clear p2
          try clear c5
          try clear p6
          try clear c8
          try clear p2
          try clear p6
          obtain ⟨x5_2, x6_2, rfl, HA, HK2, HO_5, HB⟩ := hrel
          cases gk with
          | zero => exact absurd HA.out (by simp [fascinelaw01_PackRuns.l0])
          | succ k2 =>
            have H := HA.out
            clear HA
            simp only [fascinelaw01_PackRuns.l0] at H
            by_cases c11 : x6_2 < (l0.length : Int)
            · rw [if_pos c11] at H
              have c11b0 : decide (x6_2 < (l0.length : Int)) = true := decide_eq_true c11
              clear c11
              by_cases c12 : 0 ≤ x6_2
              · rw [if_pos c12] at H
                have c12b0 : decide (0 ≤ x6_2) = true := decide_eq_true c12
                clear c12
                replace H := Option.bind_eq_some_iff.mp H
                obtain ⟨t130, A130, H⟩ := H
                replace H : (if x5_2.length + t130.length < 140737488355328 then ((some (x5_2 ++ t130 : List Int)).bind fun y133 => (if x6_2 < (l1.length : Int) then ((pack_Uvarint.f k2 (rd l1 x6_2)).bind fun t137 => (if y133.length + t137.length < 140737488355328 then (fascinelaw01_PackRuns.l0 k2 l0 l1 (y133 ++ t137) (wrap64 (x6_2 + 1))) else (none))) else (fascinelaw01_PackRuns.l0 k2 l0 l1 y133 (wrap64 (x6_2 + 1))))) else (none)) = some r := H
                have A13 := Aside0.mk A130
                clear A130
                by_cases c14 : x5_2.length + t130.length < 140737488355328
                · rw [if_pos c14] at H
                  have LMc14 := Aside0.mk c14
                  clear c14
                  obtain ⟨y133, hy133⟩ : ∃ y_ : List Int, y_ = (x5_2 ++ t130) := ⟨_, rfl⟩
                  replace H : (if x6_2 < (l1.length : Int) then ((pack_Uvarint.f k2 (rd l1 x6_2)).bind fun t137 => (if y133.length + t137.length < 140737488355328 then (fascinelaw01_PackRuns.l0 k2 l0 l1 (y133 ++ t137) (wrap64 (x6_2 + 1))) else (none))) else (fascinelaw01_PackRuns.l0 k2 l0 l1 y133 (wrap64 (x6_2 + 1)))) = some r := by first | (rw [hy133]; with_reducible exact H) | (have H2_ := (Option.bind_some _ _).symm.trans H; rw [hy133]; with_reducible exact H2_) | (have H2_ := (Option.bind_some _ _).symm.trans H; with_reducible exact H2_) | with_reducible exact H | (rw [hy133]; exact H) | exact H
                  have Ny133 := Aside0.mk hy133
                  clear hy133
                  by_cases c15 : x6_2 < (l1.length : Int)
                  · rw [if_pos c15] at H
                    have c15b0 : decide (x6_2 < (l1.length : Int)) = true := decide_eq_true c15
                    clear c15
                    replace H := Option.bind_eq_some_iff.mp H
                    obtain ⟨t137, A160, H⟩ := H
                    replace H : (if y133.length + t137.length < 140737488355328 then (fascinelaw01_PackRuns.l0 k2 l0 l1 (y133 ++ t137) (wrap64 (x6_2 + 1))) else (none)) = some r := H
                    have A16 := Aside0.mk A160
                    clear A160
                    by_cases c17 : y133.length + t137.length < 140737488355328
                    · rw [if_pos c17] at H
                      have LMc17 := Aside0.mk c17
                      clear c17
                      obtain ⟨y140, hy140⟩ : ∃ y_ : List Int, y_ = (y133 ++ t137) := ⟨_, rfl⟩
                      replace H : (fascinelaw01_PackRuns.l0 k2 l0 l1 y140 (wrap64 (x6_2 + 1))) = some r := by first | (rw [hy140]; with_reducible exact H) | (have H2_ := (Option.bind_some _ _).symm.trans H; rw [hy140]; with_reducible exact H2_) | (have H2_ := (Option.bind_some _ _).symm.trans H; with_reducible exact H2_) | with_reducible exact H | (rw [hy140]; exact H) | exact H
                      have Ny140 := Aside0.mk hy140
                      clear hy140
                      have H' := Aside0.mk H
                      clear H
                      have p129 : 0 ≤ (x6_2 : Int) := of_decide_eq_true (by first | (with_reducible assumption) | assumption)
                      have q129 : x6_2 < (l0.length : Int) := of_decide_eq_true (by first | (with_reducible assumption) | assumption)
                      obtain ⟨ad129, e129, hx129_0⟩ := Kd.at_string HR0.out x6_2 p129 q129
                      cases e129
                      replace hx129_0 := (HB.out.cell (World.block_lt_of_cell? w _ hx129_0)).trans hx129_0
                      replace p129 := eq_true p129
                      replace q129 := eq_true q129
                      go_wp2_with (first | ((with_reducible refine gate_callee (f := 32) rfl ?_); refine goesL_ (some 37) rfl rfl Try.func32 (by kernel_rfl) rfl #[.string (rdOf ByteArray.empty l0 x6_2)] rfl (by (try simp only [List.map_toArray, List.map_cons, List.map_nil]); first | done | rfl | (simp only [List.length_drop, List.length_take]; rfl)) ?_; (with_reducible refine (pack_Text.calls k2 (rdOf ByteArray.empty l0 x6_2) t130 _ A13.out).mono ?_); rintro e w18 ⟨v131, rfl, ho0, hb⟩; refine ⟨_, rfl, ?_⟩; have n0_ := Aside0.mk (Kd.R_elder' (by (with_reducible repeat (first | apply Kd.R_alloc | apply Kd.R_drewN | apply Kd.R_drew)); exact HO_5.out) (Kd.R_base ho0) hb); have n1_ := Aside0.mk (Kd.R_lower (Kd.R_new' ho0 (Kd.R_lt (by (with_reducible repeat (first | apply Kd.R_alloc | apply Kd.R_drewN | apply Kd.R_drew)); exact HO_5.out))) (below_size (by repeat (first | (with_reducible first | exact HB.out | apply below_alloc | apply pw_below_drewN | apply below_drew1) | exact HB.out)))); have n2_ := Aside0.mk (below_step (by repeat (first | (with_reducible first | exact HB.out | apply below_alloc | apply pw_below_drewN | apply below_drew1) | exact HB.out)) hb); clear HO_5; clear HB; have HO_5 := n0_; have HO132 := n1_; have HB := n2_; clear n0_ n1_ n2_; (try clear hb); (try clear hb2); (try clear hk); (try clear hi); (try clear ho0); obtain ⟨Ao20, co20, eo20⟩ := Kd.R_slice HO132.out; subst eo20) | ((with_reducible refine gate_builtin (b := .append) (xs := #[.tmp 32, .tmp 37]) rfl ?_); (try (refine gate_guard (by rfl) ?_; dsimp only)); at_builtin; refine Kd.R_append_rows (Kd.int .u8) (w0 := w) w.heap.size rfl (.tmp 32) (.tmp 37) 22 5 (.int .u8 0) 1 rfl Try.underlying22 info5 rfl (by decide) (by omega) u5 x5_2 t130 _ _ _ (fun k_ => some k_ ≠ (.slice Ao20 t130.length co20 : Value).ownBlock) (fun _ => False) rfl rfl ?aO ?aR (fun _ _ h => h) (fun _ h => h.elim) ?aF ?aB ?aS ?aL ?_; (case aR => repeat (first | exact (Kd.R_reads' HO132.out).2.2 | (with_reducible refine Kd.C_alloc ?_ _) | (with_reducible refine Kd.C_drewN ?_ _) | (with_reducible refine Kd.C_drew ?_))); (case aB => exact (by repeat (first | (with_reducible first | exact HB.out | apply below_alloc | apply pw_below_drewN | apply below_drew1) | exact HB.out))); (case aF => exact (fun k_ hk => Kd.fresh' (Kd.R_lt (by (with_reducible repeat (first | apply Kd.R_alloc | apply Kd.R_drewN | apply Kd.R_drew)); exact HO132.out)) k_ hk)); (case aO => exact (by (with_reducible repeat (first | apply Kd.R_alloc | apply Kd.R_drewN | apply Kd.R_drew)); exact Kd.R_mono HO_5.out (fun _ hk => hk.2))); (case aS => exact (below_size (by repeat (first | (with_reducible first | exact HB.out | apply below_alloc | apply pw_below_drewN | apply below_drew1) | exact HB.out)))); (case aL => have := LMc14.out; omega); intro v134 w19 ho hb hg hat; rw [← Ny133.out] at ho; have n0_ := Aside0.mk (Kd.R_after (ok := (fun _ => True)) (by (with_reducible repeat (first | apply Kd.R_alloc | apply Kd.R_drewN | apply Kd.R_drew)); exact HO132.out) hg hat); have n1_ := Aside0.mk (hb); have n2_ := Aside0.mk (ho); clear HO132; clear HB; clear HO_5; have HO132 := n0_; have HB := n1_; have HO135 := n2_; clear n0_ n1_ n2_; clear ho hb hg hat; have p136 : 0 ≤ (x6_2 : Int) := of_decide_eq_true (by first | (with_reducible assumption) | assumption); have q136 : x6_2 < (l1.length : Int) := of_decide_eq_true (by first | (with_reducible assumption) | assumption); obtain ⟨ad136, e136, hx136_0⟩ := Kd.at_int HR1.out x6_2 p136 q136; cases e136; replace hx136_0 := (HB.out.cell (World.block_lt_of_cell? w _ hx136_0)).trans hx136_0; replace p136 := eq_true p136; replace q136 := eq_true q136) | ((with_reducible refine gate_callee (f := 23) rfl ?_); refine goesL_ (some 48) rfl rfl Try.func23 (by kernel_rfl) rfl #[.int .u64 (rd l1 x6_2)] rfl (by (try simp only [List.map_toArray, List.map_cons, List.map_nil]); first | done | rfl | (simp only [List.length_drop, List.length_take]; rfl)) ?_; (with_reducible refine (pack_Uvarint.calls k2 (rd l1 x6_2) t137 _ A16.out).mono ?_); rintro e w21 ⟨v138, rfl, ho0, hb⟩; refine ⟨_, rfl, ?_⟩; have n0_ := Aside0.mk (Kd.R_elder' (by (with_reducible repeat (first | apply Kd.R_alloc | apply Kd.R_drewN | apply Kd.R_drew)); exact HO132.out) (Kd.R_base ho0) hb); have n1_ := Aside0.mk (Kd.R_elder' (by (with_reducible repeat (first | apply Kd.R_alloc | apply Kd.R_drewN | apply Kd.R_drew)); exact HO135.out) (Kd.R_base ho0) hb); have n2_ := Aside0.mk (Kd.R_lower (Kd.R_new' (Kd.R_new' ho0 (Kd.R_lt (by (with_reducible repeat (first | apply Kd.R_alloc | apply Kd.R_drewN | apply Kd.R_drew)); exact HO132.out))) (Kd.R_lt (by (with_reducible repeat (first | apply Kd.R_alloc | apply Kd.R_drewN | apply Kd.R_drew)); exact HO135.out))) (below_size (by repeat (first | (with_reducible first | exact HB.out | apply below_alloc | apply pw_below_drewN | apply below_drew1) | exact HB.out)))); have n3_ := Aside0.mk (below_step (by repeat (first | (with_reducible first | exact HB.out | apply below_alloc | apply pw_below_drewN | apply below_drew1) | exact HB.out)) hb); clear HO132; clear HO135; clear HB; have HO132 := n0_; have HO135 := n1_; have HO139 := n2_; have HB := n3_; clear n0_ n1_ n2_ n3_; (try clear hb); (try clear hb2); (try clear hk); (try clear hi); (try clear ho0); obtain ⟨Ao23, co23, eo23⟩ := Kd.R_slice HO139.out; subst eo23) | ((with_reducible refine gate_builtin (b := .append) (xs := #[.tmp 43, .tmp 48]) rfl ?_); (try (refine gate_guard (by rfl) ?_; dsimp only)); at_builtin; refine Kd.R_append_rows (Kd.int .u8) (w0 := w) w.heap.size rfl (.tmp 43) (.tmp 48) 22 5 (.int .u8 0) 1 rfl Try.underlying22 info5 rfl (by decide) (by omega) v134 y133 t137 _ _ _ (fun k_ => some k_ ≠ (.slice Ao20 t130.length co20 : Value).ownBlock ∧ some k_ ≠ (.slice Ao23 t137.length co23 : Value).ownBlock) (fun _ => False) rfl rfl ?aO ?aR (fun _ _ h => h) (fun _ h => h.elim) ?aF ?aB ?aS ?aL ?_; (case aR => repeat (first | exact (Kd.R_reads' HO139.out).2.2 | (with_reducible refine Kd.C_alloc ?_ _) | (with_reducible refine Kd.C_drewN ?_ _) | (with_reducible refine Kd.C_drew ?_))); (case aB => exact (by repeat (first | (with_reducible first | exact HB.out | apply below_alloc | apply pw_below_drewN | apply below_drew1) | exact HB.out))); (case aF => exact (fun k_ hk => ⟨Kd.fresh' (Kd.R_lt (by (with_reducible repeat (first | apply Kd.R_alloc | apply Kd.R_drewN | apply Kd.R_drew)); exact HO132.out)) k_ hk, Kd.fresh' (Kd.R_lt (by (with_reducible repeat (first | apply Kd.R_alloc | apply Kd.R_drewN | apply Kd.R_drew)); exact HO139.out)) k_ hk⟩)); (case aO => exact (by (with_reducible repeat (first | apply Kd.R_alloc | apply Kd.R_drewN | apply Kd.R_drew)); exact HO135.out)); (case aS => exact (below_size (by repeat (first | (with_reducible first | exact HB.out | apply below_alloc | apply pw_below_drewN | apply below_drew1) | exact HB.out)))); (case aL => have := LMc17.out; omega); intro v141 w22 ho hb hg hat; rw [← Ny140.out] at ho; have n0_ := Aside0.mk (Kd.R_after (ok := (fun k_ => some k_ ≠ (.slice Ao23 t137.length co23 : Value).ownBlock)) (by (with_reducible repeat (first | apply Kd.R_alloc | apply Kd.R_drewN | apply Kd.R_drew)); exact Kd.R_mono HO132.out (fun _ hk => ⟨hk.2, hk.1.2⟩)) hg hat); have n1_ := Aside0.mk (Kd.R_after (ok := (fun k_ => some k_ ≠ (.slice Ao20 t130.length co20 : Value).ownBlock)) (by (with_reducible repeat (first | apply Kd.R_alloc | apply Kd.R_drewN | apply Kd.R_drew)); exact Kd.R_mono HO139.out (fun _ hk => ⟨hk.1.2, hk.2⟩)) hg hat); have n2_ := Aside0.mk (hb); have n3_ := Aside0.mk (ho); clear HO132; clear HO139; clear HB; clear HO135; have HO132 := n0_; have HO139 := n1_; have HB := n2_; have HO142 := n3_; clear n0_ n1_ n2_ n3_; clear ho hb hg hat))
                      go_roundg k2
                      case measure => have := HJ2.out; have := HK2.out; omega
                      case rel => exact ⟨(y140), (wrap64 (x6_2 + 1)), (by first | rfl | (simp; done) | (simp [*]; done)), H', ⟨by have := HJ2.out; have := HK2.out; omega⟩, ⟨by (with_reducible repeat (first | apply Kd.R_alloc | apply Kd.R_drewN | apply Kd.R_drew)); exact Kd.R_mono HO142.out (fun _ hk => trivial)⟩, ⟨by repeat (first | (with_reducible first | exact HB.out | apply below_alloc | apply pw_below_drewN | apply below_drew1) | exact HB.out)⟩⟩
                    · rw [if_neg c17] at H
                      exact absurd H (by simp)
                  · rw [if_neg c15] at H
                    have c15b0 : decide (x6_2 < (l1.length : Int)) = false := decide_eq_false c15
                    clear c15
                    have H' := Aside0.mk H
                    clear H
                    have p129 : 0 ≤ (x6_2 : Int) := of_decide_eq_true (by first | (with_reducible assumption) | assumption)
                    have q129 : x6_2 < (l0.length : Int) := of_decide_eq_true (by first | (with_reducible assumption) | assumption)
                    obtain ⟨ad129, e129, hx129_0⟩ := Kd.at_string HR0.out x6_2 p129 q129
                    cases e129
                    replace hx129_0 := (HB.out.cell (World.block_lt_of_cell? w _ hx129_0)).trans hx129_0
                    replace p129 := eq_true p129
                    replace q129 := eq_true q129
                    go_wp2_with (first | ((with_reducible refine gate_callee (f := 32) rfl ?_); refine goesL_ (some 37) rfl rfl Try.func32 (by kernel_rfl) rfl #[.string (rdOf ByteArray.empty l0 x6_2)] rfl (by (try simp only [List.map_toArray, List.map_cons, List.map_nil]); first | done | rfl | (simp only [List.length_drop, List.length_take]; rfl)) ?_; (with_reducible refine (pack_Text.calls k2 (rdOf ByteArray.empty l0 x6_2) t130 _ A13.out).mono ?_); rintro e w24 ⟨v131, rfl, ho0, hb⟩; refine ⟨_, rfl, ?_⟩; have n0_ := Aside0.mk (Kd.R_elder' (by (with_reducible repeat (first | apply Kd.R_alloc | apply Kd.R_drewN | apply Kd.R_drew)); exact HO_5.out) (Kd.R_base ho0) hb); have n1_ := Aside0.mk (Kd.R_lower (Kd.R_new' ho0 (Kd.R_lt (by (with_reducible repeat (first | apply Kd.R_alloc | apply Kd.R_drewN | apply Kd.R_drew)); exact HO_5.out))) (below_size (by repeat (first | (with_reducible first | exact HB.out | apply below_alloc | apply pw_below_drewN | apply below_drew1) | exact HB.out)))); have n2_ := Aside0.mk (below_step (by repeat (first | (with_reducible first | exact HB.out | apply below_alloc | apply pw_below_drewN | apply below_drew1) | exact HB.out)) hb); clear HO_5; clear HB; have HO_5 := n0_; have HO132 := n1_; have HB := n2_; clear n0_ n1_ n2_; (try clear hb); (try clear hb2); (try clear hk); (try clear hi); (try clear ho0); obtain ⟨Ao26, co26, eo26⟩ := Kd.R_slice HO132.out; subst eo26) | ((with_reducible refine gate_builtin (b := .append) (xs := #[.tmp 32, .tmp 37]) rfl ?_); (try (refine gate_guard (by rfl) ?_; dsimp only)); at_builtin; refine Kd.R_append_rows (Kd.int .u8) (w0 := w) w.heap.size rfl (.tmp 32) (.tmp 37) 22 5 (.int .u8 0) 1 rfl Try.underlying22 info5 rfl (by decide) (by omega) u5 x5_2 t130 _ _ _ (fun k_ => some k_ ≠ (.slice Ao26 t130.length co26 : Value).ownBlock) (fun _ => False) rfl rfl ?aO ?aR (fun _ _ h => h) (fun _ h => h.elim) ?aF ?aB ?aS ?aL ?_; (case aR => repeat (first | exact (Kd.R_reads' HO132.out).2.2 | (with_reducible refine Kd.C_alloc ?_ _) | (with_reducible refine Kd.C_drewN ?_ _) | (with_reducible refine Kd.C_drew ?_))); (case aB => exact (by repeat (first | (with_reducible first | exact HB.out | apply below_alloc | apply pw_below_drewN | apply below_drew1) | exact HB.out))); (case aF => exact (fun k_ hk => Kd.fresh' (Kd.R_lt (by (with_reducible repeat (first | apply Kd.R_alloc | apply Kd.R_drewN | apply Kd.R_drew)); exact HO132.out)) k_ hk)); (case aO => exact (by (with_reducible repeat (first | apply Kd.R_alloc | apply Kd.R_drewN | apply Kd.R_drew)); exact Kd.R_mono HO_5.out (fun _ hk => hk.2))); (case aS => exact (below_size (by repeat (first | (with_reducible first | exact HB.out | apply below_alloc | apply pw_below_drewN | apply below_drew1) | exact HB.out)))); (case aL => have := LMc14.out; omega); intro v134 w25 ho hb hg hat; rw [← Ny133.out] at ho; have n0_ := Aside0.mk (Kd.R_after (ok := (fun _ => True)) (by (with_reducible repeat (first | apply Kd.R_alloc | apply Kd.R_drewN | apply Kd.R_drew)); exact HO132.out) hg hat); have n1_ := Aside0.mk (hb); have n2_ := Aside0.mk (ho); clear HO132; clear HB; clear HO_5; have HO132 := n0_; have HB := n1_; have HO135 := n2_; clear n0_ n1_ n2_; clear ho hb hg hat))
                    go_roundg k2
                    case measure => have := HJ2.out; have := HK2.out; omega
                    case rel => exact ⟨(y133), (wrap64 (x6_2 + 1)), (by first | rfl | (simp; done) | (simp [*]; done)), H', ⟨by have := HJ2.out; have := HK2.out; omega⟩, ⟨by (with_reducible repeat (first | apply Kd.R_alloc | apply Kd.R_drewN | apply Kd.R_drew)); exact Kd.R_mono HO135.out (fun _ hk => trivial)⟩, ⟨by repeat (first | (with_reducible first | exact HB.out | apply below_alloc | apply pw_below_drewN | apply below_drew1) | exact HB.out)⟩⟩
                · rw [if_neg c14] at H
                  exact absurd H (by simp)
              · rw [if_neg c12] at H
                exact absurd H (by simp)
            · rw [if_neg c11] at H
              have c11b0 : decide (x6_2 < (l0.length : Int)) = false := decide_eq_false c11
              clear c11
              have H' := Aside0.mk H
              clear H
              go_wp2
              go_loopg [7, 8] k2 (fun kq v7 v8 w' => ∃ (x7_3 : Int) (x8_3 : Int), v7 = .int .i64 x7_3 ∧ v8 = .int .i64 x8_3 ∧ Aside0 (fascinelaw01_PackRuns.l1 kq l0 l1 x5_2 x7_3 x8_3 = some r) ∧ Aside0 (kq ≤ k2) ∧ Aside0 (Kd.R (Kd.int .u8) 5 w' w.heap.size (fun _ => True) u5 x5_2) ∧ Aside0 (Below w.heap.size w w'))
              case atStart => exact ⟨(0), (0), (by first | rfl | (simp; done) | (simp [*]; done)), (by first | rfl | (simp; done) | (simp [*]; done)), H', ⟨Nat.le_refl _⟩, ⟨by (with_reducible repeat (first | apply Kd.R_alloc | apply Kd.R_drewN | apply Kd.R_drew)); exact HO_5.out⟩, ⟨by repeat (first | (with_reducible first | exact HB.out | apply below_alloc | apply pw_below_drewN | apply below_drew1) | exact HB.out)⟩⟩
              case round =>
                clear H'
                try clear c1
                try clear p1
                try clear q1
                try clear hx1
                try clear c2
                try clear p2
                try clear c3
                try clear c5
                try clear p6
                try clear c8
                try clear c11
                try clear c11b0
                try clear c12
                try clear c12b0
                try clear p12
                try clear q12
                try clear hx12
                try clear p13
                try clear q13
                try clear hx13
                try clear c14
                try clear c15
                try clear c15b0
                try clear c17
                try clear c20
                try clear c23
                try clear hx129_0
                try clear hx136_0
                try clear p129
                try clear p136
                try clear p2
                try clear p6
                try clear q129
                try clear q136
                obtain ⟨x7_3, x8_3, rfl, rfl, HA, HK3, HO_5, HB⟩ := hrel
                cases gk with
                | zero => exact absurd HA.out (by simp [fascinelaw01_PackRuns.l1])
                | succ k3 =>
                  have H := HA.out
                  clear HA
                  simp only [fascinelaw01_PackRuns.l1] at H
                  by_cases c27 : x8_3 < (l0.length : Int)
                  · rw [if_pos c27] at H
                    have c27b0 : decide (x8_3 < (l0.length : Int)) = true := decide_eq_true c27
                    clear c27
                    by_cases c28 : 0 ≤ x8_3
                    · rw [if_pos c28] at H
                      have c28b0 : decide (0 ≤ x8_3) = true := decide_eq_true c28
                      clear c28
                      replace H := Option.bind_eq_some_iff.mp H
                      obtain ⟨⟨t144, t145, t146⟩, A290, H⟩ := H
                      replace H : (if t146 = 0 then (fascinelaw01_PackRuns.j3 k3 l0 l1 x5_2 x8_3 t145 (t144.toList != (rdOf ByteArray.empty l0 x8_3).toList)) else (fascinelaw01_PackRuns.j3 k3 l0 l1 x5_2 x8_3 t145 true)) = some r := H
                      have A29 := Aside0.mk A290
                      clear A290
                      have HC30 := Aside0.mk H
                      clear H
                      have p143 : 0 ≤ (x8_3 : Int) := of_decide_eq_true (by first | (with_reducible assumption) | assumption)
                      have q143 : x8_3 < (l0.length : Int) := of_decide_eq_true (by first | (with_reducible assumption) | assumption)
                      obtain ⟨ad143, e143, hx143_0⟩ := Kd.at_string HR0.out x8_3 p143 q143
                      cases e143
                      replace hx143_0 := (HB.out.cell (World.block_lt_of_cell? w _ hx143_0)).trans hx143_0
                      replace p143 := eq_true p143
                      replace q143 := eq_true q143
                      obtain ⟨Ao31, co31, eo31⟩ := Kd.R_slice HO_5.out
                      subst eo31
                      go_upto_region 15 with (first | ((with_reducible refine gate_callee (f := 30) rfl ?_); refine goesL_ (some 64) rfl rfl Try.func30 (by kernel_rfl) rfl #[.slice Ao31 x5_2.length co31, .int .i64 x7_3, .int .i64 ((rdOf ByteArray.empty l0 x8_3).size : Int)] rfl (by (try simp only [List.map_toArray, List.map_cons, List.map_nil]); first | done | rfl | (simp only [List.length_drop, List.length_take]; rfl)) ?_; (with_reducible refine (pack_ReadText.calls k3 _ _ x5_2 x7_3 ((rdOf ByteArray.empty l0 x8_3).size : Int) t144 t145 t146 _ ?side1 ?side2 A29.out).mono ?_); (case side1 => repeat (first | exact (Kd.R_reads' HO_5.out).2.2 | (with_reducible refine Kd.C_alloc ?_ _) | (with_reducible refine Kd.C_drewN ?_ _) | (with_reducible refine Kd.C_drew ?_))); (case side2 => exact (Kd.R_reads' HO_5.out).2.1); rintro e w' ⟨rfl, ⟨nd, rfl⟩⟩; refine ⟨_, rfl, ?_⟩))
                      (try simp only [Act.put, List.setIfInBounds_toArray, List.set_cons_zero, List.set_cons_succ])
                      go_cut [77] (fun v77 wc => ∃ (kq : Nat) (x77_29 : Bool), v77 = .bool x77_29 ∧ Aside0 (fascinelaw01_PackRuns.j3 kq l0 l1 x5_2 x8_3 t145 x77_29 = some r) ∧ Aside0 (kq ≤ k3) ∧ Aside0 (Kd.R (Kd.int .u8) 5 wc w.heap.size (fun _ => True) (.slice Ao31 x5_2.length co31) x5_2) ∧ Aside0 (Below w.heap.size w wc))
                      case first =>
                        have H := HC30.out
                        clear HC30
                        by_cases c32 : t146 = 0
                        · rw [if_pos c32] at H
                          have c32b0 : (t146 == 0) = true := beq_iff_eq.mpr c32
                          have c32b1 : (t146 != 0) = false := bne_eq_false_iff_eq.mpr c32
                          clear c32
                          (first | rw [c32b0] | (simp only [i64_w, i32_w]; rw [c32b0]) | skip)
                          have H' := Aside0.mk H
                          clear H
                          have p147 : 0 ≤ (x8_3 : Int) := of_decide_eq_true (by first | (with_reducible assumption) | assumption)
                          have q147 : x8_3 < (l0.length : Int) := of_decide_eq_true (by first | (with_reducible assumption) | assumption)
                          obtain ⟨ad147, e147, hx147_0⟩ := Kd.at_string HR0.out x8_3 p147 q147
                          obtain rfl : ad143 = ad147 := (by injection e147)
                          replace hx147_0 := (HB.out.cell (World.block_lt_of_cell? w _ hx147_0)).trans hx147_0
                          replace p147 := eq_true p147
                          replace q147 := eq_true q147
                          go_wp2
                          go_meet
                          case rel => exact ⟨_, ((t144.toList != (rdOf ByteArray.empty l0 x8_3).toList)), (by first | rfl | (simp; done) | (simp [*]; done)), H', ⟨by have := HJ2.out; have := HK2.out; have := HK3.out; first | omega | exact Nat.le_refl _⟩, ⟨by (with_reducible repeat (first | apply Kd.R_alloc | apply Kd.R_drewN | apply Kd.R_drew)); exact HO_5.out⟩, ⟨by repeat (first | (with_reducible first | exact HB.out | apply below_alloc | apply pw_below_drewN | apply below_drew1) | exact HB.out)⟩⟩
                        · rw [if_neg c32] at H
                          have c32b0 : (t146 == 0) = false := beq_eq_false_iff_ne.mpr c32
                          have c32b1 : (t146 != 0) = true := bne_iff_ne.mpr c32
                          (first | rw [c32b0] | (simp only [i64_w, i32_w]; rw [c32b0]) | skip)
                          have H' := Aside0.mk H
                          clear H
                          go_wp2
                          go_meet
                          case rel => exact ⟨_, (true), (by first | rfl | (simp; done) | (simp [*]; done)), H', ⟨by have := HJ2.out; have := HK2.out; have := HK3.out; first | omega | exact Nat.le_refl _⟩, ⟨by (with_reducible repeat (first | apply Kd.R_alloc | apply Kd.R_drewN | apply Kd.R_drew)); exact HO_5.out⟩, ⟨by repeat (first | (with_reducible first | exact HB.out | apply below_alloc | apply pw_below_drewN | apply below_drew1) | exact HB.out)⟩⟩
                      case rest =>
                        clear HC30
                        try clear c1
                        try clear p1
                        try clear q1
                        try clear hx1
                        try clear c2
                        try clear p2
                        try clear c3
                        try clear c5
                        try clear p6
                        try clear c8
                        try clear c11
                        try clear c11b0
                        try clear c12
                        try clear c12b0
                        try clear p12
                        try clear q12
                        try clear hx12
                        try clear p13
                        try clear q13
                        try clear hx13
                        try clear c14
                        try clear p14
                        try clear q14
                        try clear hx14
                        try clear c15
                        try clear c15b0
                        try clear c17
                        try clear c20
                        try clear c23
                        try clear c27
                        try clear c27b0
                        try clear c28
                        try clear c28b0
                        try clear c30
                        try clear c32
                        try clear c32b0
                        try clear c32b1
                        try clear hx129_0
                        try clear hx136_0
                        try clear hx143_0
                        try clear hx147_0
                        try clear p1
                        try clear p12
                        try clear p129
                        try clear p13
                        try clear p136
                        try clear p143
                        try clear p147
                        try clear p2
                        try clear p6
                        try clear q1
                        try clear q12
                        try clear q129
                        try clear q13
                        try clear q136
                        try clear q143
                        try clear q147
                        obtain ⟨kq, x77_29, rfl, HA, HJ29, HO_5, HB⟩ := hcut
                        cases kq with
                        | zero => exact absurd HA.out (by simp [fascinelaw01_PackRuns.j3])
                        | succ kj29 =>
                          have H := HA.out
                          clear HA
                          simp only [fascinelaw01_PackRuns.j3] at H
                          by_cases c33 : x77_29 = true
                          · subst c33
                            have H1 : (some false) = some r := by rw [if_pos rfl] at H; exact H
                            clear H
                            have H := H1
                            clear H1
                            exact absurd (HR_.out.symm.trans (Option.some.inj H).symm) (by decide)
                          · replace c33 := Bool.eq_false_iff.mpr c33
                            subst c33
                            have H1 : (if x8_3 < (l1.length : Int) then ((pack_ReadUvarint.f kj29 x5_2 t145).bind fun bt148 => (if bt148.2.2 = 0 then (if 0 ≤ x8_3 then (if bt148.1 = (rd l1 x8_3) then (fascinelaw01_PackRuns.l1 kj29 l0 l1 x5_2 bt148.2.1 (wrap64 (x8_3 + 1))) else (some false)) else (none)) else (some false))) else (fascinelaw01_PackRuns.l1 kj29 l0 l1 x5_2 t145 (wrap64 (x8_3 + 1)))) = some r := by rw [if_neg (show ¬ (false = true) by decide)] at H; exact H
                            clear H
                            have H := H1
                            clear H1
                            by_cases c34 : x8_3 < (l1.length : Int)
                            · rw [if_pos c34] at H
                              have c34b0 : decide (x8_3 < (l1.length : Int)) = true := decide_eq_true c34
                              clear c34
                              replace H := Option.bind_eq_some_iff.mp H
                              obtain ⟨⟨t148, t149, t150⟩, A350, H⟩ := H
                              replace H : (if t150 = 0 then (if 0 ≤ x8_3 then (if t148 = (rd l1 x8_3) then (fascinelaw01_PackRuns.l1 kj29 l0 l1 x5_2 t149 (wrap64 (x8_3 + 1))) else (some false)) else (none)) else (some false)) = some r := H
                              have A35 := Aside0.mk A350
                              clear A350
                              by_cases c36 : t150 = 0
                              · rw [if_pos c36] at H
                                have c36b0 : (t150 == 0) = true := beq_iff_eq.mpr c36
                                have c36b1 : (t150 != 0) = false := bne_eq_false_iff_eq.mpr c36
                                clear c36
                                by_cases c37 : 0 ≤ x8_3
                                · rw [if_pos c37] at H
                                  have c37b0 : decide (0 ≤ x8_3) = true := decide_eq_true c37
                                  clear c37
                                  by_cases c38 : t148 = (rd l1 x8_3)
                                  · rw [if_pos c38] at H
                                    have c38b0 : (t148 == (rd l1 x8_3)) = true := beq_iff_eq.mpr c38
                                    have c38b1 : (t148 != (rd l1 x8_3)) = false := bne_eq_false_iff_eq.mpr c38
                                    clear c38
                                    have H' := Aside0.mk H
                                    clear H
                                    go_wp2_with (first | ((with_reducible refine gate_callee (f := 22) rfl ?_); refine goesL_ (some 86) rfl rfl Try.func22 (by kernel_rfl) rfl #[.slice Ao31 x5_2.length co31, .int .i64 t145] rfl (by (try simp only [List.map_toArray, List.map_cons, List.map_nil]); first | done | rfl | (simp only [List.length_drop, List.length_take]; rfl)) ?_; (with_reducible refine (pack_ReadUvarint.calls kj29 _ _ x5_2 t145 t148 t149 t150 _ ?side1 ?side2 A35.out).mono ?_); (case side1 => repeat (first | exact (Kd.R_reads' HO_5.out).2.2 | (with_reducible refine Kd.C_alloc ?_ _) | (with_reducible refine Kd.C_drewN ?_ _) | (with_reducible refine Kd.C_drew ?_))); (case side2 => exact (Kd.R_reads' HO_5.out).2.1); rintro e w' ⟨rfl, ⟨nd, rfl⟩⟩; refine ⟨_, rfl, ?_⟩; have p151 : 0 ≤ (x8_3 : Int) := of_decide_eq_true (by first | (with_reducible assumption) | assumption); have q151 : x8_3 < (l1.length : Int) := of_decide_eq_true (by first | (with_reducible assumption) | assumption); obtain ⟨ad151, e151, hx151_0⟩ := Kd.at_int HR1.out x8_3 p151 q151; cases e151; replace hx151_0 := (HB.out.cell (World.block_lt_of_cell? w _ hx151_0)).trans hx151_0; replace p151 := eq_true p151; replace q151 := eq_true q151))
                                    go_roundg kj29
                                    case measure => have := HJ2.out; have := HK2.out; have := HK3.out; have := HJ29.out; omega
                                    case rel => exact ⟨(t149), (wrap64 (x8_3 + 1)), (by first | rfl | (simp; done) | (simp [*]; done)), (by first | rfl | (simp; done) | (simp [*]; done)), H', ⟨by have := HJ2.out; have := HK2.out; have := HK3.out; have := HJ29.out; omega⟩, ⟨by (with_reducible repeat (first | apply Kd.R_alloc | apply Kd.R_drewN | apply Kd.R_drew)); exact HO_5.out⟩, ⟨by repeat (first | (with_reducible first | exact HB.out | apply below_alloc | apply pw_below_drewN | apply below_drew1) | exact HB.out)⟩⟩
                                  · rw [if_neg c38] at H
                                    have c38b0 : (t148 == (rd l1 x8_3)) = false := beq_eq_false_iff_ne.mpr c38
                                    have c38b1 : (t148 != (rd l1 x8_3)) = true := bne_iff_ne.mpr c38
                                    exact absurd (HR_.out.symm.trans (Option.some.inj H).symm) (by decide)
                                · rw [if_neg c37] at H
                                  exact absurd H (by simp)
                              · rw [if_neg c36] at H
                                have c36b0 : (t150 == 0) = false := beq_eq_false_iff_ne.mpr c36
                                have c36b1 : (t150 != 0) = true := bne_iff_ne.mpr c36
                                exact absurd (HR_.out.symm.trans (Option.some.inj H).symm) (by decide)
                            · rw [if_neg c34] at H
                              have c34b0 : decide (x8_3 < (l1.length : Int)) = false := decide_eq_false c34
                              clear c34
                              have H' := Aside0.mk H
                              clear H
                              go_wp2
                              go_roundg kj29
                              case measure => have := HJ2.out; have := HK2.out; have := HK3.out; have := HJ29.out; omega
                              case rel => exact ⟨(t145), (wrap64 (x8_3 + 1)), (by first | rfl | (simp; done) | (simp [*]; done)), (by first | rfl | (simp; done) | (simp [*]; done)), H', ⟨by have := HJ2.out; have := HK2.out; have := HK3.out; have := HJ29.out; omega⟩, ⟨by (with_reducible repeat (first | apply Kd.R_alloc | apply Kd.R_drewN | apply Kd.R_drew)); exact HO_5.out⟩, ⟨by repeat (first | (with_reducible first | exact HB.out | apply below_alloc | apply pw_below_drewN | apply below_drew1) | exact HB.out)⟩⟩
                    · rw [if_neg c28] at H
                      exact absurd H (by simp)
                  · rw [if_neg c27] at H
                    have c27b0 : decide (x8_3 < (l0.length : Int)) = false := decide_eq_false c27
                    clear c27
                    obtain rfl := Option.some.inj H
                    obtain ⟨Ao39, co39, eo39⟩ := Kd.R_slice HO_5.out
                    subst eo39
                    go_wp2
                    go_ret
                    exact ⟨by first | rfl | (simp [errW_none, errW_some] <;> rfl) | (simp [*, errW_none, errW_some] <;> rfl), by repeat (first | (with_reducible first | exact HB.out | apply below_alloc | apply pw_below_drewN | apply below_drew1) | exact HB.out)⟩

end Go.Proofs.Ytifbpjkgckkalaa.PPackRuns
