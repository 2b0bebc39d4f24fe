-- WRITTEN BY A PROGRAM OF THIS SESSION (wip/patch_print.py: the kit's printer with rules of this session's own); Lean checks it.
import Derived.Test.YtifbpjkgckkalaaPPackTornx0
import Derived.Test.YtifbpjkgckkalaaPPackTornx1
import Derived.Test.YtifbpjkgckkalaaPPackTornx2
namespace Go.Proofs.Ytifbpjkgckkalaa.PPackTorn
open Go.RowKit Go.Proofs.YtifbpjkgckkalaaW.PrintWords Go.Proofs.YtifbpjkgckkalaaW.PrintLast Go.Proofs.YtifbpjkgckkalaaW.PrintMore
attribute [local go_sem] max2_int min2_int max_two min_two max_three min_three max_four min_four   -- for this text's walks alone
set_option linter.unusedVariables false
set_option linter.unusedSimpArgs false

/-! ### fascinelaw01_PackTorn: function 13 -/
mutual
def fascinelaw01_PackTorn.j0 : Nat → List Int → List Int → Int → Int → Int → Bool → Option (Bool)
  | 0, _, _, _, _, _, _ => none
  | k + 1, x0, x1, x2, x3, x4, x32 => if x32 = true then ((fascinelaw01_awake.f k).bind fun t157 => (some t157)) else ((pack_Frame.f k x0).bind fun bt158 => (if bt158.2 = 0 then (fascinelaw01_PackTorn.j1 k x0 x1 x2 x3 x4 bt158.1 (decide ((bt158.1.length : Int) < 7))) else (fascinelaw01_PackTorn.j1 k x0 x1 x2 x3 x4 bt158.1 true)))
def fascinelaw01_PackTorn.j1 : Nat → List Int → List Int → Int → Int → Int → List Int → Bool → Option (Bool)
  | 0, _, _, _, _, _, _, _ => none
  | k + 1, x0, x1, x2, x3, x4, x11, x45 => if x45 = true then (some false) else (if (x11.length : Int) = 0 then (none) else (if 0 ≤ (Int.tmod (wrap64 (x2)) (x11.length : Int)) then (if (Int.tmod (wrap64 (x2)) (x11.length : Int)) ≤ (x11.length : Int) then ((pack_ReadFrame.f k (x11.take ((Int.tmod (wrap64 (x2)) (x11.length : Int)) : Int).toNat) 0).bind fun bt166 => (if ([] : List Int).length + x11.length < 140737488355328 then ((some (([] : List Int) ++ x11 : List Int)).bind fun y171 => (if y171.length + x1.length < 140737488355328 then ((some (y171 ++ x1 : List Int)).bind fun y174 => ((pack_ReadFrame.f k y174 0).bind fun bt177 => (if bt166.2.2 = 0 then (fascinelaw01_PackTorn.j2 k x0 x3 x4 x11 y174 true) else (if bt177.2.2 = 0 then (if bt177.2.1 = (x11.length : Int) then (fascinelaw01_PackTorn.j2 k x0 x3 x4 x11 y174 ((strOfNums bt177.1).toList != (strOfNums x0).toList)) else (fascinelaw01_PackTorn.j2 k x0 x3 x4 x11 y174 true)) else (fascinelaw01_PackTorn.j2 k x0 x3 x4 x11 y174 true))))) else (none))) else (none))) else (none)) else (none)))
def fascinelaw01_PackTorn.j2 : Nat → List Int → Int → Int → List Int → List Int → Bool → Option (Bool)
  | 0, _, _, _, _, _, _ => none
  | k + 1, x0, x3, x4, x11, x17, x89 => if x89 = true then (some false) else (if x4 = 0 then (some true) else (if (wrap64 ((x0.length : Int) + 4)) = 0 then (none) else (if 0 ≤ (wrap64 ((wrap64 ((wrap64 ((x11.length : Int) - (x0.length : Int))) - 5)) + (Int.tmod (wrap64 (x3)) (wrap64 ((x0.length : Int) + 4))))) then (if (wrap64 ((wrap64 ((wrap64 ((x11.length : Int) - (x0.length : Int))) - 5)) + (Int.tmod (wrap64 (x3)) (wrap64 ((x0.length : Int) + 4))))) < (x17.length : Int) then ((pack_ReadFrame.f k (x17.set ((wrap64 ((wrap64 ((wrap64 ((x11.length : Int) - (x0.length : Int))) - 5)) + (Int.tmod (wrap64 (x3)) (wrap64 ((x0.length : Int) + 4))))) : Int).toNat (Go.bits .xor .u8 (rd x17 (wrap64 ((wrap64 ((wrap64 ((x11.length : Int) - (x0.length : Int))) - 5)) + (Int.tmod (wrap64 (x3)) (wrap64 ((x0.length : Int) + 4)))))) x4)) 0).bind fun bt184 => (some (bt184.2.2 == 5))) else (none)) else (none))))
end
def fascinelaw01_PackTorn.f (k : Nat) (l0 : List Int) (l1 : List Int) (a2 : Int) (a3 : Int) (a4 : Int) : Option (Bool) := (fascinelaw01_awake.f k).bind fun t156 => (if t156 = true then (fascinelaw01_PackTorn.j0 k l0 l1 a2 a3 a4 (decide ((l0.length : Int) > 2000))) else (fascinelaw01_PackTorn.j0 k l0 l1 a2 a3 a4 true))
theorem fascinelaw01_PackTorn.mono_l : ∀ k, (∀ y0 y1 y2 y3 y4 y5, LeO (fascinelaw01_PackTorn.j0 k y0 y1 y2 y3 y4 y5) (fascinelaw01_PackTorn.j0 (k + 1) y0 y1 y2 y3 y4 y5)) ∧ (∀ y0 y1 y2 y3 y4 y5 y6, LeO (fascinelaw01_PackTorn.j1 k y0 y1 y2 y3 y4 y5 y6) (fascinelaw01_PackTorn.j1 (k + 1) y0 y1 y2 y3 y4 y5 y6)) ∧ (∀ y0 y1 y2 y3 y4 y5, LeO (fascinelaw01_PackTorn.j2 k y0 y1 y2 y3 y4 y5) (fascinelaw01_PackTorn.j2 (k + 1) y0 y1 y2 y3 y4 y5))
  | 0 => ⟨fun _ _ _ _ _ _ r h => by simp [fascinelaw01_PackTorn.j0] at h, fun _ _ _ _ _ _ _ r h => by simp [fascinelaw01_PackTorn.j1] at h, fun _ _ _ _ _ _ r h => by simp [fascinelaw01_PackTorn.j2] at h⟩
  | k + 1 => by
    obtain ⟨ih0, ih1, ih2⟩ := fascinelaw01_PackTorn.mono_l k
    refine ⟨?_, ?_, ?_⟩
    · intro y0 y1 y2 y3 y4 y5
      unfold fascinelaw01_PackTorn.j0
      repeat' first
      | (with_reducible exact ih0 _ _ _ _ _ _)
      | (with_reducible exact ih1 _ _ _ _ _ _ _)
      | (with_reducible exact ih2 _ _ _ _ _ _)
      | (with_reducible exact fascinelaw01_awake.mono _)
      | (with_reducible exact pack_Frame.mono _ _)
      | (with_reducible exact pack_ReadFrame.mono _ _ _)
      | (with_reducible exact LeO.refl _)
      | (with_reducible exact LeO.none _)
      | (with_reducible refine LeO.ite ?_ ?_)
      | (with_reducible refine LeO.bind ?_ (fun _ => ?_))
      | exact ih0 _ _ _ _ _ _
      | exact ih1 _ _ _ _ _ _ _
      | exact ih2 _ _ _ _ _ _
      | exact fascinelaw01_awake.mono _
      | exact pack_Frame.mono _ _
      | exact pack_ReadFrame.mono _ _ _
      | exact LeO.none _
      | refine LeO.ite ?_ ?_
      | refine LeO.bind ?_ (fun _ => ?_)
    · intro y0 y1 y2 y3 y4 y5 y6
      unfold fascinelaw01_PackTorn.j1
      repeat' first
      | (with_reducible exact ih0 _ _ _ _ _ _)
      | (with_reducible exact ih1 _ _ _ _ _ _ _)
      | (with_reducible exact ih2 _ _ _ _ _ _)
      | (with_reducible exact fascinelaw01_awake.mono _)
      | (with_reducible exact pack_Frame.mono _ _)
      | (with_reducible exact pack_ReadFrame.mono _ _ _)
      | (with_reducible exact LeO.refl _)
      | (with_reducible exact LeO.none _)
      | (with_reducible refine LeO.ite ?_ ?_)
      | (with_reducible refine LeO.bind ?_ (fun _ => ?_))
      | exact ih0 _ _ _ _ _ _
      | exact ih1 _ _ _ _ _ _ _
      | exact ih2 _ _ _ _ _ _
      | exact fascinelaw01_awake.mono _
      | exact pack_Frame.mono _ _
      | exact pack_ReadFrame.mono _ _ _
      | exact LeO.none _
      | refine LeO.ite ?_ ?_
      | refine LeO.bind ?_ (fun _ => ?_)
    · intro y0 y1 y2 y3 y4 y5
      unfold fascinelaw01_PackTorn.j2
      repeat' first
      | (with_reducible exact ih0 _ _ _ _ _ _)
      | (with_reducible exact ih1 _ _ _ _ _ _ _)
      | (with_reducible exact ih2 _ _ _ _ _ _)
      | (with_reducible exact fascinelaw01_awake.mono _)
      | (with_reducible exact pack_Frame.mono _ _)
      | (with_reducible exact pack_ReadFrame.mono _ _ _)
      | (with_reducible exact LeO.refl _)
      | (with_reducible exact LeO.none _)
      | (with_reducible refine LeO.ite ?_ ?_)
      | (with_reducible refine LeO.bind ?_ (fun _ => ?_))
      | exact ih0 _ _ _ _ _ _
      | exact ih1 _ _ _ _ _ _ _
      | exact ih2 _ _ _ _ _ _
      | exact fascinelaw01_awake.mono _
      | exact pack_Frame.mono _ _
      | exact pack_ReadFrame.mono _ _ _
      | exact LeO.none _
      | refine LeO.ite ?_ ?_
      | refine LeO.bind ?_ (fun _ => ?_)
theorem fascinelaw01_PackTorn.mono : ∀ a0 a1 a2 a3 a4 k, LeO (fascinelaw01_PackTorn.f k a0 a1 a2 a3 a4) (fascinelaw01_PackTorn.f (k + 1) a0 a1 a2 a3 a4) := by
  intro a0 a1 a2 a3 a4 k
  obtain ⟨ih0, ih1, ih2⟩ := fascinelaw01_PackTorn.mono_l k
  unfold fascinelaw01_PackTorn.f
  repeat' first
      | (with_reducible exact ih0 _ _ _ _ _ _)
      | (with_reducible exact ih1 _ _ _ _ _ _ _)
      | (with_reducible exact ih2 _ _ _ _ _ _)
      | (with_reducible exact fascinelaw01_awake.mono _)
      | (with_reducible exact pack_Frame.mono _ _)
      | (with_reducible exact pack_ReadFrame.mono _ _ _)
      | (with_reducible exact LeO.refl _)
      | (with_reducible exact LeO.none _)
      | (with_reducible refine LeO.ite ?_ ?_)
      | (with_reducible refine LeO.bind ?_ (fun _ => ?_))
      | exact ih0 _ _ _ _ _ _
      | exact ih1 _ _ _ _ _ _ _
      | exact ih2 _ _ _ _ _ _
      | exact fascinelaw01_awake.mono _
      | exact pack_Frame.mono _ _
      | exact pack_ReadFrame.mono _ _ _
      | exact LeO.none _
      | refine LeO.ite ?_ ?_
      | refine LeO.bind ?_ (fun _ => ?_)
set_option maxHeartbeats 8000000 in
set_option maxRecDepth 100000 in
theorem fascinelaw01_PackTorn.calls (k : Nat) (A0 : Option Addr) (c0 : Nat) (l0 : List Int) (A1 : Option Addr) (c1 : Nat) (l1 : List Int) (a2 : Int) (a3 : Int) (a4 : Int) (r : Bool) (w : World) (hr0 : Kd.C (Kd.int .u8) w A0 l0.length l0) (hc0 : l0.length ≤ c0) (hr1 : Kd.C (Kd.int .u8) w A1 l1.length l1) (hc1 : l1.length ≤ c1) (h : fascinelaw01_PackTorn.f k l0 l1 a2 a3 a4 = some r) (hr_ : r = true) :
    Calls Try.prog 13 #[.slice A0 l0.length c0, .slice A1 l1.length c1, .int .u16 a2, .int .u16 a3, .int .u8 a4] w fun e w' => e = .returned (.bool r) ∧ Below w.heap.size w w' := by
  have HR_ := Aside0.mk hr_
  clear hr_
  have HR0 := Aside0.mk hr0
  have HC0 := Aside0.mk hc0
  clear hr0 hc0
  have HR1 := Aside0.mk hr1
  have HC1 := Aside0.mk hc1
  clear hr1 hc1
  have HB := Aside0.mk (Below.refl w.heap.size w)
  have H : ((fascinelaw01_awake.f k).bind fun t156 => (if t156 = true then (fascinelaw01_PackTorn.j0 k l0 l1 a2 a3 a4 (decide ((l0.length : Int) > 2000))) else (fascinelaw01_PackTorn.j0 k l0 l1 a2 a3 a4 true))) = some r := h
  clear h
  have HC6 := Aside0.mk H
  clear H
  go_enter Try.func13, Try.ntmps13
  go_upto_region 1 with (fail)
  go_cut [32] (fun v32 wc => ∃ (kq : Nat) (x32_5 : Bool), v32 = .bool x32_5 ∧ Aside0 (fascinelaw01_PackTorn.j0 kq l0 l1 a2 a3 a4 x32_5 = some r) ∧ Aside0 (kq ≤ k) ∧ Aside0 (Below w.heap.size w wc))
  case first =>
    have H := HC6.out
    clear HC6
    replace H := Option.bind_eq_some_iff.mp H
    obtain ⟨t156, A70, H⟩ := H
    replace H : (if t156 = true then (fascinelaw01_PackTorn.j0 k l0 l1 a2 a3 a4 (decide ((l0.length : Int) > 2000))) else (fascinelaw01_PackTorn.j0 k l0 l1 a2 a3 a4 true)) = some r := H
    have A7 := Aside0.mk A70
    clear A70
    by_cases c8 : t156 = true
    · subst c8
      have H1 : (fascinelaw01_PackTorn.j0 k l0 l1 a2 a3 a4 (decide ((l0.length : Int) > 2000))) = some r := by rw [if_pos rfl] at H; exact H
      clear H
      have H := H1
      clear H1
      have H' := Aside0.mk H
      clear H
      go_wp2_with (first | ((with_reducible refine gate_callee (f := 20) rfl ?_); refine goesL_ (some 26) rfl rfl Try.func20 (by kernel_rfl) rfl #[] rfl (by (try simp only [List.map_toArray, List.map_cons, List.map_nil]); first | done | rfl | (simp only [List.length_drop, List.length_take]; rfl)) ?_; (with_reducible refine (fascinelaw01_awake.calls k  true _ A7.out).mono ?_); rintro e w9 ⟨rfl, hb⟩; refine ⟨_, rfl, ?_⟩; have n0_ := Aside0.mk (below_step (by repeat (first | (with_reducible first | exact HB.out | apply below_alloc | apply pw_below_drewN | apply below_drew1) | exact HB.out)) hb); clear HB; have HB := n0_; clear n0_; (try clear hb); (try clear hb2); (try clear hk); (try clear hi)))
      go_meet
      case rel => exact ⟨_, (decide ((l0.length : Int) > 2000)), (by first | rfl | (simp; done) | (simp [*]; done)), H', ⟨by first | omega | exact Nat.le_refl _⟩, ⟨by repeat (first | (with_reducible first | exact HB.out | apply below_alloc | apply pw_below_drewN | apply below_drew1) | exact HB.out)⟩⟩
    · replace c8 := Bool.eq_false_iff.mpr c8
      subst c8
      have H1 : (fascinelaw01_PackTorn.j0 k l0 l1 a2 a3 a4 true) = some r := by rw [if_neg (show ¬ (false = true) by decide)] at H; exact H
      clear H
      have H := H1
      clear H1
      have H' := Aside0.mk H
      clear H
      go_wp2_with (first | ((with_reducible refine gate_callee (f := 20) rfl ?_); refine goesL_ (some 26) rfl rfl Try.func20 (by kernel_rfl) rfl #[] rfl (by (try simp only [List.map_toArray, List.map_cons, List.map_nil]); first | done | rfl | (simp only [List.length_drop, List.length_take]; rfl)) ?_; (with_reducible refine (fascinelaw01_awake.calls k  false _ A7.out).mono ?_); rintro e w10 ⟨rfl, hb⟩; refine ⟨_, rfl, ?_⟩; have n0_ := Aside0.mk (below_step (by repeat (first | (with_reducible first | exact HB.out | apply below_alloc | apply pw_below_drewN | apply below_drew1) | exact HB.out)) hb); clear HB; have HB := n0_; clear n0_; (try clear hb); (try clear hb2); (try clear hk); (try clear hi)))
      go_meet
      case rel => exact ⟨_, (true), (by first | rfl | (simp; done) | (simp [*]; done)), H', ⟨by first | omega | exact Nat.le_refl _⟩, ⟨by repeat (first | (with_reducible first | exact HB.out | apply below_alloc | apply pw_below_drewN | apply below_drew1) | exact HB.out)⟩⟩
  case rest =>
    clear HC6
    try clear c1
    try clear c2
    try clear p2
    try clear c8
    obtain ⟨kq, x32_5, rfl, HA, HJ5, HB⟩ := hcut
    cases kq with
    | zero => exact absurd HA.out (by simp [fascinelaw01_PackTorn.j0])
    | succ kj5 =>
      have H := HA.out
      clear HA
      simp only [fascinelaw01_PackTorn.j0] at H
      by_cases c11 : x32_5 = true
      · subst c11
        have H1 : ((fascinelaw01_awake.f kj5).bind fun t157 => (some t157)) = some r := by rw [if_pos rfl] at H; exact H
        clear H
        have H := H1
        clear H1
        replace H := Option.bind_eq_some_iff.mp H
        obtain ⟨t157, A120, H⟩ := H
        replace H : (some t157) = some r := H
        have A12 := Aside0.mk A120
        clear A120
        obtain rfl := Option.some.inj H
        go_wp2_with (first | ((with_reducible refine gate_callee (f := 20) rfl ?_); refine goesL_ (some 33) rfl rfl Try.func20 (by kernel_rfl) rfl #[] rfl (by (try simp only [List.map_toArray, List.map_cons, List.map_nil]); first | done | rfl | (simp only [List.length_drop, List.length_take]; rfl)) ?_; (with_reducible refine (fascinelaw01_awake.calls kj5  t157 _ A12.out).mono ?_); rintro e w13 ⟨rfl, hb⟩; refine ⟨_, rfl, ?_⟩; have n0_ := Aside0.mk (below_step (by repeat (first | (with_reducible first | exact HB.out | apply below_alloc | apply pw_below_drewN | apply below_drew1) | exact HB.out)) hb); clear HB; have HB := n0_; clear n0_; (try clear hb); (try clear hb2); (try clear hk); (try clear hi)))
        go_ret
        exact ⟨by first | rfl | (simp [errW_none, errW_some] <;> rfl) | (simp [*, errW_none, errW_some] <;> rfl), by repeat (first | (with_reducible first | exact HB.out | apply below_alloc | apply pw_below_drewN | apply below_drew1) | exact HB.out)⟩
      · replace c11 := Bool.eq_false_iff.mpr c11
        subst c11
        have H1 : ((pack_Frame.f kj5 l0).bind fun bt158 => (if bt158.2 = 0 then (fascinelaw01_PackTorn.j1 kj5 l0 l1 a2 a3 a4 bt158.1 (decide ((bt158.1.length : Int) < 7))) else (fascinelaw01_PackTorn.j1 kj5 l0 l1 a2 a3 a4 bt158.1 true))) = some r := by rw [if_neg (show ¬ (false = true) by decide)] at H; exact H
        clear H
        have H := H1
        clear H1
        replace H := Option.bind_eq_some_iff.mp H
        obtain ⟨⟨t158, t159⟩, A140, H⟩ := H
        replace H : (if t159 = 0 then (fascinelaw01_PackTorn.j1 kj5 l0 l1 a2 a3 a4 t158 (decide ((t158.length : Int) < 7))) else (fascinelaw01_PackTorn.j1 kj5 l0 l1 a2 a3 a4 t158 true)) = some r := H
        have A14 := Aside0.mk A140
        clear A140
        have HC15 := Aside0.mk H
        clear H
        go_upto_region 4 with (first | ((with_reducible refine gate_callee (f := 41) rfl ?_); refine goesL_ (some 36) rfl rfl Try.func41 (by kernel_rfl) rfl #[.slice A0 l0.length c0] rfl (by (try simp only [List.map_toArray, List.map_cons, List.map_nil]); first | done | rfl | (simp only [List.length_drop, List.length_take]; rfl)) ?_; (with_reducible refine (pack_Frame.calls kj5 _ _ l0 t158 t159 _ ?side1 ?side2 A14.out).mono ?_); (case side1 => repeat (first | exact (Kd.C_below HR0.out HB.out) | (with_reducible refine Kd.C_alloc ?_ _) | (with_reducible refine Kd.C_drewN ?_ _) | (with_reducible refine Kd.C_drew ?_))); (case side2 => exact HC0.out); rintro e w16 ⟨v160, rfl, ho0, hb⟩; refine ⟨_, rfl, ?_⟩; have n0_ := Aside0.mk (Kd.R_lower ho0 (below_size (by repeat (first | (with_reducible first | exact HB.out | apply below_alloc | apply pw_below_drewN | apply below_drew1) | exact HB.out)))); have n1_ := Aside0.mk (below_step (by repeat (first | (with_reducible first | exact HB.out | apply below_alloc | apply pw_below_drewN | apply below_drew1) | exact HB.out)) hb); clear HB; have HO161 := n0_; have HB := n1_; clear n0_ n1_; (try clear hb); (try clear hb2); (try clear hk); (try clear hi); (try clear ho0)))
        (try simp only [Act.put, List.setIfInBounds_toArray, List.set_cons_zero, List.set_cons_succ])
        go_cut [45] (fun v45 wc => ∃ (kq : Nat) (x45_14 : Bool), v45 = .bool x45_14 ∧ Aside0 (fascinelaw01_PackTorn.j1 kq l0 l1 a2 a3 a4 t158 x45_14 = some r) ∧ Aside0 (kq ≤ kj5) ∧ Aside0 (Kd.R (Kd.int .u8) 5 wc w.heap.size (fun _ => True) v160 t158) ∧ Aside0 (Below w.heap.size w wc))
        case first =>
          have H := HC15.out
          clear HC15
          by_cases c17 : t159 = 0
          · rw [if_pos c17] at H
            have c17b0 : (t159 == 0) = true := beq_iff_eq.mpr c17
            have c17b1 : (t159 != 0) = false := bne_eq_false_iff_eq.mpr c17
            clear c17
            (first | rw [c17b0] | (simp only [i64_w, i32_w]; rw [c17b0]) | skip)
            have H' := Aside0.mk H
            clear H
            obtain ⟨Ao18, co18, eo18⟩ := Kd.R_slice HO161.out
            subst eo18
            go_wp2
            go_meet
            case rel => exact ⟨_, (decide ((t158.length : Int) < 7)), (by first | rfl | (simp; done) | (simp [*]; done)), H', ⟨by have := HJ5.out; first | omega | exact Nat.le_refl _⟩, ⟨by (with_reducible repeat (first | apply Kd.R_alloc | apply Kd.R_drewN | apply Kd.R_drew)); exact HO161.out⟩, ⟨by repeat (first | (with_reducible first | exact HB.out | apply below_alloc | apply pw_below_drewN | apply below_drew1) | exact HB.out)⟩⟩
          · rw [if_neg c17] at H
            have c17b0 : (t159 == 0) = false := beq_eq_false_iff_ne.mpr c17
            have c17b1 : (t159 != 0) = true := bne_iff_ne.mpr c17
            (first | rw [c17b0] | (simp only [i64_w, i32_w]; rw [c17b0]) | skip)
            have H' := Aside0.mk H
            clear H
            go_wp2
            go_meet
            case rel => exact ⟨_, (true), (by first | rfl | (simp; done) | (simp [*]; done)), H', ⟨by have := HJ5.out; first | omega | exact Nat.le_refl _⟩, ⟨by (with_reducible repeat (first | apply Kd.R_alloc | apply Kd.R_drewN | apply Kd.R_drew)); exact HO161.out⟩, ⟨by repeat (first | (with_reducible first | exact HB.out | apply below_alloc | apply pw_below_drewN | apply below_drew1) | exact HB.out)⟩⟩
        case rest =>
          clear HC15
          try clear c1
          try clear c2
          try clear p2
          try clear c4
          try clear c8
          try clear c11
          try clear c13
          try clear c17
          try clear c17b0
          try clear c17b1
          try clear p2
          obtain ⟨kq, x45_14, rfl, HA, HJ14, HO_11, HB⟩ := hcut
          cases kq with
          | zero => exact absurd HA.out (by simp [fascinelaw01_PackTorn.j1])
          | succ kj14 =>
            have H := HA.out
            clear HA
            simp only [fascinelaw01_PackTorn.j1] at H
            by_cases c19 : x45_14 = true
            · subst c19
              have H1 : (some false) = some r := by rw [if_pos rfl] at H; exact H
              clear H
              have H := H1
              clear H1
              exact absurd (HR_.out.symm.trans (Option.some.inj H).symm) (by decide)
            · replace c19 := Bool.eq_false_iff.mpr c19
              subst c19
              have H1 : (if (t158.length : Int) = 0 then (none) else (if 0 ≤ (Int.tmod (wrap64 (a2)) (t158.length : Int)) then (if (Int.tmod (wrap64 (a2)) (t158.length : Int)) ≤ (t158.length : Int) then ((pack_ReadFrame.f kj14 (t158.take ((Int.tmod (wrap64 (a2)) (t158.length : Int)) : Int).toNat) 0).bind fun bt166 => (if ([] : List Int).length + t158.length < 140737488355328 then ((some (([] : List Int) ++ t158 : List Int)).bind fun y171 => (if y171.length + l1.length < 140737488355328 then ((some (y171 ++ l1 : List Int)).bind fun y174 => ((pack_ReadFrame.f kj14 y174 0).bind fun bt177 => (if bt166.2.2 = 0 then (fascinelaw01_PackTorn.j2 kj14 l0 a3 a4 t158 y174 true) else (if bt177.2.2 = 0 then (if bt177.2.1 = (t158.length : Int) then (fascinelaw01_PackTorn.j2 kj14 l0 a3 a4 t158 y174 ((strOfNums bt177.1).toList != (strOfNums l0).toList)) else (fascinelaw01_PackTorn.j2 kj14 l0 a3 a4 t158 y174 true)) else (fascinelaw01_PackTorn.j2 kj14 l0 a3 a4 t158 y174 true))))) else (none))) else (none))) else (none)) else (none))) = some r := by rw [if_neg (show ¬ (false = true) by decide)] at H; exact H
              clear H
              have H := H1
              clear H1
              by_cases c20 : (t158.length : Int) = 0
              · rw [if_pos c20] at H
                exact absurd H (by simp)
              · rw [if_neg c20] at H
                have c20b0 : ((t158.length : Int) == 0) = false := beq_eq_false_iff_ne.mpr c20
                have c20b1 : ((t158.length : Int) != 0) = true := bne_iff_ne.mpr c20
                have c20b2 : ¬ (t158 = []) := fun h_ => c20 (by rw [h_]; rfl)
                obtain ⟨ji21, hji21⟩ : ∃ j_ : Int, (Int.tmod (wrap64 (a2)) (t158.length : Int)) = j_ := ⟨_, rfl⟩
                replace H : (if 0 ≤ (ji21) then (if (ji21) ≤ (t158.length : Int) then ((pack_ReadFrame.f kj14 (t158.take ((ji21) : Int).toNat) 0).bind fun bt166 => (if ([] : List Int).length + t158.length < 140737488355328 then ((some (([] : List Int) ++ t158 : List Int)).bind fun y171 => (if y171.length + l1.length < 140737488355328 then ((some (y171 ++ l1 : List Int)).bind fun y174 => ((pack_ReadFrame.f kj14 y174 0).bind fun bt177 => (if bt166.2.2 = 0 then (fascinelaw01_PackTorn.j2 kj14 l0 a3 a4 t158 y174 true) else (if bt177.2.2 = 0 then (if bt177.2.1 = (t158.length : Int) then (fascinelaw01_PackTorn.j2 kj14 l0 a3 a4 t158 y174 ((strOfNums bt177.1).toList != (strOfNums l0).toList)) else (fascinelaw01_PackTorn.j2 kj14 l0 a3 a4 t158 y174 true)) else (fascinelaw01_PackTorn.j2 kj14 l0 a3 a4 t158 y174 true))))) else (none))) else (none))) else (none)) else (none)) = some r := by first | (rw [hji21] at H; exact H) | (simp only [hji21] at H ⊢; exact H)
                by_cases c22 : 0 ≤ (ji21)
                · rw [if_pos c22] at H
                  have c22b0 := eq_true c22
                  have c22b1 : decide (0 ≤ (ji21)) = true := decide_eq_true c22
                  clear c22
                  by_cases c23 : (ji21) ≤ (t158.length : Int)
                  · rw [if_pos c23] at H
                    have c23b0 := eq_true c23
                    have c23b1 : decide ((ji21) ≤ (t158.length : Int)) = true := decide_eq_true c23
                    clear c23
                    obtain ⟨y162, hy162⟩ : ∃ y_ : List Int, y_ = (t158.take ((ji21) : Int).toNat) := ⟨_, rfl⟩
                    replace H : ((pack_ReadFrame.f kj14 y162 0).bind fun bt166 => (if ([] : List Int).length + t158.length < 140737488355328 then ((some (([] : List Int) ++ t158 : List Int)).bind fun y171 => (if y171.length + l1.length < 140737488355328 then ((some (y171 ++ l1 : List Int)).bind fun y174 => ((pack_ReadFrame.f kj14 y174 0).bind fun bt177 => (if bt166.2.2 = 0 then (fascinelaw01_PackTorn.j2 kj14 l0 a3 a4 t158 y174 true) else (if bt177.2.2 = 0 then (if bt177.2.1 = (t158.length : Int) then (fascinelaw01_PackTorn.j2 kj14 l0 a3 a4 t158 y174 ((strOfNums bt177.1).toList != (strOfNums l0).toList)) else (fascinelaw01_PackTorn.j2 kj14 l0 a3 a4 t158 y174 true)) else (fascinelaw01_PackTorn.j2 kj14 l0 a3 a4 t158 y174 true))))) else (none))) else (none))) = some r := by first | (rw [hy162]; with_reducible exact H) | (have H2_ := (Option.bind_some _ _).symm.trans H; rw [hy162]; with_reducible exact H2_) | (have H2_ := (Option.bind_some _ _).symm.trans H; with_reducible exact H2_) | with_reducible exact H | (rw [hy162]; exact H) | exact H
                    have Ny162 := Aside0.mk hy162
                    clear hy162
                    replace H := Option.bind_eq_some_iff.mp H
                    obtain ⟨⟨t166, t167, t168⟩, A240, H⟩ := H
                    replace H : (if ([] : List Int).length + t158.length < 140737488355328 then ((some (([] : List Int) ++ t158 : List Int)).bind fun y171 => (if y171.length + l1.length < 140737488355328 then ((some (y171 ++ l1 : List Int)).bind fun y174 => ((pack_ReadFrame.f kj14 y174 0).bind fun bt177 => (if t168 = 0 then (fascinelaw01_PackTorn.j2 kj14 l0 a3 a4 t158 y174 true) else (if bt177.2.2 = 0 then (if bt177.2.1 = (t158.length : Int) then (fascinelaw01_PackTorn.j2 kj14 l0 a3 a4 t158 y174 ((strOfNums bt177.1).toList != (strOfNums l0).toList)) else (fascinelaw01_PackTorn.j2 kj14 l0 a3 a4 t158 y174 true)) else (fascinelaw01_PackTorn.j2 kj14 l0 a3 a4 t158 y174 true))))) else (none))) else (none)) = some r := H
                    have A24 := Aside0.mk A240
                    clear A240
                    by_cases c25 : ([] : List Int).length + t158.length < 140737488355328
                    · rw [if_pos c25] at H
                      have LMc25 := Aside0.mk c25
                      clear c25
                      obtain ⟨y171, hy171⟩ : ∃ y_ : List Int, y_ = (([] : List Int) ++ t158) := ⟨_, rfl⟩
                      replace H : (if y171.length + l1.length < 140737488355328 then ((some (y171 ++ l1 : List Int)).bind fun y174 => ((pack_ReadFrame.f kj14 y174 0).bind fun bt177 => (if t168 = 0 then (fascinelaw01_PackTorn.j2 kj14 l0 a3 a4 t158 y174 true) else (if bt177.2.2 = 0 then (if bt177.2.1 = (t158.length : Int) then (fascinelaw01_PackTorn.j2 kj14 l0 a3 a4 t158 y174 ((strOfNums bt177.1).toList != (strOfNums l0).toList)) else (fascinelaw01_PackTorn.j2 kj14 l0 a3 a4 t158 y174 true)) else (fascinelaw01_PackTorn.j2 kj14 l0 a3 a4 t158 y174 true))))) else (none)) = some r := by first | (rw [hy171]; with_reducible exact H) | (have H2_ := (Option.bind_some _ _).symm.trans H; rw [hy171]; with_reducible exact H2_) | (have H2_ := (Option.bind_some _ _).symm.trans H; with_reducible exact H2_) | with_reducible exact H | (rw [hy171]; exact H) | exact H
                      have Ny171 := Aside0.mk hy171
                      clear hy171
                      by_cases c26 : y171.length + l1.length < 140737488355328
                      · rw [if_pos c26] at H
                        have LMc26 := Aside0.mk c26
                        clear c26
                        obtain ⟨y174, hy174⟩ : ∃ y_ : List Int, y_ = (y171 ++ l1) := ⟨_, rfl⟩
                        replace H : ((pack_ReadFrame.f kj14 y174 0).bind fun bt177 => (if t168 = 0 then (fascinelaw01_PackTorn.j2 kj14 l0 a3 a4 t158 y174 true) else (if bt177.2.2 = 0 then (if bt177.2.1 = (t158.length : Int) then (fascinelaw01_PackTorn.j2 kj14 l0 a3 a4 t158 y174 ((strOfNums bt177.1).toList != (strOfNums l0).toList)) else (fascinelaw01_PackTorn.j2 kj14 l0 a3 a4 t158 y174 true)) else (fascinelaw01_PackTorn.j2 kj14 l0 a3 a4 t158 y174 true)))) = some r := by first | (rw [hy174]; with_reducible exact H) | (have H2_ := (Option.bind_some _ _).symm.trans H; rw [hy174]; with_reducible exact H2_) | (have H2_ := (Option.bind_some _ _).symm.trans H; with_reducible exact H2_) | with_reducible exact H | (rw [hy174]; exact H) | exact H
                        have Ny174 := Aside0.mk hy174
                        clear hy174
                        replace H := Option.bind_eq_some_iff.mp H
                        obtain ⟨⟨t177, t178, t179⟩, A270, H⟩ := H
                        replace H : (if t168 = 0 then (fascinelaw01_PackTorn.j2 kj14 l0 a3 a4 t158 y174 true) else (if t179 = 0 then (if t178 = (t158.length : Int) then (fascinelaw01_PackTorn.j2 kj14 l0 a3 a4 t158 y174 ((strOfNums t177).toList != (strOfNums l0).toList)) else (fascinelaw01_PackTorn.j2 kj14 l0 a3 a4 t158 y174 true)) else (fascinelaw01_PackTorn.j2 kj14 l0 a3 a4 t158 y174 true))) = some r := H
                        have A27 := Aside0.mk A270
                        clear A270
                        have HC28 := Aside0.mk H
                        clear H
                        obtain ⟨Ao29, co29, eo29⟩ := Kd.R_slice HO_11.out
                        subst eo29
                        have q30 : ((ji21) : Int) ≤ ((t158.length : Int) : Int) := of_decide_eq_true (by first | (with_reducible assumption) | assumption)
                        obtain ⟨i030, hi030, _, hsz30, _⟩ := info_parts info5
                        have hroom30 : t158.length ≤ co29 := (Kd.R_reads' HO_11.out).2.1
                        have hC30 : Kd.C (Kd.int .u8) _ Ao29 t158.length t158 := (Kd.R_reads' HO_11.out).2.2
                        have hcut30 := cut_to (P := Try.prog) 22 5 .i64 Try.underlying22 hi030 Ao29 t158.length co29 (ji21) (of_decide_eq_true (by first | (with_reducible assumption) | assumption)) q30 hroom30
                        have hr30 := Kd.C_take (m := ((ji21) : Int).toNat) hC30 (by omega)
                        have hy30 : y162.length = ((ji21) : Int).toNat := (by rw [Ny162.out, List.length_take]; omega)
                        rw [← Ny162.out] at hr30
                        rw [← hy30] at hcut30
                        have HR165 := Aside0.mk hr30
                        have HC165 := Aside0.mk (show y162.length ≤ co29 from by omega)
                        clear hr30 hC30 hroom30 hi030 hsz30
                        have KY30 := Aside0.mk hy30
                        clear hy30
                        have KL30 := Aside0.mk (show ((ji21) : Int).toNat ≤ t158.length from by omega)
                        replace q30 := eq_true q30
                        go_upto_region 12 with (first | ((with_reducible refine gate_callee (f := 43) rfl ?_); refine goesL_ (some 55) rfl rfl Try.func43 (by kernel_rfl) rfl #[.slice Ao29 y162.length co29, .int .i64 0] rfl (by (try simp only [List.map_toArray, List.map_cons, List.map_nil]); first | done | rfl | (simp only [List.length_drop, List.length_take]; rfl)) ?_; (with_reducible refine (pack_ReadFrame.calls kj14 _ _ y162 0 t166 t167 t168 _ ?side1 ?side2 A24.out).mono ?_); (case side1 => repeat (first | exact (by repeat (first | (with_reducible exact HR165.out) | (with_reducible refine Kd.C_alloc ?_ _) | (with_reducible refine Kd.C_drewN ?_ _) | (with_reducible refine Kd.C_drew ?_) | exact HR165.out)) | (with_reducible refine Kd.C_alloc ?_ _) | (with_reducible refine Kd.C_drewN ?_ _) | (with_reducible refine Kd.C_drew ?_))); (case side2 => exact HC165.out); rintro e w31 ⟨v169, rfl, ho0, hb⟩; refine ⟨_, rfl, ?_⟩; have n0_ := Aside0.mk (Kd.R_elder' (by (with_reducible repeat (first | apply Kd.R_alloc | apply Kd.R_drewN | apply Kd.R_drew)); exact HO_11.out) (Kd.R_base ho0) hb); have n1_ := Aside0.mk (Kd.R_lower (Kd.R_new' ho0 (Kd.R_lt (by (with_reducible repeat (first | apply Kd.R_alloc | apply Kd.R_drewN | apply Kd.R_drew)); exact HO_11.out))) (below_size (by repeat (first | (with_reducible first | exact HB.out | apply below_alloc | apply pw_below_drewN | apply below_drew1) | exact HB.out)))); have n2_ := Aside0.mk (Kd.C_below (by repeat (first | (with_reducible exact HR165.out) | (with_reducible refine Kd.C_alloc ?_ _) | (with_reducible refine Kd.C_drewN ?_ _) | (with_reducible refine Kd.C_drew ?_) | exact HR165.out)) hb); have n3_ := Aside0.mk (below_step (by repeat (first | (with_reducible first | exact HB.out | apply below_alloc | apply pw_below_drewN | apply below_drew1) | exact HB.out)) hb); clear HO_11; clear HR165; clear HB; have HO_11 := n0_; have HO170 := n1_; have HR165 := n2_; have HB := n3_; clear n0_ n1_ n2_ n3_; (try clear hb); (try clear hb2); (try clear hk); (try clear hi); (try clear ho0)) | ((with_reducible refine gate_builtin (b := .append) (xs := #[.tmp 59, .tmp 60]) rfl ?_); (try (refine gate_guard (by rfl) ?_; dsimp only)); at_builtin; refine Kd.R_append_rows (Kd.int .u8) (w0 := w) w.heap.size rfl (.tmp 59) (.tmp 60) 22 5 (.int .u8 0) 1 rfl Try.underlying22 info5 rfl (by decide) (by omega) (.slice none 0 0) ([] : List Int) t158 _ _ _ (fun k_ => some k_ ≠ (.slice Ao29 t158.length co29 : Value).ownBlock ∧ some k_ ≠ (v169 : Value).ownBlock) (fun _ => False) rfl rfl ?aO ?aR (fun _ _ h => h) (fun _ h => h.elim) ?aF ?aB ?aS ?aL ?_; (case aR => repeat (first | exact (Kd.R_reads' HO_11.out).2.2 | (with_reducible refine Kd.C_alloc ?_ _) | (with_reducible refine Kd.C_drewN ?_ _) | (with_reducible refine Kd.C_drew ?_))); (case aB => exact (by repeat (first | (with_reducible first | exact HB.out | apply below_alloc | apply pw_below_drewN | apply below_drew1) | exact HB.out))); (case aF => exact (fun k_ hk => ⟨Kd.fresh' (Kd.R_lt (by (with_reducible repeat (first | apply Kd.R_alloc | apply Kd.R_drewN | apply Kd.R_drew)); exact HO_11.out)) k_ hk, Kd.fresh' (Kd.R_lt (by (with_reducible repeat (first | apply Kd.R_alloc | apply Kd.R_drewN | apply Kd.R_drew)); exact HO170.out)) k_ hk⟩)); (case aO => exact ((Kd.R_nil _ _ _ _ (fun k_ => some k_ ≠ (.slice Ao29 t158.length co29 : Value).ownBlock ∧ some k_ ≠ (v169 : Value).ownBlock)))); (case aS => exact (below_size (by repeat (first | (with_reducible first | exact HB.out | apply below_alloc | apply pw_below_drewN | apply below_drew1) | exact HB.out)))); (case aL => have := LMc25.out; omega); intro v172 w32 ho hb hg hat; rw [← Ny171.out] at ho; have n0_ := Aside0.mk (Kd.R_after (Kd.R_apart_nil (by (with_reducible repeat (first | apply Kd.R_alloc | apply Kd.R_drewN | apply Kd.R_drew)); exact HO_11.out)) hg hat); have n1_ := Aside0.mk (Kd.R_after (Kd.R_apart_nil (by (with_reducible repeat (first | apply Kd.R_alloc | apply Kd.R_drewN | apply Kd.R_drew)); exact HO170.out)) hg hat); have n2_ := Aside0.mk (hb); have n3_ := Aside0.mk ((show Kd.C (Kd.int .u8) w32 Ao29 y162.length y162 from by rw [Ny162.out]; exact Kd.C_take (m := ((ji21) : Int).toNat) ((Kd.R_reads' (Kd.R_after (Kd.R_apart_nil (by (with_reducible repeat (first | apply Kd.R_alloc | apply Kd.R_drewN | apply Kd.R_drew)); exact HO_11.out)) hg hat)).2.2) KL30.out)); have n4_ := Aside0.mk (ho); clear HO_11; clear HO170; clear HB; clear HR165; have HO_11 := n0_; have HO170 := n1_; have HB := n2_; have HR165 := n3_; have HO173 := n4_; clear n0_ n1_ n2_ n3_ n4_; clear ho hb hg hat) | ((with_reducible refine gate_builtin (b := .append) (xs := #[.tmp 62, .tmp 63]) rfl ?_); (try (refine gate_guard (by rfl) ?_; dsimp only)); at_builtin; refine Kd.R_append_rows (Kd.int .u8) (w0 := w) w.heap.size rfl (.tmp 62) (.tmp 63) 22 5 (.int .u8 0) 1 rfl Try.underlying22 info5 rfl (by decide) (by omega) v172 y171 l1 _ _ _ (fun k_ => some k_ ≠ (.slice Ao29 t158.length co29 : Value).ownBlock ∧ some k_ ≠ (v169 : Value).ownBlock) (fun _ => False) rfl rfl ?aO ?aR (fun _ _ h => h) (fun _ h => h.elim) ?aF ?aB ?aS ?aL ?_; (case aR => repeat (first | exact (Kd.C_below HR1.out HB.out) | (with_reducible refine Kd.C_alloc ?_ _) | (with_reducible refine Kd.C_drewN ?_ _) | (with_reducible refine Kd.C_drew ?_))); (case aB => exact (by repeat (first | (with_reducible first | exact HB.out | apply below_alloc | apply pw_below_drewN | apply below_drew1) | exact HB.out))); (case aF => exact (fun k_ hk => ⟨Kd.fresh' (Kd.R_lt (by (with_reducible repeat (first | apply Kd.R_alloc | apply Kd.R_drewN | apply Kd.R_drew)); exact HO_11.out)) k_ hk, Kd.fresh' (Kd.R_lt (by (with_reducible repeat (first | apply Kd.R_alloc | apply Kd.R_drewN | apply Kd.R_drew)); exact HO170.out)) k_ hk⟩)); (case aO => exact (by (with_reducible repeat (first | apply Kd.R_alloc | apply Kd.R_drewN | apply Kd.R_drew)); exact HO173.out)); (case aS => exact (below_size (by repeat (first | (with_reducible first | exact HB.out | apply below_alloc | apply pw_below_drewN | apply below_drew1) | exact HB.out)))); (case aL => have := LMc26.out; omega); intro v175 w33 ho hb hg hat; rw [← Ny174.out] at ho; have n0_ := Aside0.mk (Kd.R_after (ok := (fun k_ => some k_ ≠ (v169 : Value).ownBlock)) (by (with_reducible repeat (first | apply Kd.R_alloc | apply Kd.R_drewN | apply Kd.R_drew)); exact Kd.R_mono HO_11.out (fun _ hk => ⟨hk.1.2, hk.2⟩)) hg hat); have n1_ := Aside0.mk (Kd.R_after (ok := (fun k_ => some k_ ≠ (.slice Ao29 t158.length co29 : Value).ownBlock)) (by (with_reducible repeat (first | apply Kd.R_alloc | apply Kd.R_drewN | apply Kd.R_drew)); exact Kd.R_mono HO170.out (fun _ hk => ⟨hk.1.2, hk.2⟩)) hg hat); have n2_ := Aside0.mk (hb); have n3_ := Aside0.mk ((show Kd.C (Kd.int .u8) w33 Ao29 y162.length y162 from by rw [Ny162.out]; exact Kd.C_take (m := ((ji21) : Int).toNat) ((Kd.R_reads' (Kd.R_after (ok := (fun k_ => some k_ ≠ (v169 : Value).ownBlock)) (by (with_reducible repeat (first | apply Kd.R_alloc | apply Kd.R_drewN | apply Kd.R_drew)); exact Kd.R_mono HO_11.out (fun _ hk => ⟨hk.1.2, hk.2⟩)) hg hat)).2.2) KL30.out)); have n4_ := Aside0.mk (ho); clear HO_11; clear HO170; clear HB; clear HR165; clear HO173; have HO_11 := n0_; have HO170 := n1_; have HB := n2_; have HR165 := n3_; have HO176 := n4_; clear n0_ n1_ n2_ n3_ n4_; clear ho hb hg hat; obtain ⟨Ao34, co34, eo34⟩ := Kd.R_slice HO176.out; subst eo34) | ((with_reducible refine gate_callee (f := 43) rfl ?_); refine goesL_ (some 67) rfl rfl Try.func43 (by kernel_rfl) rfl #[.slice Ao34 y174.length co34, .int .i64 0] rfl (by (try simp only [List.map_toArray, List.map_cons, List.map_nil]); first | done | rfl | (simp only [List.length_drop, List.length_take]; rfl)) ?_; (with_reducible refine (pack_ReadFrame.calls kj14 _ _ y174 0 t177 t178 t179 _ ?side1 ?side2 A27.out).mono ?_); (case side1 => repeat (first | exact (Kd.R_reads' HO176.out).2.2 | (with_reducible refine Kd.C_alloc ?_ _) | (with_reducible refine Kd.C_drewN ?_ _) | (with_reducible refine Kd.C_drew ?_))); (case side2 => exact (Kd.R_reads' HO176.out).2.1); rintro e w35 ⟨v180, rfl, ho0, hb⟩; refine ⟨_, rfl, ?_⟩; have n0_ := Aside0.mk (Kd.R_elder' (by (with_reducible repeat (first | apply Kd.R_alloc | apply Kd.R_drewN | apply Kd.R_drew)); exact HO_11.out) (Kd.R_base ho0) hb); have n1_ := Aside0.mk (Kd.R_elder' (by (with_reducible repeat (first | apply Kd.R_alloc | apply Kd.R_drewN | apply Kd.R_drew)); exact HO170.out) (Kd.R_base ho0) hb); have n2_ := Aside0.mk (Kd.R_elder' (by (with_reducible repeat (first | apply Kd.R_alloc | apply Kd.R_drewN | apply Kd.R_drew)); exact HO176.out) (Kd.R_base ho0) hb); have n3_ := Aside0.mk (Kd.R_lower (Kd.R_new' (Kd.R_new' (Kd.R_new' ho0 (Kd.R_lt (by (with_reducible repeat (first | apply Kd.R_alloc | apply Kd.R_drewN | apply Kd.R_drew)); exact HO_11.out))) (Kd.R_lt (by (with_reducible repeat (first | apply Kd.R_alloc | apply Kd.R_drewN | apply Kd.R_drew)); exact HO170.out))) (Kd.R_lt (by (with_reducible repeat (first | apply Kd.R_alloc | apply Kd.R_drewN | apply Kd.R_drew)); exact HO176.out))) (below_size (by repeat (first | (with_reducible first | exact HB.out | apply below_alloc | apply pw_below_drewN | apply below_drew1) | exact HB.out)))); have n4_ := Aside0.mk (Kd.C_below (by repeat (first | (with_reducible exact HR165.out) | (with_reducible refine Kd.C_alloc ?_ _) | (with_reducible refine Kd.C_drewN ?_ _) | (with_reducible refine Kd.C_drew ?_) | exact HR165.out)) hb); have n5_ := Aside0.mk (below_step (by repeat (first | (with_reducible first | exact HB.out | apply below_alloc | apply pw_below_drewN | apply below_drew1) | exact HB.out)) hb); clear HO_11; clear HO170; clear HO176; clear HR165; clear HB; have HO_11 := n0_; have HO170 := n1_; have HO176 := n2_; have HO181 := n3_; have HR165 := n4_; have HB := n5_; clear n0_ n1_ n2_ n3_ n4_ n5_; (try clear hb); (try clear hb2); (try clear hk); (try clear hi); (try clear ho0)))
                        (try simp only [Act.put, List.setIfInBounds_toArray, List.set_cons_zero, List.set_cons_succ])
                        go_cut [89] (fun v89 wc => ∃ (kq : Nat) (x89_27 : Bool), v89 = .bool x89_27 ∧ Aside0 (fascinelaw01_PackTorn.j2 kq l0 a3 a4 t158 y174 x89_27 = some r) ∧ Aside0 (kq ≤ kj14) ∧ Aside0 (Kd.R (Kd.int .u8) 5 wc w.heap.size (fun k_ => some k_ ≠ ((.slice Ao34 y174.length co34) : Value).ownBlock) (.slice Ao29 t158.length co29) t158) ∧ Aside0 (Kd.R (Kd.int .u8) 5 wc w.heap.size (fun k_ => some k_ ≠ ((.slice Ao29 t158.length co29) : Value).ownBlock) (.slice Ao34 y174.length co34) y174) ∧ Aside0 (Kd.C (Kd.int .u8) wc Ao29 y162.length y162) ∧ Aside0 (Below w.heap.size w wc))
                        case first =>
                          have H := HC28.out
                          clear HC28
                          by_cases c36 : t168 = 0
                          · rw [if_pos c36] at H
                            have c36b0 : (t168 == 0) = true := beq_iff_eq.mpr c36
                            have c36b1 : (t168 != 0) = false := bne_eq_false_iff_eq.mpr c36
                            clear c36
                            (first | rw [c36b0] | (simp only [i64_w, i32_w]; rw [c36b0]) | skip)
                            have H' := Aside0.mk H
                            clear H
                            go_wp2
                            go_meet
                            case rel => exact ⟨_, (true), (by first | rfl | (simp; done) | (simp [*]; done)), H', ⟨by have := HJ5.out; have := HJ14.out; first | omega | exact Nat.le_refl _⟩, ⟨by (with_reducible repeat (first | apply Kd.R_alloc | apply Kd.R_drewN | apply Kd.R_drew)); exact Kd.R_mono HO_11.out (fun _ hk => hk.1.2)⟩, ⟨by (with_reducible repeat (first | apply Kd.R_alloc | apply Kd.R_drewN | apply Kd.R_drew)); exact Kd.R_mono HO176.out (fun _ hk => hk.1.1)⟩, ⟨by repeat (first | (with_reducible exact HR165.out) | (with_reducible refine Kd.C_alloc ?_ _) | (with_reducible refine Kd.C_drewN ?_ _) | (with_reducible refine Kd.C_drew ?_) | exact HR165.out)⟩, ⟨by repeat (first | (with_reducible first | exact HB.out | apply below_alloc | apply pw_below_drewN | apply below_drew1) | exact HB.out)⟩⟩
                          · rw [if_neg c36] at H
                            have c36b0 : (t168 == 0) = false := beq_eq_false_iff_ne.mpr c36
                            have c36b1 : (t168 != 0) = true := bne_iff_ne.mpr c36
                            (first | rw [c36b0] | (simp only [i64_w, i32_w]; rw [c36b0]) | skip)
                            by_cases c37 : t179 = 0
                            · rw [if_pos c37] at H
                              have c37b0 : (t179 == 0) = true := beq_iff_eq.mpr c37
                              have c37b1 : (t179 != 0) = false := bne_eq_false_iff_eq.mpr c37
                              clear c37
                              by_cases c38 : t178 = (t158.length : Int)
                              · rw [if_pos c38] at H
                                have c38b0 : (t178 == (t158.length : Int)) = true := beq_iff_eq.mpr c38
                                have c38b1 : (t178 != (t158.length : Int)) = false := bne_eq_false_iff_eq.mpr c38
                                clear c38
                                have H' := Aside0.mk H
                                clear H
                                have hcv39 := own_string (P := Try.prog) Try.underlying22 Try.underlying5 Try.underlying9 (Kd.own_of_R HO181.out)
                                have hcq40 := fun (nq_ : Nat) => own_string (P := Try.prog) Try.underlying22 Try.underlying5 Try.underlying9 (Kd.own_of_R (Kd.R_drewN HO181.out nq_))
                                have hcv41 := Kd.C_string (P := Try.prog) (A := A0) (c := c0) Try.underlying22 Try.underlying5 Try.underlying9 (Kd.C_below HR0.out HB.out)
                                have hcv41q := fun (nq_ : Nat) => Kd.C_string (P := Try.prog) (A := A0) (c := c0) Try.underlying22 Try.underlying5 Try.underlying9 (Kd.C_drewN (Kd.C_below HR0.out HB.out) nq_)
                                have hcv41r := hcv41q
                                (try (conv at hcv41r => intro nq_ ; lhs ; simp only [List.length_drop, List.length_take]))
                                go_wp2
                                go_meet
                                case rel => exact ⟨_, (((strOfNums t177).toList != (strOfNums l0).toList)), (by first | rfl | (simp; done) | (simp [*]; done)), H', ⟨by have := HJ5.out; have := HJ14.out; first | omega | exact Nat.le_refl _⟩, ⟨by (with_reducible repeat (first | apply Kd.R_alloc | apply Kd.R_drewN | apply Kd.R_drew)); exact Kd.R_mono HO_11.out (fun _ hk => hk.1.2)⟩, ⟨by (with_reducible repeat (first | apply Kd.R_alloc | apply Kd.R_drewN | apply Kd.R_drew)); exact Kd.R_mono HO176.out (fun _ hk => hk.1.1)⟩, ⟨by repeat (first | (with_reducible exact HR165.out) | (with_reducible refine Kd.C_alloc ?_ _) | (with_reducible refine Kd.C_drewN ?_ _) | (with_reducible refine Kd.C_drew ?_) | exact HR165.out)⟩, ⟨by repeat (first | (with_reducible first | exact HB.out | apply below_alloc | apply pw_below_drewN | apply below_drew1) | exact HB.out)⟩⟩
                              · rw [if_neg c38] at H
                                have c38b0 : (t178 == (t158.length : Int)) = false := beq_eq_false_iff_ne.mpr c38
                                have c38b1 : (t178 != (t158.length : Int)) = true := bne_iff_ne.mpr c38
                                have H' := Aside0.mk H
                                clear H
                                go_wp2
                                go_meet
                                case rel => exact ⟨_, (true), (by first | rfl | (simp; done) | (simp [*]; done)), H', ⟨by have := HJ5.out; have := HJ14.out; first | omega | exact Nat.le_refl _⟩, ⟨by (with_reducible repeat (first | apply Kd.R_alloc | apply Kd.R_drewN | apply Kd.R_drew)); exact Kd.R_mono HO_11.out (fun _ hk => hk.1.2)⟩, ⟨by (with_reducible repeat (first | apply Kd.R_alloc | apply Kd.R_drewN | apply Kd.R_drew)); exact Kd.R_mono HO176.out (fun _ hk => hk.1.1)⟩, ⟨by repeat (first | (with_reducible exact HR165.out) | (with_reducible refine Kd.C_alloc ?_ _) | (with_reducible refine Kd.C_drewN ?_ _) | (with_reducible refine Kd.C_drew ?_) | exact HR165.out)⟩, ⟨by repeat (first | (with_reducible first | exact HB.out | apply below_alloc | apply pw_below_drewN | apply below_drew1) | exact HB.out)⟩⟩
                            · rw [if_neg c37] at H
                              have c37b0 : (t179 == 0) = false := beq_eq_false_iff_ne.mpr c37
                              have c37b1 : (t179 != 0) = true := bne_iff_ne.mpr c37
                              have H' := Aside0.mk H
                              clear H
                              go_wp2
                              go_meet
                              case rel => exact ⟨_, (true), (by first | rfl | (simp; done) | (simp [*]; done)), H', ⟨by have := HJ5.out; have := HJ14.out; first | omega | exact Nat.le_refl _⟩, ⟨by (with_reducible repeat (first | apply Kd.R_alloc | apply Kd.R_drewN | apply Kd.R_drew)); exact Kd.R_mono HO_11.out (fun _ hk => hk.1.2)⟩, ⟨by (with_reducible repeat (first | apply Kd.R_alloc | apply Kd.R_drewN | apply Kd.R_drew)); exact Kd.R_mono HO176.out (fun _ hk => hk.1.1)⟩, ⟨by repeat (first | (with_reducible exact HR165.out) | (with_reducible refine Kd.C_alloc ?_ _) | (with_reducible refine Kd.C_drewN ?_ _) | (with_reducible refine Kd.C_drew ?_) | exact HR165.out)⟩, ⟨by repeat (first | (with_reducible first | exact HB.out | apply below_alloc | apply pw_below_drewN | apply below_drew1) | exact HB.out)⟩⟩
                        case rest =>
                          clear HC28
                          try clear c1
                          try clear c2
                          try clear p2
                          try clear c3
                          try clear q3
                          try clear hcv3
                          try clear c4
                          try clear q4
                          try clear hcv4
                          try clear p6
                          try clear c8
                          try clear c11
                          try clear c13
                          try clear c17
                          try clear c17b0
                          try clear c17b1
                          try clear c19
                          try clear c20
                          try clear c20b0
                          try clear c20b1
                          try clear c20b2
                          try clear c22
                          try clear c22b0
                          try clear c22b1
                          try clear c23
                          try clear c23b0
                          try clear c23b1
                          try clear c25
                          try clear c26
                          try clear q30
                          try clear c36
                          try clear c36b0
                          try clear c36b1
                          try clear c37
                          try clear c37b0
                          try clear c37b1
                          try clear c38
                          try clear c38b0
                          try clear c38b1
                          try clear hcv39
                          try clear q40
                          try clear c41
                          try clear hcv41
                          try clear p2
                          try clear q30
                          obtain ⟨kq, x89_27, rfl, HA, HJ27, HO_11, HO_17, HR165, HB⟩ := hcut
                          cases kq with
                          | zero => exact absurd HA.out (by simp [fascinelaw01_PackTorn.j2])
                          | succ kj27 =>
                            have H := HA.out
                            clear HA
                            simp only [fascinelaw01_PackTorn.j2] at H
                            by_cases c42 : x89_27 = true
                            · subst c42
                              have H1 : (some false) = some r := by rw [if_pos rfl] at H; exact H
                              clear H
                              have H := H1
                              clear H1
                              exact absurd (HR_.out.symm.trans (Option.some.inj H).symm) (by decide)
                            · replace c42 := Bool.eq_false_iff.mpr c42
                              subst c42
                              have H1 : (if a4 = 0 then (some true) else (if (wrap64 ((l0.length : Int) + 4)) = 0 then (none) else (if 0 ≤ (wrap64 ((wrap64 ((wrap64 ((t158.length : Int) - (l0.length : Int))) - 5)) + (Int.tmod (wrap64 (a3)) (wrap64 ((l0.length : Int) + 4))))) then (if (wrap64 ((wrap64 ((wrap64 ((t158.length : Int) - (l0.length : Int))) - 5)) + (Int.tmod (wrap64 (a3)) (wrap64 ((l0.length : Int) + 4))))) < (y174.length : Int) then ((pack_ReadFrame.f kj27 (y174.set ((wrap64 ((wrap64 ((wrap64 ((t158.length : Int) - (l0.length : Int))) - 5)) + (Int.tmod (wrap64 (a3)) (wrap64 ((l0.length : Int) + 4))))) : Int).toNat (Go.bits .xor .u8 (rd y174 (wrap64 ((wrap64 ((wrap64 ((t158.length : Int) - (l0.length : Int))) - 5)) + (Int.tmod (wrap64 (a3)) (wrap64 ((l0.length : Int) + 4)))))) a4)) 0).bind fun bt184 => (some (bt184.2.2 == 5))) else (none)) else (none)))) = some r := by rw [if_neg (show ¬ (false = true) by decide)] at H; exact H
                              clear H
                              have H := H1
                              clear H1
                              by_cases c43 : a4 = 0
                              · rw [if_pos c43] at H
                                have c43b0 : (a4 == 0) = true := beq_iff_eq.mpr c43
                                have c43b1 : (a4 != 0) = false := bne_eq_false_iff_eq.mpr c43
                                clear c43
                                obtain rfl := Option.some.inj H
                                go_wp2
                                go_ret
                                exact ⟨by first | rfl | (simp [errW_none, errW_some] <;> rfl) | (simp only [← hji21]; first | rfl | (simp [errW_none, errW_some] <;> rfl)) | (simp [*, errW_none, errW_some] <;> rfl), by repeat (first | (with_reducible first | exact HB.out | apply below_alloc | apply pw_below_drewN | apply below_drew1) | exact HB.out)⟩
                              · rw [if_neg c43] at H
                                have c43b0 : (a4 == 0) = false := beq_eq_false_iff_ne.mpr c43
                                have c43b1 : (a4 != 0) = true := bne_iff_ne.mpr c43
                                by_cases c44 : (wrap64 ((l0.length : Int) + 4)) = 0
                                · rw [if_pos c44] at H
                                  exact absurd H (by simp)
                                · rw [if_neg c44] at H
                                  have c44b0 : ((wrap64 ((l0.length : Int) + 4)) == 0) = false := beq_eq_false_iff_ne.mpr c44
                                  have c44b1 : ((wrap64 ((l0.length : Int) + 4)) != 0) = true := bne_iff_ne.mpr c44
                                  obtain ⟨ji45, hji45⟩ : ∃ j_ : Int, (wrap64 ((wrap64 ((wrap64 ((t158.length : Int) - (l0.length : Int))) - 5)) + (Int.tmod (wrap64 (a3)) (wrap64 ((l0.length : Int) + 4))))) = j_ := ⟨_, rfl⟩
                                  replace H : (if 0 ≤ (ji45) then (if (ji45) < (y174.length : Int) then ((pack_ReadFrame.f kj27 (y174.set ((ji45) : Int).toNat (Go.bits .xor .u8 (rd y174 (ji45)) a4)) 0).bind fun bt184 => (some (bt184.2.2 == 5))) else (none)) else (none)) = some r := by first | (rw [hji45] at H; exact H) | (simp only [hji45] at H ⊢; exact H)
                                  have hji45w : (IntKind.i64.wrap ((wrap64 ((wrap64 ((t158.length : Int) - (l0.length : Int))) - 5)) + (Int.tmod (wrap64 (a3)) (wrap64 ((l0.length : Int) + 4))))) = ji45 := (i64_w _).trans hji45
                                  by_cases c46 : 0 ≤ (ji45)
                                  · rw [if_pos c46] at H
                                    have c46b0 : decide (0 ≤ (ji45)) = true := decide_eq_true c46
                                    clear c46
                                    by_cases c47 : (ji45) < (y174.length : Int)
                                    · rw [if_pos c47] at H
                                      have c47b0 : decide ((ji45) < (y174.length : Int)) = true := decide_eq_true c47
                                      clear c47
                                      obtain ⟨y183, hy183⟩ : ∃ y_ : List Int, y_ = (y174.set ((ji45) : Int).toNat (Go.bits .xor .u8 (rd y174 (ji45)) a4)) := ⟨_, rfl⟩
                                      replace H : ((pack_ReadFrame.f kj27 y183 0).bind fun bt184 => (some (bt184.2.2 == 5))) = some r := by first | (rw [hy183]; with_reducible exact H) | (have H2_ := (Option.bind_some _ _).symm.trans H; rw [hy183]; with_reducible exact H2_) | (have H2_ := (Option.bind_some _ _).symm.trans H; with_reducible exact H2_) | with_reducible exact H | (rw [hy183]; exact H) | exact H
                                      have Ny183 := Aside0.mk hy183
                                      clear hy183
                                      replace H := Option.bind_eq_some_iff.mp H
                                      obtain ⟨⟨t184, t185, t186⟩, A490, H⟩ := H
                                      replace H : (some (t186 == 5)) = some r := H
                                      have A49 := Aside0.mk A490
                                      clear A490
                                      obtain rfl := Option.some.inj H
                                      have p182 : 0 ≤ ((ji45) : Int) := of_decide_eq_true (by first | (with_reducible assumption) | assumption)
                                      have q182 : (ji45) < (y174.length : Int) := of_decide_eq_true (by first | (with_reducible assumption) | assumption)
                                      obtain ⟨ad182, e182, hx182_0⟩ := Kd.at_int (Kd.R_reads' HO_17.out).2.2 (ji45) p182 q182
                                      cases e182
                                      replace p182 := eq_true p182
                                      replace q182 := eq_true q182
                                      have p48 : 0 ≤ ((ji45) : Int) := of_decide_eq_true (by first | (with_reducible assumption) | assumption)
                                      have q48 : ((ji45) : Int) < ((y174.length : Int) : Int) := of_decide_eq_true (by first | (with_reducible assumption) | assumption)
                                      obtain ⟨go48, co48, eo48, gb48, gl48, cl48, HG48⟩ := Kd.R_form HO_17.out (by omega)
                                      (first | cases eo48 | (injection eo48 with ea_ en_ ec_; (first | subst ea_ | (injection ea_ with ea_; subst ea_)); subst ec_; clear en_))
                                      have GB48 := Aside0.mk gb48
                                      have GG48 := Aside0.mk HG48
                                      clear gb48 gl48 HG48
                                      (first | simp only [add_plain] at hx182_0 | skip)
                                      obtain ⟨hx48_0, hf48_0⟩ := Kd.R_celln 0 HO_17.out ((ji45) : Int) p48 q48
                                      replace p48 := eq_true p48
                                      replace q48 := eq_true q48
                                      have HP50 := Kd.R_putg HO_17.out ((ji45) : Int) (Go.bits .xor .u8 (rd y174 (ji45)) a4)
                                      go_wp2_with (first | ((with_reducible refine gate_store (t := 5) (p := 114) rfl ?_); refine store_event (t := 5) (p := 114) (v := ?vo_w51) (w1 := (wc.setCell ⟨go48, ((ji45) : Int).toNat, none⟩ (.int .u8 (Go.bits .xor .u8 (rd y174 (ji45)) a4)))) ?hg ?ho ?hn ?hr ?_; (case ho => rfl); (case hg => rfl); (case hn => rfl); (case hr => first | (go_simp; done) | (go_simp; rfl)); intro w51 hw; have hg : wc.grownBy w51 (some go48) := (by rw [hw]; exact HP50.2); have hp_ : Kd.R (Kd.int .u8) 5 w51 w.heap.size (fun k_ => some k_ ≠ (.slice Ao29 t158.length co29 : Value).ownBlock) (.slice (some ⟨go48, 0, none⟩) y174.length co34) y183 := (by rw [hw, Ny183.out]; exact HP50.1); clear HP50; have n0_ := Aside0.mk (Kd.R_after (v := (.slice (some ⟨go48, 0, none⟩) y174.length co34)) (v1 := (.slice (some ⟨go48, 0, none⟩) y174.length co34)) (ok := (fun _ => True)) (by (with_reducible repeat (first | apply Kd.R_alloc | apply Kd.R_drewN | apply Kd.R_drew)); exact Kd.R_mono HO_11.out (fun _ hk => ⟨trivial, hk⟩)) hg (.inl rfl)); have n1_ := Aside0.mk (hp_); have n2_ := Aside0.mk ((by rw [hw]; exact below_set (HB.out) GB48.out : Below w.heap.size w w51)); have n3_ := Aside0.mk ((show Kd.C (Kd.int .u8) w51 Ao29 y162.length y162 from by rw [Ny162.out]; exact Kd.C_take (m := ((ji21) : Int).toNat) ((Kd.R_reads' (Kd.R_after (v := (.slice (some ⟨go48, 0, none⟩) y174.length co34)) (v1 := (.slice (some ⟨go48, 0, none⟩) y174.length co34)) (ok := (fun _ => True)) (by (with_reducible repeat (first | apply Kd.R_alloc | apply Kd.R_drewN | apply Kd.R_drew)); exact Kd.R_mono HO_11.out (fun _ hk => ⟨trivial, hk⟩)) hg (.inl rfl))).2.2) KL30.out)); clear HO_11; clear HO_17; clear HB; clear HR165; have HO_11 := n0_; have HO_17 := n1_; have HB := n2_; have HR165 := n3_; clear n0_ n1_ n2_ n3_; clear hg hw hp_) | ((with_reducible refine gate_callee (f := 43) rfl ?_); refine goesL_ (some 117) rfl rfl Try.func43 (by kernel_rfl) rfl #[.slice (some ⟨go48, 0, none⟩) y183.length co34, .int .i64 0] rfl (by (try simp only [List.map_toArray, List.map_cons, List.map_nil]); first | done | (rw [show y183.length = y174.length from (Kd.R_reads' HO_17.out).1.symm] <;> rfl) | rfl | (simp only [List.length_drop, List.length_take]; rfl)) ?_; (with_reducible refine (pack_ReadFrame.calls kj27 _ _ y183 0 t184 t185 t186 _ ?side1 ?side2 A49.out).mono ?_); (case side1 => repeat (first | exact (Kd.R_reads' HO_17.out).2.2 | (with_reducible refine Kd.C_alloc ?_ _) | (with_reducible refine Kd.C_drewN ?_ _) | (with_reducible refine Kd.C_drew ?_))); (case side2 => rw [show y183.length = y174.length from (Kd.R_reads' HO_17.out).1.symm]; exact (Kd.R_reads' HO_17.out).2.1); rintro e w52 ⟨v187, rfl, ho0, hb⟩; refine ⟨_, rfl, ?_⟩; have n0_ := Aside0.mk (Kd.R_elder' (by (with_reducible repeat (first | apply Kd.R_alloc | apply Kd.R_drewN | apply Kd.R_drew)); exact HO_11.out) (Kd.R_base ho0) hb); have n1_ := Aside0.mk (Kd.R_elder' (by (with_reducible repeat (first | apply Kd.R_alloc | apply Kd.R_drewN | apply Kd.R_drew)); exact HO_17.out) (Kd.R_base ho0) hb); have n2_ := Aside0.mk (Kd.R_lower (Kd.R_new' (Kd.R_new' ho0 (Kd.R_lt (by (with_reducible repeat (first | apply Kd.R_alloc | apply Kd.R_drewN | apply Kd.R_drew)); exact HO_11.out))) (Kd.R_lt (by (with_reducible repeat (first | apply Kd.R_alloc | apply Kd.R_drewN | apply Kd.R_drew)); exact HO_17.out))) (below_size (by repeat (first | (with_reducible first | exact HB.out | apply below_alloc | apply pw_below_drewN | apply below_drew1) | exact HB.out)))); have n3_ := Aside0.mk (Kd.C_below (by repeat (first | (with_reducible exact HR165.out) | (with_reducible refine Kd.C_alloc ?_ _) | (with_reducible refine Kd.C_drewN ?_ _) | (with_reducible refine Kd.C_drew ?_) | exact HR165.out)) hb); have n4_ := Aside0.mk (below_step (by repeat (first | (with_reducible first | exact HB.out | apply below_alloc | apply pw_below_drewN | apply below_drew1) | exact HB.out)) hb); clear HO_11; clear HO_17; clear HR165; clear HB; have HO_11 := n0_; have HO_17 := n1_; have HO188 := n2_; have HR165 := n3_; have HB := n4_; clear n0_ n1_ n2_ n3_ n4_; (try clear hb); (try clear hb2); (try clear hk); (try clear hi); (try clear ho0)))
                                      go_ret
                                      exact ⟨by first | rfl | (simp [errW_none, errW_some] <;> rfl) | (simp only [← hji21, ← hji45]; first | rfl | (simp [errW_none, errW_some] <;> rfl)) | (simp [*, errW_none, errW_some] <;> rfl), by repeat (first | (with_reducible first | exact HB.out | apply below_alloc | apply pw_below_drewN | apply below_drew1) | exact HB.out)⟩
                                    · rw [if_neg c47] at H
                                      exact absurd H (by simp)
                                  · rw [if_neg c46] at H
                                    exact absurd H (by simp)
                      · rw [if_neg c26] at H
                        exact absurd H (by simp)
                    · rw [if_neg c25] at H
                      exact absurd H (by simp)
                  · rw [if_neg c23] at H
                    exact absurd H (by simp)
                · rw [if_neg c22] at H
                  exact absurd H (by simp)

/-- THE ONE PURE STATEMENT of fascinelaw01_PackTorn: yours. -/
def fascinelaw01_PackTorn.Pure : Prop := ∀ (l0 : List Int) (l1 : List Int) (a2 : Int) (a3 : Int) (a4 : Int), l0.length ≤ maxLen → l0.length * 1 ≤ 140737488351232 → (∀ x ∈ l0, (Lit.int .u8 x).wf = true) → l1.length ≤ maxLen → l1.length * 1 ≤ 140737488351232 → (∀ x ∈ l1, (Lit.int .u8 x).wf = true) → (Lit.int .u16 a2).wf = true → (Lit.int .u16 a3).wf = true → (Lit.int .u8 a4).wf = true → ∃ k, fascinelaw01_PackTorn.f k l0 l1 a2 a3 a4 = some true
theorem fascinelaw01_PackTorn.walk (P : fascinelaw01_PackTorn.Pure) (a0 : Option Addr) (len0 cap0 : Nat) (z0 : List Int) (a1 : Option Addr) (len1 cap1 : Nat) (z1 : List Int) (a2 : Int) (a3 : Int) (a4 : Int) (w : World) (w0 : (a0 = none ∧ len0 = 0 ∧ cap0 = 0 ∧ z0 = []) ∨ ∃ x, a0 = some x ∧ len0 ≤ cap0 ∧ cap0 ≤ maxLen ∧ z0.length = cap0 ∧ (∀ i, i < z0.length → w.cell? (x.add i) = some (.int .u8 (z0.getD i 0))) ∧ ∀ n ∈ z0, (Lit.int .u8 n).wf = true) (y0 : len0 * 1 ≤ 140737488351232) (w1 : (a1 = none ∧ len1 = 0 ∧ cap1 = 0 ∧ z1 = []) ∨ ∃ x, a1 = some x ∧ len1 ≤ cap1 ∧ cap1 ≤ maxLen ∧ z1.length = cap1 ∧ (∀ i, i < z1.length → w.cell? (x.add i) = some (.int .u8 (z1.getD i 0))) ∧ ∀ n ∈ z1, (Lit.int .u8 n).wf = true) (y1 : len1 * 1 ≤ 140737488351232) (w2 : (Lit.int .u16 a2).wf = true) (w3 : (Lit.int .u16 a3).wf = true) (w4 : (Lit.int .u8 a4).wf = true) :
    Calls Try.prog 13 #[.slice a0 len0 cap0, .slice a1 len1 cap1, .int .u16 a2, .int .u16 a3, .int .u8 a4] w fun e w' => e = .returned (.bool true) ∧ Below w.heap.size w w' := by
  obtain ⟨l0, rfl, hr0, hm0, hw0, hc0⟩ := ReadsInt.ofRowC w0
  obtain ⟨l1, rfl, hr1, hm1, hw1, hc1⟩ := ReadsInt.ofRowC w1
  obtain ⟨k, h⟩ := P l0 l1 a2 a3 a4 hm0 y0 hw0 hm1 y1 hw1 w2 w3 w4
  refine (fascinelaw01_PackTorn.calls k _ _ l0 _ _ l1 a2 a3 a4 true w (Kd.C_of_reads (d := (0 : Int)) (h1 := fun _ => rfl) hr0) hc0 (Kd.C_of_reads (d := (0 : Int)) (h1 := fun _ => rfl) hr1) hc1 h rfl).mono ?_
  rintro e w' ⟨rfl, hd⟩
  exact ⟨rfl, hd⟩

end Go.Proofs.Ytifbpjkgckkalaa.PPackTorn
