-- WRITTEN BY A PROGRAM OF THIS SESSION (wip/patch_print.py: the kit's printer with rules of this session's own); Lean checks it.
import Derived.Test.YtifbpjkgckkalaaPPostSetsx0
import Derived.Test.YtifbpjkgckkalaaPPostSetsx1
import Derived.Test.YtifbpjkgckkalaaPPostSetsx2
namespace Go.Proofs.Ytifbpjkgckkalaa.PPostSets
open Go.RowKit Go.Proofs.YtifbpjkgckkalaaW.PrintWords Go.Proofs.YtifbpjkgckkalaaW.PrintLast Go.Proofs.YtifbpjkgckkalaaW.PrintMore
attribute [local go_sem] max2_int min2_int max_two min_two max_three min_three max_four min_four   -- for this text's walks alone
set_option linter.unusedVariables false
set_option linter.unusedSimpArgs false

/-! ### fascinelaw08_PostSets: function 14 -/
mutual
def fascinelaw08_PostSets.j0 : Nat → List Int → List Int → Bool → Option (Bool)
  | 0, _, _, _ => none
  | k + 1, x0, x1, x31 => if x31 = true then ((fascinelaw08_awake.f k).bind fun t171 => (some t171)) else ((post_And.f k x0 x1).bind fun t172 => ((post_Or.f k x0 x1).bind fun t175 => ((post_Less.f k x0 x1).bind fun t178 => ((fascineref08_Rises.f k t172).bind fun t181 => (if t181 = true then ((fascineref08_Rises.f k t175).bind fun t182 => (if t182 = true then ((fascineref08_Rises.f k t178).bind fun t183 => (if t183 = true then (if (wrap64 ((t172.length : Int) + (t175.length : Int))) = (wrap64 ((x0.length : Int) + (x1.length : Int))) then (fascinelaw08_PostSets.j1 k x0 x1 t172 t175 t178 ((wrap64 ((t172.length : Int) + (t178.length : Int))) != (x0.length : Int))) else (fascinelaw08_PostSets.j1 k x0 x1 t172 t175 t178 true)) else (fascinelaw08_PostSets.j1 k x0 x1 t172 t175 t178 true))) else (fascinelaw08_PostSets.j1 k x0 x1 t172 t175 t178 true))) else (fascinelaw08_PostSets.j1 k x0 x1 t172 t175 t178 true))))))
def fascinelaw08_PostSets.j1 : Nat → List Int → List Int → List Int → List Int → List Int → Bool → Option (Bool)
  | 0, _, _, _, _, _, _ => none
  | k + 1, x0, x1, x5, x6, x7, x77 => if x77 = true then (some false) else (fascinelaw08_PostSets.l0 k x0 x1 x5 x6 x7 0)
def fascinelaw08_PostSets.l0 : Nat → List Int → List Int → List Int → List Int → List Int → Int → Option (Bool)
  | 0, _, _, _, _, _, _ => none
  | k + 1, x0, x1, x5, x6, x7, x8 => if x8 < (x6.length : Int) then (if 0 ≤ x8 then ((fascineref08_In.f k x0 (rd x6 x8)).bind fun t185 => ((fascineref08_In.f k x1 (rd x6 x8)).bind fun t186 => (if t185 = true then ((fascineref08_In.f k x5 (rd x6 x8)).bind fun t187 => (if (t187 != t186) = true then (some false) else ((fascineref08_In.f k x7 (rd x6 x8)).bind fun t188 => (if (!(t188 == (!t186))) = true then (some false) else (fascinelaw08_PostSets.l0 k x0 x1 x5 x6 x7 (wrap64 (x8 + 1))))))) else (if t186 = true then ((fascineref08_In.f k x5 (rd x6 x8)).bind fun t189 => (if (t189 != false) = true then (some false) else ((fascineref08_In.f k x7 (rd x6 x8)).bind fun t190 => (if (t190 != false) = true then (some false) else (fascinelaw08_PostSets.l0 k x0 x1 x5 x6 x7 (wrap64 (x8 + 1))))))) else (some false))))) else (none)) else (some true)
end
def fascinelaw08_PostSets.f (k : Nat) (l0 : List Int) (l1 : List Int) : Option (Bool) := (fascinelaw08_awake.f k).bind fun t168 => (if t168 = true then ((fascineref08_Rises.f k l0).bind fun t169 => (if t169 = true then ((fascineref08_Rises.f k l1).bind fun t170 => (if t170 = true then (fascinelaw08_PostSets.j0 k l0 l1 (decide ((wrap64 ((l0.length : Int) + (l1.length : Int))) > 500))) else (fascinelaw08_PostSets.j0 k l0 l1 true))) else (fascinelaw08_PostSets.j0 k l0 l1 true))) else (fascinelaw08_PostSets.j0 k l0 l1 true))
theorem fascinelaw08_PostSets.mono_l : ∀ k, (∀ y0 y1 y2, LeO (fascinelaw08_PostSets.j0 k y0 y1 y2) (fascinelaw08_PostSets.j0 (k + 1) y0 y1 y2)) ∧ (∀ y0 y1 y2 y3 y4 y5, LeO (fascinelaw08_PostSets.j1 k y0 y1 y2 y3 y4 y5) (fascinelaw08_PostSets.j1 (k + 1) y0 y1 y2 y3 y4 y5)) ∧ (∀ y0 y1 y2 y3 y4 y5, LeO (fascinelaw08_PostSets.l0 k y0 y1 y2 y3 y4 y5) (fascinelaw08_PostSets.l0 (k + 1) y0 y1 y2 y3 y4 y5))
  | 0 => ⟨fun _ _ _ r h => by simp [fascinelaw08_PostSets.j0] at h, fun _ _ _ _ _ _ r h => by simp [fascinelaw08_PostSets.j1] at h, fun _ _ _ _ _ _ r h => by simp [fascinelaw08_PostSets.l0] at h⟩
  | k + 1 => by
    obtain ⟨ih0, ih1, ih2⟩ := fascinelaw08_PostSets.mono_l k
    refine ⟨?_, ?_, ?_⟩
    · intro y0 y1 y2
      unfold fascinelaw08_PostSets.j0
      repeat' first
      | (with_reducible exact ih0 _ _ _)
      | (with_reducible exact ih1 _ _ _ _ _ _)
      | (with_reducible exact ih2 _ _ _ _ _ _)
      | (with_reducible exact fascinelaw08_awake.mono _)
      | (with_reducible exact fascineref08_In.mono _ _ _)
      | (with_reducible exact fascineref08_Rises.mono _ _)
      | (with_reducible exact post_And.mono _ _ _)
      | (with_reducible exact post_Less.mono _ _ _)
      | (with_reducible exact post_Or.mono _ _ _)
      | (with_reducible exact LeO.refl _)
      | (with_reducible exact LeO.none _)
      | (with_reducible refine LeO.ite ?_ ?_)
      | (with_reducible refine LeO.bind ?_ (fun _ => ?_))
      | exact ih0 _ _ _
      | exact ih1 _ _ _ _ _ _
      | exact ih2 _ _ _ _ _ _
      | exact fascinelaw08_awake.mono _
      | exact fascineref08_In.mono _ _ _
      | exact fascineref08_Rises.mono _ _
      | exact post_And.mono _ _ _
      | exact post_Less.mono _ _ _
      | exact post_Or.mono _ _ _
      | exact LeO.none _
      | refine LeO.ite ?_ ?_
      | refine LeO.bind ?_ (fun _ => ?_)
    · intro y0 y1 y2 y3 y4 y5
      unfold fascinelaw08_PostSets.j1
      repeat' first
      | (with_reducible exact ih0 _ _ _)
      | (with_reducible exact ih1 _ _ _ _ _ _)
      | (with_reducible exact ih2 _ _ _ _ _ _)
      | (with_reducible exact fascinelaw08_awake.mono _)
      | (with_reducible exact fascineref08_In.mono _ _ _)
      | (with_reducible exact fascineref08_Rises.mono _ _)
      | (with_reducible exact post_And.mono _ _ _)
      | (with_reducible exact post_Less.mono _ _ _)
      | (with_reducible exact post_Or.mono _ _ _)
      | (with_reducible exact LeO.refl _)
      | (with_reducible exact LeO.none _)
      | (with_reducible refine LeO.ite ?_ ?_)
      | (with_reducible refine LeO.bind ?_ (fun _ => ?_))
      | exact ih0 _ _ _
      | exact ih1 _ _ _ _ _ _
      | exact ih2 _ _ _ _ _ _
      | exact fascinelaw08_awake.mono _
      | exact fascineref08_In.mono _ _ _
      | exact fascineref08_Rises.mono _ _
      | exact post_And.mono _ _ _
      | exact post_Less.mono _ _ _
      | exact post_Or.mono _ _ _
      | exact LeO.none _
      | refine LeO.ite ?_ ?_
      | refine LeO.bind ?_ (fun _ => ?_)
    · intro y0 y1 y2 y3 y4 y5
      unfold fascinelaw08_PostSets.l0
      repeat' first
      | (with_reducible exact ih0 _ _ _)
      | (with_reducible exact ih1 _ _ _ _ _ _)
      | (with_reducible exact ih2 _ _ _ _ _ _)
      | (with_reducible exact fascinelaw08_awake.mono _)
      | (with_reducible exact fascineref08_In.mono _ _ _)
      | (with_reducible exact fascineref08_Rises.mono _ _)
      | (with_reducible exact post_And.mono _ _ _)
      | (with_reducible exact post_Less.mono _ _ _)
      | (with_reducible exact post_Or.mono _ _ _)
      | (with_reducible exact LeO.refl _)
      | (with_reducible exact LeO.none _)
      | (with_reducible refine LeO.ite ?_ ?_)
      | (with_reducible refine LeO.bind ?_ (fun _ => ?_))
      | exact ih0 _ _ _
      | exact ih1 _ _ _ _ _ _
      | exact ih2 _ _ _ _ _ _
      | exact fascinelaw08_awake.mono _
      | exact fascineref08_In.mono _ _ _
      | exact fascineref08_Rises.mono _ _
      | exact post_And.mono _ _ _
      | exact post_Less.mono _ _ _
      | exact post_Or.mono _ _ _
      | exact LeO.none _
      | refine LeO.ite ?_ ?_
      | refine LeO.bind ?_ (fun _ => ?_)
theorem fascinelaw08_PostSets.mono : ∀ a0 a1 k, LeO (fascinelaw08_PostSets.f k a0 a1) (fascinelaw08_PostSets.f (k + 1) a0 a1) := by
  intro a0 a1 k
  obtain ⟨ih0, ih1, ih2⟩ := fascinelaw08_PostSets.mono_l k
  unfold fascinelaw08_PostSets.f
  repeat' first
      | (with_reducible exact ih0 _ _ _)
      | (with_reducible exact ih1 _ _ _ _ _ _)
      | (with_reducible exact ih2 _ _ _ _ _ _)
      | (with_reducible exact fascinelaw08_awake.mono _)
      | (with_reducible exact fascineref08_In.mono _ _ _)
      | (with_reducible exact fascineref08_Rises.mono _ _)
      | (with_reducible exact post_And.mono _ _ _)
      | (with_reducible exact post_Less.mono _ _ _)
      | (with_reducible exact post_Or.mono _ _ _)
      | (with_reducible exact LeO.refl _)
      | (with_reducible exact LeO.none _)
      | (with_reducible refine LeO.ite ?_ ?_)
      | (with_reducible refine LeO.bind ?_ (fun _ => ?_))
      | exact ih0 _ _ _
      | exact ih1 _ _ _ _ _ _
      | exact ih2 _ _ _ _ _ _
      | exact fascinelaw08_awake.mono _
      | exact fascineref08_In.mono _ _ _
      | exact fascineref08_Rises.mono _ _
      | exact post_And.mono _ _ _
      | exact post_Less.mono _ _ _
      | exact post_Or.mono _ _ _
      | exact LeO.none _
      | refine LeO.ite ?_ ?_
      | refine LeO.bind ?_ (fun _ => ?_)
set_option maxHeartbeats 8000000 in
set_option maxRecDepth 100000 in
theorem fascinelaw08_PostSets.calls (k : Nat) (A0 : Option Addr) (c0 : Nat) (l0 : List Int) (A1 : Option Addr) (c1 : Nat) (l1 : List Int) (r : Bool) (w : World) (hr0 : Kd.C (Kd.int .i64) w A0 l0.length l0) (hc0 : l0.length ≤ c0) (hr1 : Kd.C (Kd.int .i64) w A1 l1.length l1) (hc1 : l1.length ≤ c1) (h : fascinelaw08_PostSets.f k l0 l1 = some r) :
    Calls Try.prog 14 #[.slice A0 l0.length c0, .slice A1 l1.length c1] w fun e w' => e = .returned (.bool r) ∧ Below w.heap.size w w' := by
  have HR0 := Aside0.mk hr0
  have HC0 := Aside0.mk hc0
  clear hr0 hc0
  have HR1 := Aside0.mk hr1
  have HC1 := Aside0.mk hc1
  clear hr1 hc1
  have HB := Aside0.mk (Below.refl w.heap.size w)
  have H : ((fascinelaw08_awake.f k).bind fun t168 => (if t168 = true then ((fascineref08_Rises.f k l0).bind fun t169 => (if t169 = true then ((fascineref08_Rises.f k l1).bind fun t170 => (if t170 = true then (fascinelaw08_PostSets.j0 k l0 l1 (decide ((wrap64 ((l0.length : Int) + (l1.length : Int))) > 500))) else (fascinelaw08_PostSets.j0 k l0 l1 true))) else (fascinelaw08_PostSets.j0 k l0 l1 true))) else (fascinelaw08_PostSets.j0 k l0 l1 true))) = some r := h
  clear h
  have HC3 := Aside0.mk H
  clear H
  go_enter Try.func14, Try.ntmps14
  go_upto_region 1 with (fail)
  go_cut [31] (fun v31 wc => ∃ (kq : Nat) (x31_2 : Bool), v31 = .bool x31_2 ∧ Aside0 (fascinelaw08_PostSets.j0 kq l0 l1 x31_2 = some r) ∧ Aside0 (kq ≤ k) ∧ Aside0 (Below w.heap.size w wc))
  case first =>
    have H := HC3.out
    clear HC3
    replace H := Option.bind_eq_some_iff.mp H
    obtain ⟨t168, A40, H⟩ := H
    replace H : (if t168 = true then ((fascineref08_Rises.f k l0).bind fun t169 => (if t169 = true then ((fascineref08_Rises.f k l1).bind fun t170 => (if t170 = true then (fascinelaw08_PostSets.j0 k l0 l1 (decide ((wrap64 ((l0.length : Int) + (l1.length : Int))) > 500))) else (fascinelaw08_PostSets.j0 k l0 l1 true))) else (fascinelaw08_PostSets.j0 k l0 l1 true))) else (fascinelaw08_PostSets.j0 k l0 l1 true)) = some r := H
    have A4 := Aside0.mk A40
    clear A40
    by_cases c5 : t168 = true
    · subst c5
      have H1 : ((fascineref08_Rises.f k l0).bind fun t169 => (if t169 = true then ((fascineref08_Rises.f k l1).bind fun t170 => (if t170 = true then (fascinelaw08_PostSets.j0 k l0 l1 (decide ((wrap64 ((l0.length : Int) + (l1.length : Int))) > 500))) else (fascinelaw08_PostSets.j0 k l0 l1 true))) else (fascinelaw08_PostSets.j0 k l0 l1 true))) = some r := by rw [if_pos rfl] at H; exact H
      clear H
      have H := H1
      clear H1
      replace H := Option.bind_eq_some_iff.mp H
      obtain ⟨t169, A60, H⟩ := H
      replace H : (if t169 = true then ((fascineref08_Rises.f k l1).bind fun t170 => (if t170 = true then (fascinelaw08_PostSets.j0 k l0 l1 (decide ((wrap64 ((l0.length : Int) + (l1.length : Int))) > 500))) else (fascinelaw08_PostSets.j0 k l0 l1 true))) else (fascinelaw08_PostSets.j0 k l0 l1 true)) = some r := H
      have A6 := Aside0.mk A60
      clear A60
      by_cases c7 : t169 = true
      · subst c7
        have H1 : ((fascineref08_Rises.f k l1).bind fun t170 => (if t170 = true then (fascinelaw08_PostSets.j0 k l0 l1 (decide ((wrap64 ((l0.length : Int) + (l1.length : Int))) > 500))) else (fascinelaw08_PostSets.j0 k l0 l1 true))) = some r := by rw [if_pos rfl] at H; exact H
        clear H
        have H := H1
        clear H1
        replace H := Option.bind_eq_some_iff.mp H
        obtain ⟨t170, A80, H⟩ := H
        replace H : (if t170 = true then (fascinelaw08_PostSets.j0 k l0 l1 (decide ((wrap64 ((l0.length : Int) + (l1.length : Int))) > 500))) else (fascinelaw08_PostSets.j0 k l0 l1 true)) = some r := H
        have A8 := Aside0.mk A80
        clear A80
        by_cases c9 : t170 = true
        · subst c9
          have H1 : (fascinelaw08_PostSets.j0 k l0 l1 (decide ((wrap64 ((l0.length : Int) + (l1.length : Int))) > 500))) = some r := by rw [if_pos rfl] at H; exact H
          clear H
          have H := H1
          clear H1
          have H' := Aside0.mk H
          clear H
          go_wp2_with (first | ((with_reducible refine gate_callee (f := 34) rfl ?_); refine goesL_ (some 12) rfl rfl Try.func34 (by kernel_rfl) rfl #[] rfl (by (try simp only [List.map_toArray, List.map_cons, List.map_nil]); first | done | rfl | (simp only [List.length_drop, List.length_take]; rfl)) ?_; (with_reducible refine (fascinelaw08_awake.calls k  true _ A4.out).mono ?_); rintro e w10 ⟨rfl, hb⟩; refine ⟨_, rfl, ?_⟩; have n0_ := Aside0.mk (below_step (by repeat (first | (with_reducible first | exact HB.out | apply below_alloc | apply pw_below_drewN | apply below_drew1) | exact HB.out)) hb); clear HB; have HB := n0_; clear n0_; (try clear hb); (try clear hb2); (try clear hk); (try clear hi)) | (go_at_call 36; (with_reducible refine (fascineref08_Rises.calls k _ _ l0 true _ ?side1 ?side2 A6.out).mono ?_); (case side1 => repeat (first | exact (Kd.C_below HR0.out HB.out) | (with_reducible refine Kd.C_alloc ?_ _) | (with_reducible refine Kd.C_drewN ?_ _) | (with_reducible refine Kd.C_drew ?_))); (case side2 => exact HC0.out); rintro e w' ⟨rfl, ⟨nd, rfl⟩⟩) | (go_at_call 36; (with_reducible refine (fascineref08_Rises.calls k _ _ l1 true _ ?side1 ?side2 A8.out).mono ?_); (case side1 => repeat (first | exact (Kd.C_below HR1.out (by repeat (first | (with_reducible first | exact HB.out | apply below_alloc | apply pw_below_drewN | apply below_drew1) | exact HB.out))) | (with_reducible refine Kd.C_alloc ?_ _) | (with_reducible refine Kd.C_drewN ?_ _) | (with_reducible refine Kd.C_drew ?_))); (case side2 => exact HC1.out); rintro e w' ⟨rfl, ⟨nd, rfl⟩⟩))
          go_meet
          case rel => exact ⟨_, (decide ((wrap64 ((l0.length : Int) + (l1.length : Int))) > 500)), (by first | rfl | (simp; done) | (simp [*]; done)), H', ⟨by first | omega | exact Nat.le_refl _⟩, ⟨by repeat (first | (with_reducible first | exact HB.out | apply below_alloc | apply pw_below_drewN | apply below_drew1) | exact HB.out)⟩⟩
        · replace c9 := Bool.eq_false_iff.mpr c9
          subst c9
          have H1 : (fascinelaw08_PostSets.j0 k l0 l1 true) = some r := by rw [if_neg (show ¬ (false = true) by decide)] at H; exact H
          clear H
          have H := H1
          clear H1
          have H' := Aside0.mk H
          clear H
          go_wp2_with (first | ((with_reducible refine gate_callee (f := 34) rfl ?_); refine goesL_ (some 12) rfl rfl Try.func34 (by kernel_rfl) rfl #[] rfl (by (try simp only [List.map_toArray, List.map_cons, List.map_nil]); first | done | rfl | (simp only [List.length_drop, List.length_take]; rfl)) ?_; (with_reducible refine (fascinelaw08_awake.calls k  true _ A4.out).mono ?_); rintro e w11 ⟨rfl, hb⟩; refine ⟨_, rfl, ?_⟩; have n0_ := Aside0.mk (below_step (by repeat (first | (with_reducible first | exact HB.out | apply below_alloc | apply pw_below_drewN | apply below_drew1) | exact HB.out)) hb); clear HB; have HB := n0_; clear n0_; (try clear hb); (try clear hb2); (try clear hk); (try clear hi)) | (go_at_call 36; (with_reducible refine (fascineref08_Rises.calls k _ _ l0 true _ ?side1 ?side2 A6.out).mono ?_); (case side1 => repeat (first | exact (Kd.C_below HR0.out HB.out) | (with_reducible refine Kd.C_alloc ?_ _) | (with_reducible refine Kd.C_drewN ?_ _) | (with_reducible refine Kd.C_drew ?_))); (case side2 => exact HC0.out); rintro e w' ⟨rfl, ⟨nd, rfl⟩⟩) | (go_at_call 36; (with_reducible refine (fascineref08_Rises.calls k _ _ l1 false _ ?side1 ?side2 A8.out).mono ?_); (case side1 => repeat (first | exact (Kd.C_below HR1.out (by repeat (first | (with_reducible first | exact HB.out | apply below_alloc | apply pw_below_drewN | apply below_drew1) | exact HB.out))) | (with_reducible refine Kd.C_alloc ?_ _) | (with_reducible refine Kd.C_drewN ?_ _) | (with_reducible refine Kd.C_drew ?_))); (case side2 => exact HC1.out); rintro e w' ⟨rfl, ⟨nd, rfl⟩⟩))
          go_meet
          case rel => exact ⟨_, (true), (by first | rfl | (simp; done) | (simp [*]; done)), H', ⟨by first | omega | exact Nat.le_refl _⟩, ⟨by repeat (first | (with_reducible first | exact HB.out | apply below_alloc | apply pw_below_drewN | apply below_drew1) | exact HB.out)⟩⟩
      · replace c7 := Bool.eq_false_iff.mpr c7
        subst c7
        have H1 : (fascinelaw08_PostSets.j0 k l0 l1 true) = some r := by rw [if_neg (show ¬ (false = true) by decide)] at H; exact H
        clear H
        have H := H1
        clear H1
        have H' := Aside0.mk H
        clear H
        go_wp2_with (first | ((with_reducible refine gate_callee (f := 34) rfl ?_); refine goesL_ (some 12) rfl rfl Try.func34 (by kernel_rfl) rfl #[] rfl (by (try simp only [List.map_toArray, List.map_cons, List.map_nil]); first | done | rfl | (simp only [List.length_drop, List.length_take]; rfl)) ?_; (with_reducible refine (fascinelaw08_awake.calls k  true _ A4.out).mono ?_); rintro e w12 ⟨rfl, hb⟩; refine ⟨_, rfl, ?_⟩; have n0_ := Aside0.mk (below_step (by repeat (first | (with_reducible first | exact HB.out | apply below_alloc | apply pw_below_drewN | apply below_drew1) | exact HB.out)) hb); clear HB; have HB := n0_; clear n0_; (try clear hb); (try clear hb2); (try clear hk); (try clear hi)) | (go_at_call 36; (with_reducible refine (fascineref08_Rises.calls k _ _ l0 false _ ?side1 ?side2 A6.out).mono ?_); (case side1 => repeat (first | exact (Kd.C_below HR0.out HB.out) | (with_reducible refine Kd.C_alloc ?_ _) | (with_reducible refine Kd.C_drewN ?_ _) | (with_reducible refine Kd.C_drew ?_))); (case side2 => exact HC0.out); rintro e w' ⟨rfl, ⟨nd, rfl⟩⟩))
        go_meet
        case rel => exact ⟨_, (true), (by first | rfl | (simp; done) | (simp [*]; done)), H', ⟨by first | omega | exact Nat.le_refl _⟩, ⟨by repeat (first | (with_reducible first | exact HB.out | apply below_alloc | apply pw_below_drewN | apply below_drew1) | exact HB.out)⟩⟩
    · replace c5 := Bool.eq_false_iff.mpr c5
      subst c5
      have H1 : (fascinelaw08_PostSets.j0 k l0 l1 true) = some r := by rw [if_neg (show ¬ (false = true) by decide)] at H; exact H
      clear H
      have H := H1
      clear H1
      have H' := Aside0.mk H
      clear H
      go_wp2_with (first | ((with_reducible refine gate_callee (f := 34) rfl ?_); refine goesL_ (some 12) rfl rfl Try.func34 (by kernel_rfl) rfl #[] rfl (by (try simp only [List.map_toArray, List.map_cons, List.map_nil]); first | done | rfl | (simp only [List.length_drop, List.length_take]; rfl)) ?_; (with_reducible refine (fascinelaw08_awake.calls k  false _ A4.out).mono ?_); rintro e w13 ⟨rfl, hb⟩; refine ⟨_, rfl, ?_⟩; have n0_ := Aside0.mk (below_step (by repeat (first | (with_reducible first | exact HB.out | apply below_alloc | apply pw_below_drewN | apply below_drew1) | exact HB.out)) hb); clear HB; have HB := n0_; clear n0_; (try clear hb); (try clear hb2); (try clear hk); (try clear hi)))
      go_meet
      case rel => exact ⟨_, (true), (by first | rfl | (simp; done) | (simp [*]; done)), H', ⟨by first | omega | exact Nat.le_refl _⟩, ⟨by repeat (first | (with_reducible first | exact HB.out | apply below_alloc | apply pw_below_drewN | apply below_drew1) | exact HB.out)⟩⟩
  case rest =>
    clear HC3
    try clear c1
    try clear p2
    try clear c3
    try clear c5
    try clear p6
    try clear c7
    try clear c9
    obtain ⟨kq, x31_2, rfl, HA, HJ2, HB⟩ := hcut
    cases kq with
    | zero => exact absurd HA.out (by simp [fascinelaw08_PostSets.j0])
    | succ kj2 =>
      have H := HA.out
      clear HA
      simp only [fascinelaw08_PostSets.j0] at H
      by_cases c14 : x31_2 = true
      · subst c14
        have H1 : ((fascinelaw08_awake.f kj2).bind fun t171 => (some t171)) = some r := by rw [if_pos rfl] at H; exact H
        clear H
        have H := H1
        clear H1
        replace H := Option.bind_eq_some_iff.mp H
        obtain ⟨t171, A150, H⟩ := H
        replace H : (some t171) = some r := H
        have A15 := Aside0.mk A150
        clear A150
        obtain rfl := Option.some.inj H
        go_wp2_with (first | ((with_reducible refine gate_callee (f := 34) rfl ?_); refine goesL_ (some 32) rfl rfl Try.func34 (by kernel_rfl) rfl #[] rfl (by (try simp only [List.map_toArray, List.map_cons, List.map_nil]); first | done | rfl | (simp only [List.length_drop, List.length_take]; rfl)) ?_; (with_reducible refine (fascinelaw08_awake.calls kj2  t171 _ A15.out).mono ?_); rintro e w16 ⟨rfl, hb⟩; refine ⟨_, rfl, ?_⟩; have n0_ := Aside0.mk (below_step (by repeat (first | (with_reducible first | exact HB.out | apply below_alloc | apply pw_below_drewN | apply below_drew1) | exact HB.out)) hb); clear HB; have HB := n0_; clear n0_; (try clear hb); (try clear hb2); (try clear hk); (try clear hi)))
        go_ret
        exact ⟨by first | rfl | (simp [errW_none, errW_some] <;> rfl) | (simp [*, errW_none, errW_some] <;> rfl), by repeat (first | (with_reducible first | exact HB.out | apply below_alloc | apply pw_below_drewN | apply below_drew1) | exact HB.out)⟩
      · replace c14 := Bool.eq_false_iff.mpr c14
        subst c14
        have H1 : ((post_And.f kj2 l0 l1).bind fun t172 => ((post_Or.f kj2 l0 l1).bind fun t175 => ((post_Less.f kj2 l0 l1).bind fun t178 => ((fascineref08_Rises.f kj2 t172).bind fun t181 => (if t181 = true then ((fascineref08_Rises.f kj2 t175).bind fun t182 => (if t182 = true then ((fascineref08_Rises.f kj2 t178).bind fun t183 => (if t183 = true then (if (wrap64 ((t172.length : Int) + (t175.length : Int))) = (wrap64 ((l0.length : Int) + (l1.length : Int))) then (fascinelaw08_PostSets.j1 kj2 l0 l1 t172 t175 t178 ((wrap64 ((t172.length : Int) + (t178.length : Int))) != (l0.length : Int))) else (fascinelaw08_PostSets.j1 kj2 l0 l1 t172 t175 t178 true)) else (fascinelaw08_PostSets.j1 kj2 l0 l1 t172 t175 t178 true))) else (fascinelaw08_PostSets.j1 kj2 l0 l1 t172 t175 t178 true))) else (fascinelaw08_PostSets.j1 kj2 l0 l1 t172 t175 t178 true)))))) = some r := by rw [if_neg (show ¬ (false = true) by decide)] at H; exact H
        clear H
        have H := H1
        clear H1
        replace H := Option.bind_eq_some_iff.mp H
        obtain ⟨t172, A170, H⟩ := H
        replace H : ((post_Or.f kj2 l0 l1).bind fun t175 => ((post_Less.f kj2 l0 l1).bind fun t178 => ((fascineref08_Rises.f kj2 t172).bind fun t181 => (if t181 = true then ((fascineref08_Rises.f kj2 t175).bind fun t182 => (if t182 = true then ((fascineref08_Rises.f kj2 t178).bind fun t183 => (if t183 = true then (if (wrap64 ((t172.length : Int) + (t175.length : Int))) = (wrap64 ((l0.length : Int) + (l1.length : Int))) then (fascinelaw08_PostSets.j1 kj2 l0 l1 t172 t175 t178 ((wrap64 ((t172.length : Int) + (t178.length : Int))) != (l0.length : Int))) else (fascinelaw08_PostSets.j1 kj2 l0 l1 t172 t175 t178 true)) else (fascinelaw08_PostSets.j1 kj2 l0 l1 t172 t175 t178 true))) else (fascinelaw08_PostSets.j1 kj2 l0 l1 t172 t175 t178 true))) else (fascinelaw08_PostSets.j1 kj2 l0 l1 t172 t175 t178 true))))) = some r := H
        have A17 := Aside0.mk A170
        clear A170
        replace H := Option.bind_eq_some_iff.mp H
        obtain ⟨t175, A180, H⟩ := H
        replace H : ((post_Less.f kj2 l0 l1).bind fun t178 => ((fascineref08_Rises.f kj2 t172).bind fun t181 => (if t181 = true then ((fascineref08_Rises.f kj2 t175).bind fun t182 => (if t182 = true then ((fascineref08_Rises.f kj2 t178).bind fun t183 => (if t183 = true then (if (wrap64 ((t172.length : Int) + (t175.length : Int))) = (wrap64 ((l0.length : Int) + (l1.length : Int))) then (fascinelaw08_PostSets.j1 kj2 l0 l1 t172 t175 t178 ((wrap64 ((t172.length : Int) + (t178.length : Int))) != (l0.length : Int))) else (fascinelaw08_PostSets.j1 kj2 l0 l1 t172 t175 t178 true)) else (fascinelaw08_PostSets.j1 kj2 l0 l1 t172 t175 t178 true))) else (fascinelaw08_PostSets.j1 kj2 l0 l1 t172 t175 t178 true))) else (fascinelaw08_PostSets.j1 kj2 l0 l1 t172 t175 t178 true)))) = some r := H
        have A18 := Aside0.mk A180
        clear A180
        replace H := Option.bind_eq_some_iff.mp H
        obtain ⟨t178, A190, H⟩ := H
        replace H : ((fascineref08_Rises.f kj2 t172).bind fun t181 => (if t181 = true then ((fascineref08_Rises.f kj2 t175).bind fun t182 => (if t182 = true then ((fascineref08_Rises.f kj2 t178).bind fun t183 => (if t183 = true then (if (wrap64 ((t172.length : Int) + (t175.length : Int))) = (wrap64 ((l0.length : Int) + (l1.length : Int))) then (fascinelaw08_PostSets.j1 kj2 l0 l1 t172 t175 t178 ((wrap64 ((t172.length : Int) + (t178.length : Int))) != (l0.length : Int))) else (fascinelaw08_PostSets.j1 kj2 l0 l1 t172 t175 t178 true)) else (fascinelaw08_PostSets.j1 kj2 l0 l1 t172 t175 t178 true))) else (fascinelaw08_PostSets.j1 kj2 l0 l1 t172 t175 t178 true))) else (fascinelaw08_PostSets.j1 kj2 l0 l1 t172 t175 t178 true))) = some r := H
        have A19 := Aside0.mk A190
        clear A190
        have HC20 := Aside0.mk H
        clear H
        go_upto_region 6 with (first | ((with_reducible refine gate_callee (f := 46) rfl ?_); refine goesL_ (some 35) rfl rfl Try.func46 (by kernel_rfl) rfl #[.slice A0 l0.length c0, .slice A1 l1.length c1] rfl (by (try simp only [List.map_toArray, List.map_cons, List.map_nil]); first | done | rfl | (simp only [List.length_drop, List.length_take]; rfl)) ?_; (with_reducible refine (post_And.calls kj2 _ _ l0 _ _ l1 t172 _ ?side1 ?side2 ?side3 ?side4 A17.out).mono ?_); (case side1 => repeat (first | exact (Kd.C_below HR0.out HB.out) | (with_reducible refine Kd.C_alloc ?_ _) | (with_reducible refine Kd.C_drewN ?_ _) | (with_reducible refine Kd.C_drew ?_))); (case side2 => exact HC0.out); (case side3 => repeat (first | exact (Kd.C_below HR1.out HB.out) | (with_reducible refine Kd.C_alloc ?_ _) | (with_reducible refine Kd.C_drewN ?_ _) | (with_reducible refine Kd.C_drew ?_))); (case side4 => exact HC1.out); rintro e w21 ⟨v173, rfl, ho0, hb⟩; refine ⟨_, rfl, ?_⟩; have n0_ := Aside0.mk (Kd.R_lower ho0 (below_size (by repeat (first | (with_reducible first | exact HB.out | apply below_alloc | apply pw_below_drewN | apply below_drew1) | exact HB.out)))); have n1_ := Aside0.mk (below_step (by repeat (first | (with_reducible first | exact HB.out | apply below_alloc | apply pw_below_drewN | apply below_drew1) | exact HB.out)) hb); clear HB; have HO174 := n0_; have HB := n1_; clear n0_ n1_; (try clear hb); (try clear hb2); (try clear hk); (try clear hi); (try clear ho0)) | ((with_reducible refine gate_callee (f := 47) rfl ?_); refine goesL_ (some 38) rfl rfl Try.func47 (by kernel_rfl) rfl #[.slice A0 l0.length c0, .slice A1 l1.length c1] rfl (by (try simp only [List.map_toArray, List.map_cons, List.map_nil]); first | done | rfl | (simp only [List.length_drop, List.length_take]; rfl)) ?_; (with_reducible refine (post_Or.calls kj2 _ _ l0 _ _ l1 t175 _ ?side1 ?side2 ?side3 ?side4 A18.out).mono ?_); (case side1 => repeat (first | exact (Kd.C_below HR0.out HB.out) | (with_reducible refine Kd.C_alloc ?_ _) | (with_reducible refine Kd.C_drewN ?_ _) | (with_reducible refine Kd.C_drew ?_))); (case side2 => exact HC0.out); (case side3 => repeat (first | exact (Kd.C_below HR1.out HB.out) | (with_reducible refine Kd.C_alloc ?_ _) | (with_reducible refine Kd.C_drewN ?_ _) | (with_reducible refine Kd.C_drew ?_))); (case side4 => exact HC1.out); rintro e w22 ⟨v176, rfl, ho0, hb⟩; refine ⟨_, rfl, ?_⟩; have n0_ := Aside0.mk (Kd.R_elder' (by (with_reducible repeat (first | apply Kd.R_alloc | apply Kd.R_drewN | apply Kd.R_drew)); exact HO174.out) (Kd.R_base ho0) hb); have n1_ := Aside0.mk (Kd.R_lower (Kd.R_new' ho0 (Kd.R_lt (by (with_reducible repeat (first | apply Kd.R_alloc | apply Kd.R_drewN | apply Kd.R_drew)); exact HO174.out))) (below_size (by repeat (first | (with_reducible first | exact HB.out | apply below_alloc | apply pw_below_drewN | apply below_drew1) | exact HB.out)))); have n2_ := Aside0.mk (below_step (by repeat (first | (with_reducible first | exact HB.out | apply below_alloc | apply pw_below_drewN | apply below_drew1) | exact HB.out)) hb); clear HO174; clear HB; have HO174 := n0_; have HO177 := n1_; have HB := n2_; clear n0_ n1_ n2_; (try clear hb); (try clear hb2); (try clear hk); (try clear hi); (try clear ho0)) | ((with_reducible refine gate_callee (f := 48) rfl ?_); refine goesL_ (some 41) rfl rfl Try.func48 (by kernel_rfl) rfl #[.slice A0 l0.length c0, .slice A1 l1.length c1] rfl (by (try simp only [List.map_toArray, List.map_cons, List.map_nil]); first | done | rfl | (simp only [List.length_drop, List.length_take]; rfl)) ?_; (with_reducible refine (post_Less.calls kj2 _ _ l0 _ _ l1 t178 _ ?side1 ?side2 ?side3 ?side4 A19.out).mono ?_); (case side1 => repeat (first | exact (Kd.C_below HR0.out HB.out) | (with_reducible refine Kd.C_alloc ?_ _) | (with_reducible refine Kd.C_drewN ?_ _) | (with_reducible refine Kd.C_drew ?_))); (case side2 => exact HC0.out); (case side3 => repeat (first | exact (Kd.C_below HR1.out HB.out) | (with_reducible refine Kd.C_alloc ?_ _) | (with_reducible refine Kd.C_drewN ?_ _) | (with_reducible refine Kd.C_drew ?_))); (case side4 => exact HC1.out); rintro e w23 ⟨v179, rfl, ho0, hb⟩; refine ⟨_, rfl, ?_⟩; have n0_ := Aside0.mk (Kd.R_elder' (by (with_reducible repeat (first | apply Kd.R_alloc | apply Kd.R_drewN | apply Kd.R_drew)); exact HO174.out) (Kd.R_base ho0) hb); have n1_ := Aside0.mk (Kd.R_elder' (by (with_reducible repeat (first | apply Kd.R_alloc | apply Kd.R_drewN | apply Kd.R_drew)); exact HO177.out) (Kd.R_base ho0) hb); have n2_ := Aside0.mk (Kd.R_lower (Kd.R_new' (Kd.R_new' ho0 (Kd.R_lt (by (with_reducible repeat (first | apply Kd.R_alloc | apply Kd.R_drewN | apply Kd.R_drew)); exact HO174.out))) (Kd.R_lt (by (with_reducible repeat (first | apply Kd.R_alloc | apply Kd.R_drewN | apply Kd.R_drew)); exact HO177.out))) (below_size (by repeat (first | (with_reducible first | exact HB.out | apply below_alloc | apply pw_below_drewN | apply below_drew1) | exact HB.out)))); have n3_ := Aside0.mk (below_step (by repeat (first | (with_reducible first | exact HB.out | apply below_alloc | apply pw_below_drewN | apply below_drew1) | exact HB.out)) hb); clear HO174; clear HO177; clear HB; have HO174 := n0_; have HO177 := n1_; have HO180 := n2_; have HB := n3_; clear n0_ n1_ n2_ n3_; (try clear hb); (try clear hb2); (try clear hk); (try clear hi); (try clear ho0)))
        (try simp only [Act.put, List.setIfInBounds_toArray, List.set_cons_zero, List.set_cons_succ])
        go_cut [77] (fun v77 wc => ∃ (kq : Nat) (x77_19 : Bool), v77 = .bool x77_19 ∧ Aside0 (fascinelaw08_PostSets.j1 kq l0 l1 t172 t175 t178 x77_19 = some r) ∧ Aside0 (kq ≤ kj2) ∧ Aside0 (Kd.R (Kd.int .i64) 3 wc w.heap.size (fun k_ => some k_ ≠ (v176 : Value).ownBlock ∧ some k_ ≠ (v179 : Value).ownBlock) v173 t172) ∧ Aside0 (Kd.R (Kd.int .i64) 3 wc w.heap.size (fun k_ => some k_ ≠ (v173 : Value).ownBlock ∧ some k_ ≠ (v179 : Value).ownBlock) v176 t175) ∧ Aside0 (Kd.R (Kd.int .i64) 3 wc w.heap.size (fun k_ => some k_ ≠ (v173 : Value).ownBlock ∧ some k_ ≠ (v176 : Value).ownBlock) v179 t178) ∧ Aside0 (Below w.heap.size w wc))
        case first =>
          have H := HC20.out
          clear HC20
          replace H := Option.bind_eq_some_iff.mp H
          obtain ⟨t181, A240, H⟩ := H
          replace H : (if t181 = true then ((fascineref08_Rises.f kj2 t175).bind fun t182 => (if t182 = true then ((fascineref08_Rises.f kj2 t178).bind fun t183 => (if t183 = true then (if (wrap64 ((t172.length : Int) + (t175.length : Int))) = (wrap64 ((l0.length : Int) + (l1.length : Int))) then (fascinelaw08_PostSets.j1 kj2 l0 l1 t172 t175 t178 ((wrap64 ((t172.length : Int) + (t178.length : Int))) != (l0.length : Int))) else (fascinelaw08_PostSets.j1 kj2 l0 l1 t172 t175 t178 true)) else (fascinelaw08_PostSets.j1 kj2 l0 l1 t172 t175 t178 true))) else (fascinelaw08_PostSets.j1 kj2 l0 l1 t172 t175 t178 true))) else (fascinelaw08_PostSets.j1 kj2 l0 l1 t172 t175 t178 true)) = some r := H
          have A24 := Aside0.mk A240
          clear A240
          by_cases c25 : t181 = true
          · subst c25
            have H1 : ((fascineref08_Rises.f kj2 t175).bind fun t182 => (if t182 = true then ((fascineref08_Rises.f kj2 t178).bind fun t183 => (if t183 = true then (if (wrap64 ((t172.length : Int) + (t175.length : Int))) = (wrap64 ((l0.length : Int) + (l1.length : Int))) then (fascinelaw08_PostSets.j1 kj2 l0 l1 t172 t175 t178 ((wrap64 ((t172.length : Int) + (t178.length : Int))) != (l0.length : Int))) else (fascinelaw08_PostSets.j1 kj2 l0 l1 t172 t175 t178 true)) else (fascinelaw08_PostSets.j1 kj2 l0 l1 t172 t175 t178 true))) else (fascinelaw08_PostSets.j1 kj2 l0 l1 t172 t175 t178 true))) = some r := by rw [if_pos rfl] at H; exact H
            clear H
            have H := H1
            clear H1
            replace H := Option.bind_eq_some_iff.mp H
            obtain ⟨t182, A260, H⟩ := H
            replace H : (if t182 = true then ((fascineref08_Rises.f kj2 t178).bind fun t183 => (if t183 = true then (if (wrap64 ((t172.length : Int) + (t175.length : Int))) = (wrap64 ((l0.length : Int) + (l1.length : Int))) then (fascinelaw08_PostSets.j1 kj2 l0 l1 t172 t175 t178 ((wrap64 ((t172.length : Int) + (t178.length : Int))) != (l0.length : Int))) else (fascinelaw08_PostSets.j1 kj2 l0 l1 t172 t175 t178 true)) else (fascinelaw08_PostSets.j1 kj2 l0 l1 t172 t175 t178 true))) else (fascinelaw08_PostSets.j1 kj2 l0 l1 t172 t175 t178 true)) = some r := H
            have A26 := Aside0.mk A260
            clear A260
            by_cases c27 : t182 = true
            · subst c27
              have H1 : ((fascineref08_Rises.f kj2 t178).bind fun t183 => (if t183 = true then (if (wrap64 ((t172.length : Int) + (t175.length : Int))) = (wrap64 ((l0.length : Int) + (l1.length : Int))) then (fascinelaw08_PostSets.j1 kj2 l0 l1 t172 t175 t178 ((wrap64 ((t172.length : Int) + (t178.length : Int))) != (l0.length : Int))) else (fascinelaw08_PostSets.j1 kj2 l0 l1 t172 t175 t178 true)) else (fascinelaw08_PostSets.j1 kj2 l0 l1 t172 t175 t178 true))) = some r := by rw [if_pos rfl] at H; exact H
              clear H
              have H := H1
              clear H1
              replace H := Option.bind_eq_some_iff.mp H
              obtain ⟨t183, A280, H⟩ := H
              replace H : (if t183 = true then (if (wrap64 ((t172.length : Int) + (t175.length : Int))) = (wrap64 ((l0.length : Int) + (l1.length : Int))) then (fascinelaw08_PostSets.j1 kj2 l0 l1 t172 t175 t178 ((wrap64 ((t172.length : Int) + (t178.length : Int))) != (l0.length : Int))) else (fascinelaw08_PostSets.j1 kj2 l0 l1 t172 t175 t178 true)) else (fascinelaw08_PostSets.j1 kj2 l0 l1 t172 t175 t178 true)) = some r := H
              have A28 := Aside0.mk A280
              clear A280
              by_cases c29 : t183 = true
              · subst c29
                have H1 : (if (wrap64 ((t172.length : Int) + (t175.length : Int))) = (wrap64 ((l0.length : Int) + (l1.length : Int))) then (fascinelaw08_PostSets.j1 kj2 l0 l1 t172 t175 t178 ((wrap64 ((t172.length : Int) + (t178.length : Int))) != (l0.length : Int))) else (fascinelaw08_PostSets.j1 kj2 l0 l1 t172 t175 t178 true)) = some r := by rw [if_pos rfl] at H; exact H
                clear H
                have H := H1
                clear H1
                by_cases c30 : (wrap64 ((t172.length : Int) + (t175.length : Int))) = (wrap64 ((l0.length : Int) + (l1.length : Int)))
                · rw [if_pos c30] at H
                  have c30b0 : ((wrap64 ((t172.length : Int) + (t175.length : Int))) == (wrap64 ((l0.length : Int) + (l1.length : Int)))) = true := beq_iff_eq.mpr c30
                  have c30b1 : ((wrap64 ((t172.length : Int) + (t175.length : Int))) != (wrap64 ((l0.length : Int) + (l1.length : Int)))) = false := bne_eq_false_iff_eq.mpr c30
                  clear c30
                  (first | rw [c30b0] | (simp only [i64_w, i32_w]; rw [c30b0]) | skip)
                  have H' := Aside0.mk H
                  clear H
                  obtain ⟨Ao31, co31, eo31⟩ := Kd.R_slice HO174.out
                  subst eo31
                  go_wp2_with (first | ((with_reducible refine gate_callee (f := 36) rfl ?_); refine goesL_ (some 43) rfl rfl Try.func36 (by kernel_rfl) rfl #[.slice Ao31 t172.length co31] rfl (by (try simp only [List.map_toArray, List.map_cons, List.map_nil]); first | done | rfl | (simp only [List.length_drop, List.length_take]; rfl)) ?_; (with_reducible refine (fascineref08_Rises.calls kj2 _ _ t172 true _ ?side1 ?side2 A24.out).mono ?_); (case side1 => repeat (first | exact (Kd.R_reads' HO174.out).2.2 | (with_reducible refine Kd.C_alloc ?_ _) | (with_reducible refine Kd.C_drewN ?_ _) | (with_reducible refine Kd.C_drew ?_))); (case side2 => exact (Kd.R_reads' HO174.out).2.1); rintro e w' ⟨rfl, ⟨nd, rfl⟩⟩; refine ⟨_, rfl, ?_⟩; obtain ⟨Ao32, co32, eo32⟩ := Kd.R_slice HO177.out; subst eo32) | (go_at_call 36; (with_reducible refine (fascineref08_Rises.calls kj2 _ _ t175 true _ ?side1 ?side2 A26.out).mono ?_); (case side1 => repeat (first | exact (Kd.R_reads' HO177.out).2.2 | (with_reducible refine Kd.C_alloc ?_ _) | (with_reducible refine Kd.C_drewN ?_ _) | (with_reducible refine Kd.C_drew ?_))); (case side2 => exact (Kd.R_reads' HO177.out).2.1); rintro e w' ⟨rfl, ⟨nd, rfl⟩⟩; obtain ⟨Ao33, co33, eo33⟩ := Kd.R_slice HO180.out; subst eo33) | (go_at_call 36; (with_reducible refine (fascineref08_Rises.calls kj2 _ _ t178 true _ ?side1 ?side2 A28.out).mono ?_); (case side1 => repeat (first | exact (Kd.R_reads' HO180.out).2.2 | (with_reducible refine Kd.C_alloc ?_ _) | (with_reducible refine Kd.C_drewN ?_ _) | (with_reducible refine Kd.C_drew ?_))); (case side2 => exact (Kd.R_reads' HO180.out).2.1); rintro e w' ⟨rfl, ⟨nd, rfl⟩⟩))
                  go_meet
                  case rel => exact ⟨_, (((wrap64 ((t172.length : Int) + (t178.length : Int))) != (l0.length : Int))), (by first | rfl | (simp; done) | (simp [*]; done)), H', ⟨by have := HJ2.out; first | omega | exact Nat.le_refl _⟩, ⟨by (with_reducible repeat (first | apply Kd.R_alloc | apply Kd.R_drewN | apply Kd.R_drew)); exact Kd.R_mono HO174.out (fun _ hk => ⟨hk.1.2, hk.2⟩)⟩, ⟨by (with_reducible repeat (first | apply Kd.R_alloc | apply Kd.R_drewN | apply Kd.R_drew)); exact Kd.R_mono HO177.out (fun _ hk => ⟨hk.1.2, hk.2⟩)⟩, ⟨by (with_reducible repeat (first | apply Kd.R_alloc | apply Kd.R_drewN | apply Kd.R_drew)); exact Kd.R_mono HO180.out (fun _ hk => ⟨hk.1.2, hk.2⟩)⟩, ⟨by repeat (first | (with_reducible first | exact HB.out | apply below_alloc | apply pw_below_drewN | apply below_drew1) | exact HB.out)⟩⟩
                · rw [if_neg c30] at H
                  have c30b0 : ((wrap64 ((t172.length : Int) + (t175.length : Int))) == (wrap64 ((l0.length : Int) + (l1.length : Int)))) = false := beq_eq_false_iff_ne.mpr c30
                  have c30b1 : ((wrap64 ((t172.length : Int) + (t175.length : Int))) != (wrap64 ((l0.length : Int) + (l1.length : Int)))) = true := bne_iff_ne.mpr c30
                  (first | rw [c30b0] | (simp only [i64_w, i32_w]; rw [c30b0]) | skip)
                  have H' := Aside0.mk H
                  clear H
                  obtain ⟨Ao34, co34, eo34⟩ := Kd.R_slice HO174.out
                  subst eo34
                  go_wp2_with (first | ((with_reducible refine gate_callee (f := 36) rfl ?_); refine goesL_ (some 43) rfl rfl Try.func36 (by kernel_rfl) rfl #[.slice Ao34 t172.length co34] rfl (by (try simp only [List.map_toArray, List.map_cons, List.map_nil]); first | done | rfl | (simp only [List.length_drop, List.length_take]; rfl)) ?_; (with_reducible refine (fascineref08_Rises.calls kj2 _ _ t172 true _ ?side1 ?side2 A24.out).mono ?_); (case side1 => repeat (first | exact (Kd.R_reads' HO174.out).2.2 | (with_reducible refine Kd.C_alloc ?_ _) | (with_reducible refine Kd.C_drewN ?_ _) | (with_reducible refine Kd.C_drew ?_))); (case side2 => exact (Kd.R_reads' HO174.out).2.1); rintro e w' ⟨rfl, ⟨nd, rfl⟩⟩; refine ⟨_, rfl, ?_⟩; obtain ⟨Ao35, co35, eo35⟩ := Kd.R_slice HO177.out; subst eo35) | (go_at_call 36; (with_reducible refine (fascineref08_Rises.calls kj2 _ _ t175 true _ ?side1 ?side2 A26.out).mono ?_); (case side1 => repeat (first | exact (Kd.R_reads' HO177.out).2.2 | (with_reducible refine Kd.C_alloc ?_ _) | (with_reducible refine Kd.C_drewN ?_ _) | (with_reducible refine Kd.C_drew ?_))); (case side2 => exact (Kd.R_reads' HO177.out).2.1); rintro e w' ⟨rfl, ⟨nd, rfl⟩⟩; obtain ⟨Ao36, co36, eo36⟩ := Kd.R_slice HO180.out; subst eo36) | (go_at_call 36; (with_reducible refine (fascineref08_Rises.calls kj2 _ _ t178 true _ ?side1 ?side2 A28.out).mono ?_); (case side1 => repeat (first | exact (Kd.R_reads' HO180.out).2.2 | (with_reducible refine Kd.C_alloc ?_ _) | (with_reducible refine Kd.C_drewN ?_ _) | (with_reducible refine Kd.C_drew ?_))); (case side2 => exact (Kd.R_reads' HO180.out).2.1); rintro e w' ⟨rfl, ⟨nd, rfl⟩⟩))
                  go_meet
                  case rel => exact ⟨_, (true), (by first | rfl | (simp; done) | (simp [*]; done)), H', ⟨by have := HJ2.out; first | omega | exact Nat.le_refl _⟩, ⟨by (with_reducible repeat (first | apply Kd.R_alloc | apply Kd.R_drewN | apply Kd.R_drew)); exact Kd.R_mono HO174.out (fun _ hk => ⟨hk.1.2, hk.2⟩)⟩, ⟨by (with_reducible repeat (first | apply Kd.R_alloc | apply Kd.R_drewN | apply Kd.R_drew)); exact Kd.R_mono HO177.out (fun _ hk => ⟨hk.1.2, hk.2⟩)⟩, ⟨by (with_reducible repeat (first | apply Kd.R_alloc | apply Kd.R_drewN | apply Kd.R_drew)); exact Kd.R_mono HO180.out (fun _ hk => ⟨hk.1.2, hk.2⟩)⟩, ⟨by repeat (first | (with_reducible first | exact HB.out | apply below_alloc | apply pw_below_drewN | apply below_drew1) | exact HB.out)⟩⟩
              · replace c29 := Bool.eq_false_iff.mpr c29
                subst c29
                have H1 : (fascinelaw08_PostSets.j1 kj2 l0 l1 t172 t175 t178 true) = some r := by rw [if_neg (show ¬ (false = true) by decide)] at H; exact H
                clear H
                have H := H1
                clear H1
                have H' := Aside0.mk H
                clear H
                obtain ⟨Ao37, co37, eo37⟩ := Kd.R_slice HO174.out
                subst eo37
                go_wp2_with (first | ((with_reducible refine gate_callee (f := 36) rfl ?_); refine goesL_ (some 43) rfl rfl Try.func36 (by kernel_rfl) rfl #[.slice Ao37 t172.length co37] rfl (by (try simp only [List.map_toArray, List.map_cons, List.map_nil]); first | done | rfl | (simp only [List.length_drop, List.length_take]; rfl)) ?_; (with_reducible refine (fascineref08_Rises.calls kj2 _ _ t172 true _ ?side1 ?side2 A24.out).mono ?_); (case side1 => repeat (first | exact (Kd.R_reads' HO174.out).2.2 | (with_reducible refine Kd.C_alloc ?_ _) | (with_reducible refine Kd.C_drewN ?_ _) | (with_reducible refine Kd.C_drew ?_))); (case side2 => exact (Kd.R_reads' HO174.out).2.1); rintro e w' ⟨rfl, ⟨nd, rfl⟩⟩; refine ⟨_, rfl, ?_⟩; obtain ⟨Ao38, co38, eo38⟩ := Kd.R_slice HO177.out; subst eo38) | (go_at_call 36; (with_reducible refine (fascineref08_Rises.calls kj2 _ _ t175 true _ ?side1 ?side2 A26.out).mono ?_); (case side1 => repeat (first | exact (Kd.R_reads' HO177.out).2.2 | (with_reducible refine Kd.C_alloc ?_ _) | (with_reducible refine Kd.C_drewN ?_ _) | (with_reducible refine Kd.C_drew ?_))); (case side2 => exact (Kd.R_reads' HO177.out).2.1); rintro e w' ⟨rfl, ⟨nd, rfl⟩⟩; obtain ⟨Ao39, co39, eo39⟩ := Kd.R_slice HO180.out; subst eo39) | (go_at_call 36; (with_reducible refine (fascineref08_Rises.calls kj2 _ _ t178 false _ ?side1 ?side2 A28.out).mono ?_); (case side1 => repeat (first | exact (Kd.R_reads' HO180.out).2.2 | (with_reducible refine Kd.C_alloc ?_ _) | (with_reducible refine Kd.C_drewN ?_ _) | (with_reducible refine Kd.C_drew ?_))); (case side2 => exact (Kd.R_reads' HO180.out).2.1); rintro e w' ⟨rfl, ⟨nd, rfl⟩⟩))
                go_meet
                case rel => exact ⟨_, (true), (by first | rfl | (simp; done) | (simp [*]; done)), H', ⟨by have := HJ2.out; first | omega | exact Nat.le_refl _⟩, ⟨by (with_reducible repeat (first | apply Kd.R_alloc | apply Kd.R_drewN | apply Kd.R_drew)); exact Kd.R_mono HO174.out (fun _ hk => ⟨hk.1.2, hk.2⟩)⟩, ⟨by (with_reducible repeat (first | apply Kd.R_alloc | apply Kd.R_drewN | apply Kd.R_drew)); exact Kd.R_mono HO177.out (fun _ hk => ⟨hk.1.2, hk.2⟩)⟩, ⟨by (with_reducible repeat (first | apply Kd.R_alloc | apply Kd.R_drewN | apply Kd.R_drew)); exact Kd.R_mono HO180.out (fun _ hk => ⟨hk.1.2, hk.2⟩)⟩, ⟨by repeat (first | (with_reducible first | exact HB.out | apply below_alloc | apply pw_below_drewN | apply below_drew1) | exact HB.out)⟩⟩
            · replace c27 := Bool.eq_false_iff.mpr c27
              subst c27
              have H1 : (fascinelaw08_PostSets.j1 kj2 l0 l1 t172 t175 t178 true) = some r := by rw [if_neg (show ¬ (false = true) by decide)] at H; exact H
              clear H
              have H := H1
              clear H1
              have H' := Aside0.mk H
              clear H
              obtain ⟨Ao40, co40, eo40⟩ := Kd.R_slice HO174.out
              subst eo40
              go_wp2_with (first | ((with_reducible refine gate_callee (f := 36) rfl ?_); refine goesL_ (some 43) rfl rfl Try.func36 (by kernel_rfl) rfl #[.slice Ao40 t172.length co40] rfl (by (try simp only [List.map_toArray, List.map_cons, List.map_nil]); first | done | rfl | (simp only [List.length_drop, List.length_take]; rfl)) ?_; (with_reducible refine (fascineref08_Rises.calls kj2 _ _ t172 true _ ?side1 ?side2 A24.out).mono ?_); (case side1 => repeat (first | exact (Kd.R_reads' HO174.out).2.2 | (with_reducible refine Kd.C_alloc ?_ _) | (with_reducible refine Kd.C_drewN ?_ _) | (with_reducible refine Kd.C_drew ?_))); (case side2 => exact (Kd.R_reads' HO174.out).2.1); rintro e w' ⟨rfl, ⟨nd, rfl⟩⟩; refine ⟨_, rfl, ?_⟩; obtain ⟨Ao41, co41, eo41⟩ := Kd.R_slice HO177.out; subst eo41) | (go_at_call 36; (with_reducible refine (fascineref08_Rises.calls kj2 _ _ t175 false _ ?side1 ?side2 A26.out).mono ?_); (case side1 => repeat (first | exact (Kd.R_reads' HO177.out).2.2 | (with_reducible refine Kd.C_alloc ?_ _) | (with_reducible refine Kd.C_drewN ?_ _) | (with_reducible refine Kd.C_drew ?_))); (case side2 => exact (Kd.R_reads' HO177.out).2.1); rintro e w' ⟨rfl, ⟨nd, rfl⟩⟩))
              go_meet
              case rel => exact ⟨_, (true), (by first | rfl | (simp; done) | (simp [*]; done)), H', ⟨by have := HJ2.out; first | omega | exact Nat.le_refl _⟩, ⟨by (with_reducible repeat (first | apply Kd.R_alloc | apply Kd.R_drewN | apply Kd.R_drew)); exact Kd.R_mono HO174.out (fun _ hk => ⟨hk.1.2, hk.2⟩)⟩, ⟨by (with_reducible repeat (first | apply Kd.R_alloc | apply Kd.R_drewN | apply Kd.R_drew)); exact Kd.R_mono HO177.out (fun _ hk => ⟨hk.1.2, hk.2⟩)⟩, ⟨by (with_reducible repeat (first | apply Kd.R_alloc | apply Kd.R_drewN | apply Kd.R_drew)); exact Kd.R_mono HO180.out (fun _ hk => ⟨hk.1.2, hk.2⟩)⟩, ⟨by repeat (first | (with_reducible first | exact HB.out | apply below_alloc | apply pw_below_drewN | apply below_drew1) | exact HB.out)⟩⟩
          · replace c25 := Bool.eq_false_iff.mpr c25
            subst c25
            have H1 : (fascinelaw08_PostSets.j1 kj2 l0 l1 t172 t175 t178 true) = some r := by rw [if_neg (show ¬ (false = true) by decide)] at H; exact H
            clear H
            have H := H1
            clear H1
            have H' := Aside0.mk H
            clear H
            obtain ⟨Ao42, co42, eo42⟩ := Kd.R_slice HO174.out
            subst eo42
            go_wp2_with (first | ((with_reducible refine gate_callee (f := 36) rfl ?_); refine goesL_ (some 43) rfl rfl Try.func36 (by kernel_rfl) rfl #[.slice Ao42 t172.length co42] rfl (by (try simp only [List.map_toArray, List.map_cons, List.map_nil]); first | done | rfl | (simp only [List.length_drop, List.length_take]; rfl)) ?_; (with_reducible refine (fascineref08_Rises.calls kj2 _ _ t172 false _ ?side1 ?side2 A24.out).mono ?_); (case side1 => repeat (first | exact (Kd.R_reads' HO174.out).2.2 | (with_reducible refine Kd.C_alloc ?_ _) | (with_reducible refine Kd.C_drewN ?_ _) | (with_reducible refine Kd.C_drew ?_))); (case side2 => exact (Kd.R_reads' HO174.out).2.1); rintro e w' ⟨rfl, ⟨nd, rfl⟩⟩; refine ⟨_, rfl, ?_⟩))
            go_meet
            case rel => exact ⟨_, (true), (by first | rfl | (simp; done) | (simp [*]; done)), H', ⟨by have := HJ2.out; first | omega | exact Nat.le_refl _⟩, ⟨by (with_reducible repeat (first | apply Kd.R_alloc | apply Kd.R_drewN | apply Kd.R_drew)); exact Kd.R_mono HO174.out (fun _ hk => ⟨hk.1.2, hk.2⟩)⟩, ⟨by (with_reducible repeat (first | apply Kd.R_alloc | apply Kd.R_drewN | apply Kd.R_drew)); exact Kd.R_mono HO177.out (fun _ hk => ⟨hk.1.2, hk.2⟩)⟩, ⟨by (with_reducible repeat (first | apply Kd.R_alloc | apply Kd.R_drewN | apply Kd.R_drew)); exact Kd.R_mono HO180.out (fun _ hk => ⟨hk.1.2, hk.2⟩)⟩, ⟨by repeat (first | (with_reducible first | exact HB.out | apply below_alloc | apply pw_below_drewN | apply below_drew1) | exact HB.out)⟩⟩
        case rest =>
          clear HC20
          try clear c1
          try clear c2
          try clear p2
          try clear c3
          try clear c4
          try clear c5
          try clear p6
          try clear c7
          try clear c9
          try clear c14
          try clear c25
          try clear c27
          try clear c29
          try clear c30
          try clear c30b0
          try clear c30b1
          try clear c34
          try clear c36
          try clear p2
          try clear p6
          obtain ⟨kq, x77_19, rfl, HA, HJ19, HO_5, HO_6, HO_7, HB⟩ := hcut
          cases kq with
          | zero => exact absurd HA.out (by simp [fascinelaw08_PostSets.j1])
          | succ kj19 =>
            have H := HA.out
            clear HA
            simp only [fascinelaw08_PostSets.j1] at H
            by_cases c43 : x77_19 = true
            · subst c43
              have H1 : (some false) = some r := by rw [if_pos rfl] at H; exact H
              clear H
              have H := H1
              clear H1
              obtain rfl := Option.some.inj H
              go_wp2
              go_ret
              exact ⟨by first | rfl | (simp [errW_none, errW_some] <;> rfl) | (simp [*, errW_none, errW_some] <;> rfl), by repeat (first | (with_reducible first | exact HB.out | apply below_alloc | apply pw_below_drewN | apply below_drew1) | exact HB.out)⟩
            · replace c43 := Bool.eq_false_iff.mpr c43
              subst c43
              have H1 : (fascinelaw08_PostSets.l0 kj19 l0 l1 t172 t175 t178 0) = some r := by rw [if_neg (show ¬ (false = true) by decide)] at H; exact H
              clear H
              have H := H1
              clear H1
              have H' := Aside0.mk H
              clear H
              go_wp2
              go_loopg [8] kj19 (fun kq v8 w' => ∃ (x8_3 : Int), v8 = .int .i64 x8_3 ∧ Aside0 (fascinelaw08_PostSets.l0 kq l0 l1 t172 t175 t178 x8_3 = some r) ∧ Aside0 (kq ≤ kj19) ∧ Aside0 (Kd.R (Kd.int .i64) 3 w' w.heap.size (fun k_ => some k_ ≠ (v176 : Value).ownBlock ∧ some k_ ≠ (v179 : Value).ownBlock) v173 t172) ∧ Aside0 (Kd.R (Kd.int .i64) 3 w' w.heap.size (fun k_ => some k_ ≠ (v173 : Value).ownBlock ∧ some k_ ≠ (v179 : Value).ownBlock) v176 t175) ∧ Aside0 (Kd.R (Kd.int .i64) 3 w' w.heap.size (fun k_ => some k_ ≠ (v173 : Value).ownBlock ∧ some k_ ≠ (v176 : Value).ownBlock) v179 t178) ∧ Aside0 (Below w.heap.size w w'))
              case atStart => exact ⟨(0), (by first | rfl | (simp; done) | (simp [*]; done)), H', ⟨Nat.le_refl _⟩, ⟨by (with_reducible repeat (first | apply Kd.R_alloc | apply Kd.R_drewN | apply Kd.R_drew)); exact HO_5.out⟩, ⟨by (with_reducible repeat (first | apply Kd.R_alloc | apply Kd.R_drewN | apply Kd.R_drew)); exact HO_6.out⟩, ⟨by (with_reducible repeat (first | apply Kd.R_alloc | apply Kd.R_drewN | apply Kd.R_drew)); exact HO_7.out⟩, ⟨by repeat (first | (with_reducible first | exact HB.out | apply below_alloc | apply pw_below_drewN | apply below_drew1) | exact HB.out)⟩⟩
              case round =>
                clear H'
                try clear c1
                try clear c2
                try clear p2
                try clear c3
                try clear c4
                try clear c5
                try clear p6
                try clear c7
                try clear c9
                try clear c14
                try clear c25
                try clear c27
                try clear c29
                try clear c30
                try clear c30b0
                try clear c30b1
                try clear c34
                try clear c36
                try clear c43
                try clear p2
                try clear p6
                obtain ⟨x8_3, rfl, HA, HK3, HO_5, HO_6, HO_7, HB⟩ := hrel
                cases gk with
                | zero => exact absurd HA.out (by simp [fascinelaw08_PostSets.l0])
                | succ k3 =>
                  have H := HA.out
                  clear HA
                  simp only [fascinelaw08_PostSets.l0] at H
                  by_cases c44 : x8_3 < (t175.length : Int)
                  · rw [if_pos c44] at H
                    have c44b0 : decide (x8_3 < (t175.length : Int)) = true := decide_eq_true c44
                    clear c44
                    by_cases c45 : 0 ≤ x8_3
                    · rw [if_pos c45] at H
                      have c45b0 : decide (0 ≤ x8_3) = true := decide_eq_true c45
                      clear c45
                      replace H := Option.bind_eq_some_iff.mp H
                      obtain ⟨t185, A460, H⟩ := H
                      replace H : ((fascineref08_In.f k3 l1 (rd t175 x8_3)).bind fun t186 => (if t185 = true then ((fascineref08_In.f k3 t172 (rd t175 x8_3)).bind fun t187 => (if (t187 != t186) = true then (some false) else ((fascineref08_In.f k3 t178 (rd t175 x8_3)).bind fun t188 => (if (!(t188 == (!t186))) = true then (some false) else (fascinelaw08_PostSets.l0 k3 l0 l1 t172 t175 t178 (wrap64 (x8_3 + 1))))))) else (if t186 = true then ((fascineref08_In.f k3 t172 (rd t175 x8_3)).bind fun t189 => (if (t189 != false) = true then (some false) else ((fascineref08_In.f k3 t178 (rd t175 x8_3)).bind fun t190 => (if (t190 != false) = true then (some false) else (fascinelaw08_PostSets.l0 k3 l0 l1 t172 t175 t178 (wrap64 (x8_3 + 1))))))) else (some false)))) = some r := H
                      have A46 := Aside0.mk A460
                      clear A460
                      replace H := Option.bind_eq_some_iff.mp H
                      obtain ⟨t186, A470, H⟩ := H
                      replace H : (if t185 = true then ((fascineref08_In.f k3 t172 (rd t175 x8_3)).bind fun t187 => (if (t187 != t186) = true then (some false) else ((fascineref08_In.f k3 t178 (rd t175 x8_3)).bind fun t188 => (if (!(t188 == (!t186))) = true then (some false) else (fascinelaw08_PostSets.l0 k3 l0 l1 t172 t175 t178 (wrap64 (x8_3 + 1))))))) else (if t186 = true then ((fascineref08_In.f k3 t172 (rd t175 x8_3)).bind fun t189 => (if (t189 != false) = true then (some false) else ((fascineref08_In.f k3 t178 (rd t175 x8_3)).bind fun t190 => (if (t190 != false) = true then (some false) else (fascinelaw08_PostSets.l0 k3 l0 l1 t172 t175 t178 (wrap64 (x8_3 + 1))))))) else (some false))) = some r := H
                      have A47 := Aside0.mk A470
                      clear A470
                      by_cases c48 : t185 = true
                      · subst c48
                        have H1 : ((fascineref08_In.f k3 t172 (rd t175 x8_3)).bind fun t187 => (if (t187 != t186) = true then (some false) else ((fascineref08_In.f k3 t178 (rd t175 x8_3)).bind fun t188 => (if (!(t188 == (!t186))) = true then (some false) else (fascinelaw08_PostSets.l0 k3 l0 l1 t172 t175 t178 (wrap64 (x8_3 + 1))))))) = some r := by rw [if_pos rfl] at H; exact H
                        clear H
                        have H := H1
                        clear H1
                        replace H := Option.bind_eq_some_iff.mp H
                        obtain ⟨t187, A490, H⟩ := H
                        replace H : (if (t187 != t186) = true then (some false) else ((fascineref08_In.f k3 t178 (rd t175 x8_3)).bind fun t188 => (if (!(t188 == (!t186))) = true then (some false) else (fascinelaw08_PostSets.l0 k3 l0 l1 t172 t175 t178 (wrap64 (x8_3 + 1)))))) = some r := H
                        have A49 := Aside0.mk A490
                        clear A490
                        by_cases c50 : (t187 != t186) = true
                        · rw [if_pos c50] at H
                          have c50b0 : (t187 != t186) = true := c50
                          (try (have c50b1 : decide (t187 = t186) = false := by simpa using c50))
                          (try (have c50b2 : (t187 == t186) = false := by simpa using c50))
                          (try (have c50b3 : ¬ (t187 = t186) := by simpa using c50))
                          clear c50
                          obtain rfl := Option.some.inj H
                          obtain ⟨Ao51, co51, eo51⟩ := Kd.R_slice HO_6.out
                          subst eo51
                          have p184 : 0 ≤ (x8_3 : Int) := of_decide_eq_true (by first | (with_reducible assumption) | assumption)
                          have q184 : x8_3 < (t175.length : Int) := of_decide_eq_true (by first | (with_reducible assumption) | assumption)
                          obtain ⟨ad184, e184, hx184_0⟩ := Kd.at_int (Kd.R_reads' HO_6.out).2.2 x8_3 p184 q184
                          cases e184
                          replace p184 := eq_true p184
                          replace q184 := eq_true q184
                          go_wp2_with (first | ((with_reducible refine gate_callee (f := 49) rfl ?_); refine goesL_ (some 90) rfl rfl Try.func49 (by kernel_rfl) rfl #[.slice A0 l0.length c0, .int .i64 (rd t175 x8_3)] rfl (by (try simp only [List.map_toArray, List.map_cons, List.map_nil]); first | done | rfl | (simp only [List.length_drop, List.length_take]; rfl)) ?_; (with_reducible refine (fascineref08_In.calls k3 _ _ l0 (rd t175 x8_3) true _ ?side1 ?side2 A46.out).mono ?_); (case side1 => repeat (first | exact (Kd.C_below HR0.out HB.out) | (with_reducible refine Kd.C_alloc ?_ _) | (with_reducible refine Kd.C_drewN ?_ _) | (with_reducible refine Kd.C_drew ?_))); (case side2 => exact HC0.out); rintro e w' ⟨rfl, ⟨nd, rfl⟩⟩; refine ⟨_, rfl, ?_⟩) | ((with_reducible refine gate_callee (f := 49) rfl ?_); refine goesL_ (some 93) rfl rfl Try.func49 (by kernel_rfl) rfl #[.slice A1 l1.length c1, .int .i64 (rd t175 x8_3)] rfl (by (try simp only [List.map_toArray, List.map_cons, List.map_nil]); first | done | rfl | (simp only [List.length_drop, List.length_take]; rfl)) ?_; (with_reducible refine (fascineref08_In.calls k3 _ _ l1 (rd t175 x8_3) t186 _ ?side1 ?side2 A47.out).mono ?_); (case side1 => repeat (first | exact (Kd.C_below HR1.out (by repeat (first | (with_reducible first | exact HB.out | apply below_alloc | apply pw_below_drewN | apply below_drew1) | exact HB.out))) | (with_reducible refine Kd.C_alloc ?_ _) | (with_reducible refine Kd.C_drewN ?_ _) | (with_reducible refine Kd.C_drew ?_))); (case side2 => exact HC1.out); rintro e w' ⟨rfl, ⟨nd, rfl⟩⟩; refine ⟨_, rfl, ?_⟩; obtain ⟨Ao52, co52, eo52⟩ := Kd.R_slice HO_5.out; subst eo52) | (go_at_call 49; (with_reducible refine (fascineref08_In.calls k3 _ _ t172 (rd t175 x8_3) t187 _ ?side1 ?side2 A49.out).mono ?_); (case side1 => repeat (first | exact (Kd.R_reads' HO_5.out).2.2 | (with_reducible refine Kd.C_alloc ?_ _) | (with_reducible refine Kd.C_drewN ?_ _) | (with_reducible refine Kd.C_drew ?_))); (case side2 => exact (Kd.R_reads' HO_5.out).2.1); rintro e w' ⟨rfl, ⟨nd, rfl⟩⟩))
                          go_ret
                          exact ⟨by first | rfl | (simp [errW_none, errW_some] <;> rfl) | (simp [*, errW_none, errW_some] <;> rfl), by repeat (first | (with_reducible first | exact HB.out | apply below_alloc | apply pw_below_drewN | apply below_drew1) | exact HB.out)⟩
                        · rw [if_neg c50] at H
                          have c50b0 : (t187 != t186) = false := (by first | exact Bool.eq_false_iff.mpr c50 | simpa using c50)
                          (try (have c50b1 : decide (t187 = t186) = true := by simpa using c50))
                          (try (have c50b2 : (t187 == t186) = true := by simpa using c50))
                          clear c50
                          replace H := Option.bind_eq_some_iff.mp H
                          obtain ⟨t188, A530, H⟩ := H
                          replace H : (if (!(t188 == (!t186))) = true then (some false) else (fascinelaw08_PostSets.l0 k3 l0 l1 t172 t175 t178 (wrap64 (x8_3 + 1)))) = some r := H
                          have A53 := Aside0.mk A530
                          clear A530
                          by_cases c54 : (!(t188 == (!t186))) = true
                          · rw [if_pos c54] at H
                            have c54b0 : (!(t188 == (!t186))) = true := c54
                            clear c54
                            obtain rfl := Option.some.inj H
                            obtain ⟨Ao55, co55, eo55⟩ := Kd.R_slice HO_6.out
                            subst eo55
                            have p184 : 0 ≤ (x8_3 : Int) := of_decide_eq_true (by first | (with_reducible assumption) | assumption)
                            have q184 : x8_3 < (t175.length : Int) := of_decide_eq_true (by first | (with_reducible assumption) | assumption)
                            obtain ⟨ad184, e184, hx184_0⟩ := Kd.at_int (Kd.R_reads' HO_6.out).2.2 x8_3 p184 q184
                            cases e184
                            replace p184 := eq_true p184
                            replace q184 := eq_true q184
                            go_wp2_with (first | ((with_reducible refine gate_callee (f := 49) rfl ?_); refine goesL_ (some 90) rfl rfl Try.func49 (by kernel_rfl) rfl #[.slice A0 l0.length c0, .int .i64 (rd t175 x8_3)] rfl (by (try simp only [List.map_toArray, List.map_cons, List.map_nil]); first | done | rfl | (simp only [List.length_drop, List.length_take]; rfl)) ?_; (with_reducible refine (fascineref08_In.calls k3 _ _ l0 (rd t175 x8_3) true _ ?side1 ?side2 A46.out).mono ?_); (case side1 => repeat (first | exact (Kd.C_below HR0.out HB.out) | (with_reducible refine Kd.C_alloc ?_ _) | (with_reducible refine Kd.C_drewN ?_ _) | (with_reducible refine Kd.C_drew ?_))); (case side2 => exact HC0.out); rintro e w' ⟨rfl, ⟨nd, rfl⟩⟩; refine ⟨_, rfl, ?_⟩) | ((with_reducible refine gate_callee (f := 49) rfl ?_); refine goesL_ (some 93) rfl rfl Try.func49 (by kernel_rfl) rfl #[.slice A1 l1.length c1, .int .i64 (rd t175 x8_3)] rfl (by (try simp only [List.map_toArray, List.map_cons, List.map_nil]); first | done | rfl | (simp only [List.length_drop, List.length_take]; rfl)) ?_; (with_reducible refine (fascineref08_In.calls k3 _ _ l1 (rd t175 x8_3) t186 _ ?side1 ?side2 A47.out).mono ?_); (case side1 => repeat (first | exact (Kd.C_below HR1.out (by repeat (first | (with_reducible first | exact HB.out | apply below_alloc | apply pw_below_drewN | apply below_drew1) | exact HB.out))) | (with_reducible refine Kd.C_alloc ?_ _) | (with_reducible refine Kd.C_drewN ?_ _) | (with_reducible refine Kd.C_drew ?_))); (case side2 => exact HC1.out); rintro e w' ⟨rfl, ⟨nd, rfl⟩⟩; refine ⟨_, rfl, ?_⟩; obtain ⟨Ao56, co56, eo56⟩ := Kd.R_slice HO_5.out; subst eo56) | (go_at_call 49; (with_reducible refine (fascineref08_In.calls k3 _ _ t172 (rd t175 x8_3) t187 _ ?side1 ?side2 A49.out).mono ?_); (case side1 => repeat (first | exact (Kd.R_reads' HO_5.out).2.2 | (with_reducible refine Kd.C_alloc ?_ _) | (with_reducible refine Kd.C_drewN ?_ _) | (with_reducible refine Kd.C_drew ?_))); (case side2 => exact (Kd.R_reads' HO_5.out).2.1); rintro e w' ⟨rfl, ⟨nd, rfl⟩⟩; obtain ⟨Ao57, co57, eo57⟩ := Kd.R_slice HO_7.out; subst eo57) | (go_at_call 49; (with_reducible refine (fascineref08_In.calls k3 _ _ t178 (rd t175 x8_3) t188 _ ?side1 ?side2 A53.out).mono ?_); (case side1 => repeat (first | exact (Kd.R_reads' HO_7.out).2.2 | (with_reducible refine Kd.C_alloc ?_ _) | (with_reducible refine Kd.C_drewN ?_ _) | (with_reducible refine Kd.C_drew ?_))); (case side2 => exact (Kd.R_reads' HO_7.out).2.1); rintro e w' ⟨rfl, ⟨nd, rfl⟩⟩))
                            go_ret
                            exact ⟨by first | rfl | (simp [errW_none, errW_some] <;> rfl) | (simp [*, errW_none, errW_some] <;> rfl), by repeat (first | (with_reducible first | exact HB.out | apply below_alloc | apply pw_below_drewN | apply below_drew1) | exact HB.out)⟩
                          · rw [if_neg c54] at H
                            have c54b0 : (!(t188 == (!t186))) = false := (by first | exact Bool.eq_false_iff.mpr c54 | simpa using c54)
                            clear c54
                            have H' := Aside0.mk H
                            clear H
                            obtain ⟨Ao58, co58, eo58⟩ := Kd.R_slice HO_6.out
                            subst eo58
                            have p184 : 0 ≤ (x8_3 : Int) := of_decide_eq_true (by first | (with_reducible assumption) | assumption)
                            have q184 : x8_3 < (t175.length : Int) := of_decide_eq_true (by first | (with_reducible assumption) | assumption)
                            obtain ⟨ad184, e184, hx184_0⟩ := Kd.at_int (Kd.R_reads' HO_6.out).2.2 x8_3 p184 q184
                            cases e184
                            replace p184 := eq_true p184
                            replace q184 := eq_true q184
                            go_wp2_with (first | ((with_reducible refine gate_callee (f := 49) rfl ?_); refine goesL_ (some 90) rfl rfl Try.func49 (by kernel_rfl) rfl #[.slice A0 l0.length c0, .int .i64 (rd t175 x8_3)] rfl (by (try simp only [List.map_toArray, List.map_cons, List.map_nil]); first | done | rfl | (simp only [List.length_drop, List.length_take]; rfl)) ?_; (with_reducible refine (fascineref08_In.calls k3 _ _ l0 (rd t175 x8_3) true _ ?side1 ?side2 A46.out).mono ?_); (case side1 => repeat (first | exact (Kd.C_below HR0.out HB.out) | (with_reducible refine Kd.C_alloc ?_ _) | (with_reducible refine Kd.C_drewN ?_ _) | (with_reducible refine Kd.C_drew ?_))); (case side2 => exact HC0.out); rintro e w' ⟨rfl, ⟨nd, rfl⟩⟩; refine ⟨_, rfl, ?_⟩) | ((with_reducible refine gate_callee (f := 49) rfl ?_); refine goesL_ (some 93) rfl rfl Try.func49 (by kernel_rfl) rfl #[.slice A1 l1.length c1, .int .i64 (rd t175 x8_3)] rfl (by (try simp only [List.map_toArray, List.map_cons, List.map_nil]); first | done | rfl | (simp only [List.length_drop, List.length_take]; rfl)) ?_; (with_reducible refine (fascineref08_In.calls k3 _ _ l1 (rd t175 x8_3) t186 _ ?side1 ?side2 A47.out).mono ?_); (case side1 => repeat (first | exact (Kd.C_below HR1.out (by repeat (first | (with_reducible first | exact HB.out | apply below_alloc | apply pw_below_drewN | apply below_drew1) | exact HB.out))) | (with_reducible refine Kd.C_alloc ?_ _) | (with_reducible refine Kd.C_drewN ?_ _) | (with_reducible refine Kd.C_drew ?_))); (case side2 => exact HC1.out); rintro e w' ⟨rfl, ⟨nd, rfl⟩⟩; refine ⟨_, rfl, ?_⟩; obtain ⟨Ao59, co59, eo59⟩ := Kd.R_slice HO_5.out; subst eo59) | (go_at_call 49; (with_reducible refine (fascineref08_In.calls k3 _ _ t172 (rd t175 x8_3) t187 _ ?side1 ?side2 A49.out).mono ?_); (case side1 => repeat (first | exact (Kd.R_reads' HO_5.out).2.2 | (with_reducible refine Kd.C_alloc ?_ _) | (with_reducible refine Kd.C_drewN ?_ _) | (with_reducible refine Kd.C_drew ?_))); (case side2 => exact (Kd.R_reads' HO_5.out).2.1); rintro e w' ⟨rfl, ⟨nd, rfl⟩⟩; obtain ⟨Ao60, co60, eo60⟩ := Kd.R_slice HO_7.out; subst eo60) | (go_at_call 49; (with_reducible refine (fascineref08_In.calls k3 _ _ t178 (rd t175 x8_3) t188 _ ?side1 ?side2 A53.out).mono ?_); (case side1 => repeat (first | exact (Kd.R_reads' HO_7.out).2.2 | (with_reducible refine Kd.C_alloc ?_ _) | (with_reducible refine Kd.C_drewN ?_ _) | (with_reducible refine Kd.C_drew ?_))); (case side2 => exact (Kd.R_reads' HO_7.out).2.1); rintro e w' ⟨rfl, ⟨nd, rfl⟩⟩))
                            go_roundg k3
                            case measure => have := HJ2.out; have := HJ19.out; have := HK3.out; omega
                            case rel => exact ⟨(wrap64 (x8_3 + 1)), (by first | rfl | (simp; done) | (simp [*]; done)), H', ⟨by have := HJ2.out; have := HJ19.out; have := HK3.out; omega⟩, ⟨by (with_reducible repeat (first | apply Kd.R_alloc | apply Kd.R_drewN | apply Kd.R_drew)); exact HO_5.out⟩, ⟨by (with_reducible repeat (first | apply Kd.R_alloc | apply Kd.R_drewN | apply Kd.R_drew)); exact HO_6.out⟩, ⟨by (with_reducible repeat (first | apply Kd.R_alloc | apply Kd.R_drewN | apply Kd.R_drew)); exact HO_7.out⟩, ⟨by repeat (first | (with_reducible first | exact HB.out | apply below_alloc | apply pw_below_drewN | apply below_drew1) | exact HB.out)⟩⟩
                      · replace c48 := Bool.eq_false_iff.mpr c48
                        subst c48
                        have H1 : (if t186 = true then ((fascineref08_In.f k3 t172 (rd t175 x8_3)).bind fun t189 => (if (t189 != false) = true then (some false) else ((fascineref08_In.f k3 t178 (rd t175 x8_3)).bind fun t190 => (if (t190 != false) = true then (some false) else (fascinelaw08_PostSets.l0 k3 l0 l1 t172 t175 t178 (wrap64 (x8_3 + 1))))))) else (some false)) = some r := by rw [if_neg (show ¬ (false = true) by decide)] at H; exact H
                        clear H
                        have H := H1
                        clear H1
                        by_cases c61 : t186 = true
                        · subst c61
                          have H1 : ((fascineref08_In.f k3 t172 (rd t175 x8_3)).bind fun t189 => (if (t189 != false) = true then (some false) else ((fascineref08_In.f k3 t178 (rd t175 x8_3)).bind fun t190 => (if (t190 != false) = true then (some false) else (fascinelaw08_PostSets.l0 k3 l0 l1 t172 t175 t178 (wrap64 (x8_3 + 1))))))) = some r := by rw [if_pos rfl] at H; exact H
                          clear H
                          have H := H1
                          clear H1
                          replace H := Option.bind_eq_some_iff.mp H
                          obtain ⟨t189, A620, H⟩ := H
                          replace H : (if (t189 != false) = true then (some false) else ((fascineref08_In.f k3 t178 (rd t175 x8_3)).bind fun t190 => (if (t190 != false) = true then (some false) else (fascinelaw08_PostSets.l0 k3 l0 l1 t172 t175 t178 (wrap64 (x8_3 + 1)))))) = some r := H
                          have A62 := Aside0.mk A620
                          clear A620
                          by_cases c63 : (t189 != false) = true
                          · rw [if_pos c63] at H
                            have c63b0 : (t189 != false) = true := c63
                            (try (have c63b1 : decide (t189 = false) = false := by simpa using c63))
                            (try (have c63b2 : (t189 == false) = false := by simpa using c63))
                            (try (have c63b3 : ¬ (t189 = false) := by simpa using c63))
                            clear c63
                            obtain rfl := Option.some.inj H
                            obtain ⟨Ao64, co64, eo64⟩ := Kd.R_slice HO_6.out
                            subst eo64
                            have p184 : 0 ≤ (x8_3 : Int) := of_decide_eq_true (by first | (with_reducible assumption) | assumption)
                            have q184 : x8_3 < (t175.length : Int) := of_decide_eq_true (by first | (with_reducible assumption) | assumption)
                            obtain ⟨ad184, e184, hx184_0⟩ := Kd.at_int (Kd.R_reads' HO_6.out).2.2 x8_3 p184 q184
                            cases e184
                            replace p184 := eq_true p184
                            replace q184 := eq_true q184
                            go_wp2_with (first | ((with_reducible refine gate_callee (f := 49) rfl ?_); refine goesL_ (some 90) rfl rfl Try.func49 (by kernel_rfl) rfl #[.slice A0 l0.length c0, .int .i64 (rd t175 x8_3)] rfl (by (try simp only [List.map_toArray, List.map_cons, List.map_nil]); first | done | rfl | (simp only [List.length_drop, List.length_take]; rfl)) ?_; (with_reducible refine (fascineref08_In.calls k3 _ _ l0 (rd t175 x8_3) false _ ?side1 ?side2 A46.out).mono ?_); (case side1 => repeat (first | exact (Kd.C_below HR0.out HB.out) | (with_reducible refine Kd.C_alloc ?_ _) | (with_reducible refine Kd.C_drewN ?_ _) | (with_reducible refine Kd.C_drew ?_))); (case side2 => exact HC0.out); rintro e w' ⟨rfl, ⟨nd, rfl⟩⟩; refine ⟨_, rfl, ?_⟩) | ((with_reducible refine gate_callee (f := 49) rfl ?_); refine goesL_ (some 93) rfl rfl Try.func49 (by kernel_rfl) rfl #[.slice A1 l1.length c1, .int .i64 (rd t175 x8_3)] rfl (by (try simp only [List.map_toArray, List.map_cons, List.map_nil]); first | done | rfl | (simp only [List.length_drop, List.length_take]; rfl)) ?_; (with_reducible refine (fascineref08_In.calls k3 _ _ l1 (rd t175 x8_3) true _ ?side1 ?side2 A47.out).mono ?_); (case side1 => repeat (first | exact (Kd.C_below HR1.out (by repeat (first | (with_reducible first | exact HB.out | apply below_alloc | apply pw_below_drewN | apply below_drew1) | exact HB.out))) | (with_reducible refine Kd.C_alloc ?_ _) | (with_reducible refine Kd.C_drewN ?_ _) | (with_reducible refine Kd.C_drew ?_))); (case side2 => exact HC1.out); rintro e w' ⟨rfl, ⟨nd, rfl⟩⟩; refine ⟨_, rfl, ?_⟩; obtain ⟨Ao65, co65, eo65⟩ := Kd.R_slice HO_5.out; subst eo65) | (go_at_call 49; (with_reducible refine (fascineref08_In.calls k3 _ _ t172 (rd t175 x8_3) t189 _ ?side1 ?side2 A62.out).mono ?_); (case side1 => repeat (first | exact (Kd.R_reads' HO_5.out).2.2 | (with_reducible refine Kd.C_alloc ?_ _) | (with_reducible refine Kd.C_drewN ?_ _) | (with_reducible refine Kd.C_drew ?_))); (case side2 => exact (Kd.R_reads' HO_5.out).2.1); rintro e w' ⟨rfl, ⟨nd, rfl⟩⟩))
                            go_ret
                            exact ⟨by first | rfl | (simp [errW_none, errW_some] <;> rfl) | (simp [*, errW_none, errW_some] <;> rfl), by repeat (first | (with_reducible first | exact HB.out | apply below_alloc | apply pw_below_drewN | apply below_drew1) | exact HB.out)⟩
                          · rw [if_neg c63] at H
                            have c63b0 : (t189 != false) = false := (by first | exact Bool.eq_false_iff.mpr c63 | simpa using c63)
                            (try (have c63b1 : decide (t189 = false) = true := by simpa using c63))
                            (try (have c63b2 : (t189 == false) = true := by simpa using c63))
                            clear c63
                            replace H := Option.bind_eq_some_iff.mp H
                            obtain ⟨t190, A660, H⟩ := H
                            replace H : (if (t190 != false) = true then (some false) else (fascinelaw08_PostSets.l0 k3 l0 l1 t172 t175 t178 (wrap64 (x8_3 + 1)))) = some r := H
                            have A66 := Aside0.mk A660
                            clear A660
                            by_cases c67 : (t190 != false) = true
                            · rw [if_pos c67] at H
                              have c67b0 : (t190 != false) = true := c67
                              (try (have c67b1 : decide (t190 = false) = false := by simpa using c67))
                              (try (have c67b2 : (t190 == false) = false := by simpa using c67))
                              (try (have c67b3 : ¬ (t190 = false) := by simpa using c67))
                              clear c67
                              obtain rfl := Option.some.inj H
                              obtain ⟨Ao68, co68, eo68⟩ := Kd.R_slice HO_6.out
                              subst eo68
                              have p184 : 0 ≤ (x8_3 : Int) := of_decide_eq_true (by first | (with_reducible assumption) | assumption)
                              have q184 : x8_3 < (t175.length : Int) := of_decide_eq_true (by first | (with_reducible assumption) | assumption)
                              obtain ⟨ad184, e184, hx184_0⟩ := Kd.at_int (Kd.R_reads' HO_6.out).2.2 x8_3 p184 q184
                              cases e184
                              replace p184 := eq_true p184
                              replace q184 := eq_true q184
                              go_wp2_with (first | ((with_reducible refine gate_callee (f := 49) rfl ?_); refine goesL_ (some 90) rfl rfl Try.func49 (by kernel_rfl) rfl #[.slice A0 l0.length c0, .int .i64 (rd t175 x8_3)] rfl (by (try simp only [List.map_toArray, List.map_cons, List.map_nil]); first | done | rfl | (simp only [List.length_drop, List.length_take]; rfl)) ?_; (with_reducible refine (fascineref08_In.calls k3 _ _ l0 (rd t175 x8_3) false _ ?side1 ?side2 A46.out).mono ?_); (case side1 => repeat (first | exact (Kd.C_below HR0.out HB.out) | (with_reducible refine Kd.C_alloc ?_ _) | (with_reducible refine Kd.C_drewN ?_ _) | (with_reducible refine Kd.C_drew ?_))); (case side2 => exact HC0.out); rintro e w' ⟨rfl, ⟨nd, rfl⟩⟩; refine ⟨_, rfl, ?_⟩) | ((with_reducible refine gate_callee (f := 49) rfl ?_); refine goesL_ (some 93) rfl rfl Try.func49 (by kernel_rfl) rfl #[.slice A1 l1.length c1, .int .i64 (rd t175 x8_3)] rfl (by (try simp only [List.map_toArray, List.map_cons, List.map_nil]); first | done | rfl | (simp only [List.length_drop, List.length_take]; rfl)) ?_; (with_reducible refine (fascineref08_In.calls k3 _ _ l1 (rd t175 x8_3) true _ ?side1 ?side2 A47.out).mono ?_); (case side1 => repeat (first | exact (Kd.C_below HR1.out (by repeat (first | (with_reducible first | exact HB.out | apply below_alloc | apply pw_below_drewN | apply below_drew1) | exact HB.out))) | (with_reducible refine Kd.C_alloc ?_ _) | (with_reducible refine Kd.C_drewN ?_ _) | (with_reducible refine Kd.C_drew ?_))); (case side2 => exact HC1.out); rintro e w' ⟨rfl, ⟨nd, rfl⟩⟩; refine ⟨_, rfl, ?_⟩; obtain ⟨Ao69, co69, eo69⟩ := Kd.R_slice HO_5.out; subst eo69) | (go_at_call 49; (with_reducible refine (fascineref08_In.calls k3 _ _ t172 (rd t175 x8_3) t189 _ ?side1 ?side2 A62.out).mono ?_); (case side1 => repeat (first | exact (Kd.R_reads' HO_5.out).2.2 | (with_reducible refine Kd.C_alloc ?_ _) | (with_reducible refine Kd.C_drewN ?_ _) | (with_reducible refine Kd.C_drew ?_))); (case side2 => exact (Kd.R_reads' HO_5.out).2.1); rintro e w' ⟨rfl, ⟨nd, rfl⟩⟩; obtain ⟨Ao70, co70, eo70⟩ := Kd.R_slice HO_7.out; subst eo70) | (go_at_call 49; (with_reducible refine (fascineref08_In.calls k3 _ _ t178 (rd t175 x8_3) t190 _ ?side1 ?side2 A66.out).mono ?_); (case side1 => repeat (first | exact (Kd.R_reads' HO_7.out).2.2 | (with_reducible refine Kd.C_alloc ?_ _) | (with_reducible refine Kd.C_drewN ?_ _) | (with_reducible refine Kd.C_drew ?_))); (case side2 => exact (Kd.R_reads' HO_7.out).2.1); rintro e w' ⟨rfl, ⟨nd, rfl⟩⟩))
                              go_ret
                              exact ⟨by first | rfl | (simp [errW_none, errW_some] <;> rfl) | (simp [*, errW_none, errW_some] <;> rfl), by repeat (first | (with_reducible first | exact HB.out | apply below_alloc | apply pw_below_drewN | apply below_drew1) | exact HB.out)⟩
                            · rw [if_neg c67] at H
                              have c67b0 : (t190 != false) = false := (by first | exact Bool.eq_false_iff.mpr c67 | simpa using c67)
                              (try (have c67b1 : decide (t190 = false) = true := by simpa using c67))
                              (try (have c67b2 : (t190 == false) = true := by simpa using c67))
                              clear c67
                              have H' := Aside0.mk H
                              clear H
                              obtain ⟨Ao71, co71, eo71⟩ := Kd.R_slice HO_6.out
                              subst eo71
                              have p184 : 0 ≤ (x8_3 : Int) := of_decide_eq_true (by first | (with_reducible assumption) | assumption)
                              have q184 : x8_3 < (t175.length : Int) := of_decide_eq_true (by first | (with_reducible assumption) | assumption)
                              obtain ⟨ad184, e184, hx184_0⟩ := Kd.at_int (Kd.R_reads' HO_6.out).2.2 x8_3 p184 q184
                              cases e184
                              replace p184 := eq_true p184
                              replace q184 := eq_true q184
                              go_wp2_with (first | ((with_reducible refine gate_callee (f := 49) rfl ?_); refine goesL_ (some 90) rfl rfl Try.func49 (by kernel_rfl) rfl #[.slice A0 l0.length c0, .int .i64 (rd t175 x8_3)] rfl (by (try simp only [List.map_toArray, List.map_cons, List.map_nil]); first | done | rfl | (simp only [List.length_drop, List.length_take]; rfl)) ?_; (with_reducible refine (fascineref08_In.calls k3 _ _ l0 (rd t175 x8_3) false _ ?side1 ?side2 A46.out).mono ?_); (case side1 => repeat (first | exact (Kd.C_below HR0.out HB.out) | (with_reducible refine Kd.C_alloc ?_ _) | (with_reducible refine Kd.C_drewN ?_ _) | (with_reducible refine Kd.C_drew ?_))); (case side2 => exact HC0.out); rintro e w' ⟨rfl, ⟨nd, rfl⟩⟩; refine ⟨_, rfl, ?_⟩) | ((with_reducible refine gate_callee (f := 49) rfl ?_); refine goesL_ (some 93) rfl rfl Try.func49 (by kernel_rfl) rfl #[.slice A1 l1.length c1, .int .i64 (rd t175 x8_3)] rfl (by (try simp only [List.map_toArray, List.map_cons, List.map_nil]); first | done | rfl | (simp only [List.length_drop, List.length_take]; rfl)) ?_; (with_reducible refine (fascineref08_In.calls k3 _ _ l1 (rd t175 x8_3) true _ ?side1 ?side2 A47.out).mono ?_); (case side1 => repeat (first | exact (Kd.C_below HR1.out (by repeat (first | (with_reducible first | exact HB.out | apply below_alloc | apply pw_below_drewN | apply below_drew1) | exact HB.out))) | (with_reducible refine Kd.C_alloc ?_ _) | (with_reducible refine Kd.C_drewN ?_ _) | (with_reducible refine Kd.C_drew ?_))); (case side2 => exact HC1.out); rintro e w' ⟨rfl, ⟨nd, rfl⟩⟩; refine ⟨_, rfl, ?_⟩; obtain ⟨Ao72, co72, eo72⟩ := Kd.R_slice HO_5.out; subst eo72) | (go_at_call 49; (with_reducible refine (fascineref08_In.calls k3 _ _ t172 (rd t175 x8_3) t189 _ ?side1 ?side2 A62.out).mono ?_); (case side1 => repeat (first | exact (Kd.R_reads' HO_5.out).2.2 | (with_reducible refine Kd.C_alloc ?_ _) | (with_reducible refine Kd.C_drewN ?_ _) | (with_reducible refine Kd.C_drew ?_))); (case side2 => exact (Kd.R_reads' HO_5.out).2.1); rintro e w' ⟨rfl, ⟨nd, rfl⟩⟩; obtain ⟨Ao73, co73, eo73⟩ := Kd.R_slice HO_7.out; subst eo73) | (go_at_call 49; (with_reducible refine (fascineref08_In.calls k3 _ _ t178 (rd t175 x8_3) t190 _ ?side1 ?side2 A66.out).mono ?_); (case side1 => repeat (first | exact (Kd.R_reads' HO_7.out).2.2 | (with_reducible refine Kd.C_alloc ?_ _) | (with_reducible refine Kd.C_drewN ?_ _) | (with_reducible refine Kd.C_drew ?_))); (case side2 => exact (Kd.R_reads' HO_7.out).2.1); rintro e w' ⟨rfl, ⟨nd, rfl⟩⟩))
                              go_roundg k3
                              case measure => have := HJ2.out; have := HJ19.out; have := HK3.out; omega
                              case rel => exact ⟨(wrap64 (x8_3 + 1)), (by first | rfl | (simp; done) | (simp [*]; done)), H', ⟨by have := HJ2.out; have := HJ19.out; have := HK3.out; omega⟩, ⟨by (with_reducible repeat (first | apply Kd.R_alloc | apply Kd.R_drewN | apply Kd.R_drew)); exact HO_5.out⟩, ⟨by (with_reducible repeat (first | apply Kd.R_alloc | apply Kd.R_drewN | apply Kd.R_drew)); exact HO_6.out⟩, ⟨by (with_reducible repeat (first | apply Kd.R_alloc | apply Kd.R_drewN | apply Kd.R_drew)); exact HO_7.out⟩, ⟨by repeat (first | (with_reducible first | exact HB.out | apply below_alloc | apply pw_below_drewN | apply below_drew1) | exact HB.out)⟩⟩
                        · replace c61 := Bool.eq_false_iff.mpr c61
                          subst c61
                          have H1 : (some false) = some r := by rw [if_neg (show ¬ (false = true) by decide)] at H; exact H
                          clear H
                          have H := H1
                          clear H1
                          obtain rfl := Option.some.inj H
                          obtain ⟨Ao74, co74, eo74⟩ := Kd.R_slice HO_6.out
                          subst eo74
                          have p184 : 0 ≤ (x8_3 : Int) := of_decide_eq_true (by first | (with_reducible assumption) | assumption)
                          have q184 : x8_3 < (t175.length : Int) := of_decide_eq_true (by first | (with_reducible assumption) | assumption)
                          obtain ⟨ad184, e184, hx184_0⟩ := Kd.at_int (Kd.R_reads' HO_6.out).2.2 x8_3 p184 q184
                          cases e184
                          replace p184 := eq_true p184
                          replace q184 := eq_true q184
                          go_wp2_with (first | ((with_reducible refine gate_callee (f := 49) rfl ?_); refine goesL_ (some 90) rfl rfl Try.func49 (by kernel_rfl) rfl #[.slice A0 l0.length c0, .int .i64 (rd t175 x8_3)] rfl (by (try simp only [List.map_toArray, List.map_cons, List.map_nil]); first | done | rfl | (simp only [List.length_drop, List.length_take]; rfl)) ?_; (with_reducible refine (fascineref08_In.calls k3 _ _ l0 (rd t175 x8_3) false _ ?side1 ?side2 A46.out).mono ?_); (case side1 => repeat (first | exact (Kd.C_below HR0.out HB.out) | (with_reducible refine Kd.C_alloc ?_ _) | (with_reducible refine Kd.C_drewN ?_ _) | (with_reducible refine Kd.C_drew ?_))); (case side2 => exact HC0.out); rintro e w' ⟨rfl, ⟨nd, rfl⟩⟩; refine ⟨_, rfl, ?_⟩) | ((with_reducible refine gate_callee (f := 49) rfl ?_); refine goesL_ (some 93) rfl rfl Try.func49 (by kernel_rfl) rfl #[.slice A1 l1.length c1, .int .i64 (rd t175 x8_3)] rfl (by (try simp only [List.map_toArray, List.map_cons, List.map_nil]); first | done | rfl | (simp only [List.length_drop, List.length_take]; rfl)) ?_; (with_reducible refine (fascineref08_In.calls k3 _ _ l1 (rd t175 x8_3) false _ ?side1 ?side2 A47.out).mono ?_); (case side1 => repeat (first | exact (Kd.C_below HR1.out (by repeat (first | (with_reducible first | exact HB.out | apply below_alloc | apply pw_below_drewN | apply below_drew1) | exact HB.out))) | (with_reducible refine Kd.C_alloc ?_ _) | (with_reducible refine Kd.C_drewN ?_ _) | (with_reducible refine Kd.C_drew ?_))); (case side2 => exact HC1.out); rintro e w' ⟨rfl, ⟨nd, rfl⟩⟩; refine ⟨_, rfl, ?_⟩))
                          go_ret
                          exact ⟨by first | rfl | (simp [errW_none, errW_some] <;> rfl) | (simp [*, errW_none, errW_some] <;> rfl), by repeat (first | (with_reducible first | exact HB.out | apply below_alloc | apply pw_below_drewN | apply below_drew1) | exact HB.out)⟩
                    · rw [if_neg c45] at H
                      exact absurd H (by simp)
                  · rw [if_neg c44] at H
                    have c44b0 : decide (x8_3 < (t175.length : Int)) = false := decide_eq_false c44
                    clear c44
                    obtain rfl := Option.some.inj H
                    obtain ⟨Ao75, co75, eo75⟩ := Kd.R_slice HO_6.out
                    subst eo75
                    go_wp2
                    go_ret
                    exact ⟨by first | rfl | (simp [errW_none, errW_some] <;> rfl) | (simp [*, errW_none, errW_some] <;> rfl), by repeat (first | (with_reducible first | exact HB.out | apply below_alloc | apply pw_below_drewN | apply below_drew1) | exact HB.out)⟩

/-- THE ONE PURE STATEMENT of fascinelaw08_PostSets: yours. -/
def fascinelaw08_PostSets.Pure : Prop := ∀ (l0 : List Int) (l1 : List Int), l0.length ≤ maxLen → l0.length * 8 ≤ 140737488351232 → (∀ x ∈ l0, (Lit.int .i64 x).wf = true) → l1.length ≤ maxLen → l1.length * 8 ≤ 140737488351232 → (∀ x ∈ l1, (Lit.int .i64 x).wf = true) → ∃ k, fascinelaw08_PostSets.f k l0 l1 = some true
theorem fascinelaw08_PostSets.walk (P : fascinelaw08_PostSets.Pure) (a0 : Option Addr) (len0 cap0 : Nat) (z0 : List Int) (a1 : Option Addr) (len1 cap1 : Nat) (z1 : List Int) (w : World) (w0 : (a0 = none ∧ len0 = 0 ∧ cap0 = 0 ∧ z0 = []) ∨ ∃ x, a0 = some x ∧ len0 ≤ cap0 ∧ cap0 ≤ maxLen ∧ z0.length = cap0 ∧ (∀ i, i < z0.length → w.cell? (x.add i) = some (.int .i64 (z0.getD i 0))) ∧ ∀ n ∈ z0, (Lit.int .i64 n).wf = true) (y0 : len0 * 8 ≤ 140737488351232) (w1 : (a1 = none ∧ len1 = 0 ∧ cap1 = 0 ∧ z1 = []) ∨ ∃ x, a1 = some x ∧ len1 ≤ cap1 ∧ cap1 ≤ maxLen ∧ z1.length = cap1 ∧ (∀ i, i < z1.length → w.cell? (x.add i) = some (.int .i64 (z1.getD i 0))) ∧ ∀ n ∈ z1, (Lit.int .i64 n).wf = true) (y1 : len1 * 8 ≤ 140737488351232) :
    Calls Try.prog 14 #[.slice a0 len0 cap0, .slice a1 len1 cap1] w fun e w' => e = .returned (.bool true) ∧ Below w.heap.size w w' := by
  obtain ⟨l0, rfl, hr0, hm0, hw0, hc0⟩ := ReadsInt.ofRowC w0
  obtain ⟨l1, rfl, hr1, hm1, hw1, hc1⟩ := ReadsInt.ofRowC w1
  obtain ⟨k, h⟩ := P l0 l1 hm0 y0 hw0 hm1 y1 hw1
  refine (fascinelaw08_PostSets.calls k _ _ l0 _ _ l1 true w (Kd.C_of_reads (d := (0 : Int)) (h1 := fun _ => rfl) hr0) hc0 (Kd.C_of_reads (d := (0 : Int)) (h1 := fun _ => rfl) hr1) hc1 h).mono ?_
  rintro e w' ⟨rfl, hd⟩
  exact ⟨rfl, hd⟩

end Go.Proofs.Ytifbpjkgckkalaa.PPostSets
