-- WRITTEN BY A PROGRAM OF THIS SESSION (wip/patch_print.py: the kit's printer with rules of this session's own); Lean checks it.
import Derived.Laws.Cover1
import Derived.Test.YtpkjfpapjcmhdaaDoorPWordsAlonex0
import Derived.Test.YtpkjfpapjcmhdaaDoorPWordsAlonex1
import Derived.Test.YtpkjfpapjcmhdaaDoorPWordsAlonex2
namespace Go.Proofs.YtpkjfpapjcmhdaaDoor.PWordsAlone
open Go.RowKit Go.Proofs.YtpkjfpapjcmhdaaDoorW.PrintWords Go.Proofs.YtpkjfpapjcmhdaaDoorW.PrintLast Go.Proofs.YtpkjfpapjcmhdaaDoorW.PrintMore
open Go.Proofs.YtpkjfpapjcmhdaaDoor.G
attribute [local go_sem] max2_int min2_int max_two min_two max_three min_three max_four min_four   -- for this text's walks alone
set_option linter.unusedVariables false
set_option linter.unusedSimpArgs false

/-! ### words_One: function 18 -/
def words_One.f (k : Nat) (a0 : ByteArray) : Option (Bool) := (words_Words.f k a0).bind fun t138 => (if (t138.length : Int) = 1 then (if 0 < (t138.length : Int) then (some (((rd_T34 t138 0).f0).toList == a0.toList)) else (none)) else (some false))
theorem words_One.mono : ∀ a0 k, LeO (words_One.f k a0) (words_One.f (k + 1) a0) := by
  intro a0 k
  unfold words_One.f
  repeat' first
      | (with_reducible exact words_Words.mono _ _)
      | (with_reducible exact LeO.refl _)
      | (with_reducible exact LeO.none _)
      | (with_reducible refine LeO.ite ?_ ?_)
      | (with_reducible refine LeO.bind ?_ (fun _ => ?_))
      | exact words_Words.mono _ _
      | exact LeO.none _
      | refine LeO.ite ?_ ?_
      | refine LeO.bind ?_ (fun _ => ?_)
set_option maxHeartbeats 8000000 in
set_option maxRecDepth 100000 in
theorem words_One.calls (k : Nat) (a0 : ByteArray) (r : Bool) (w : World) (hT : tabs w) (h : words_One.f k a0 = some r) :
    Calls Tryd.prog 18 #[.string a0] w fun e w' => e = .returned (.bool r) ∧ Below w.heap.size w w' := by
  have HT := Aside0.mk hT
  clear hT
  have HB := Aside0.mk (Below.refl w.heap.size w)
  have H : ((words_Words.f k a0).bind fun t138 => (if (t138.length : Int) = 1 then (if 0 < (t138.length : Int) then (some (((rd_T34 t138 0).f0).toList == a0.toList)) else (none)) else (some false))) = some r := h
  clear h
  replace H := Option.bind_eq_some_iff.mp H
  obtain ⟨t138, A20, H⟩ := H
  replace H : (if (t138.length : Int) = 1 then (if 0 < (t138.length : Int) then (some (((rd_T34 t138 0).f0).toList == a0.toList)) else (none)) else (some false)) = some r := H
  have A2 := Aside0.mk A20
  clear A20
  by_cases c3 : (t138.length : Int) = 1
  · rw [if_pos c3] at H
    have c3b0 : ((t138.length : Int) == 1) = true := beq_iff_eq.mpr c3
    have c3b1 : ((t138.length : Int) != 1) = false := bne_eq_false_iff_eq.mpr c3
    clear c3
    by_cases c4 : 0 < (t138.length : Int)
    · rw [if_pos c4] at H
      have c4b0 : decide (0 < (t138.length : Int)) = true := decide_eq_true c4
      have c4b1 : decide (0 < t138.length) = true := decide_eq_true (by omega)
      clear c4
      obtain rfl := Option.some.inj H
      go_enter Tryd.func18, Tryd.ntmps18
      go_wp2_with (first | ((with_reducible refine gate_callee (f := 17) rfl ?_); refine goesL_ (some 5) rfl rfl Tryd.func17 (by kernel_rfl) rfl #[.string a0] rfl (by (try simp only [List.map_toArray, List.map_cons, List.map_nil]); first | done | rfl | (simp only [List.length_drop, List.length_take]; rfl)) ?_; (with_reducible refine (words_Words.calls k a0 t138 _ ?side1 A2.out).mono ?_); (case side1 => first | exact HT.out | exact tabs_below HT.out (by repeat (first | (with_reducible first | exact HB.out | apply below_alloc | apply pw_below_drewN | apply below_drew1) | exact HB.out))); rintro e w5 ⟨v139, rfl, ho0, hb⟩; refine ⟨_, rfl, ?_⟩; have n0_ := Aside0.mk (Kd.R_lower ho0 (below_size (by repeat (first | (with_reducible first | exact HB.out | apply below_alloc | apply pw_below_drewN | apply below_drew1) | exact HB.out)))); have n1_ := Aside0.mk (below_step (by repeat (first | (with_reducible first | exact HB.out | apply below_alloc | apply pw_below_drewN | apply below_drew1) | exact HB.out)) hb); clear HB; have HO140 := n0_; have HB := n1_; clear n0_ n1_; (try clear hb); (try clear hb2); (try clear hk); (try clear hi); (try clear ho0); obtain ⟨Ao6, co6, eo6⟩ := Kd.R_slice HO140.out; subst eo6; have p141 : 0 ≤ (0 : Int) := (by omega); have q141 : 0 < (t138.length : Int) := of_decide_eq_true (by first | (with_reducible assumption) | assumption); obtain ⟨ad141, e141, hx141_0, hx141_1, hx141_2⟩ := at_T34 (Kd.R_reads' HO140.out).2.2 0 p141 q141; cases e141; have qi141 : (0 < t138.length) = True := eq_true (by omega); (try rw [show ((0 : Int)).toNat = 0 from rfl] at hx141_0); (try rw [show 0 * 3 = 0 from rfl] at hx141_0); (try rw [Addr.add_zero'] at hx141_0); (try rw [show ((0 : Int)).toNat = 0 from rfl] at hx141_1); (try rw [show 0 * 3 = 0 from rfl] at hx141_1); (try rw [Addr.add_zero'] at hx141_1); (try rw [show ((0 : Int)).toNat = 0 from rfl] at hx141_2); (try rw [show 0 * 3 = 0 from rfl] at hx141_2); (try rw [Addr.add_zero'] at hx141_2); replace p141 := eq_true p141; replace q141 := eq_true q141))
      go_ret
      exact ⟨by first | rfl | (simp [errW_none, errW_some] <;> rfl) | (simp [*, errW_none, errW_some] <;> rfl), by repeat (first | (with_reducible first | exact HB.out | apply below_alloc | apply pw_below_drewN | apply below_drew1) | exact HB.out)⟩
    · rw [if_neg c4] at H
      exact absurd H (by simp)
  · rw [if_neg c3] at H
    have c3b0 : ((t138.length : Int) == 1) = false := beq_eq_false_iff_ne.mpr c3
    have c3b1 : ((t138.length : Int) != 1) = true := bne_iff_ne.mpr c3
    obtain rfl := Option.some.inj H
    go_enter Tryd.func18, Tryd.ntmps18
    go_wp2_with (first | ((with_reducible refine gate_callee (f := 17) rfl ?_); refine goesL_ (some 5) rfl rfl Tryd.func17 (by kernel_rfl) rfl #[.string a0] rfl (by (try simp only [List.map_toArray, List.map_cons, List.map_nil]); first | done | rfl | (simp only [List.length_drop, List.length_take]; rfl)) ?_; (with_reducible refine (words_Words.calls k a0 t138 _ ?side1 A2.out).mono ?_); (case side1 => first | exact HT.out | exact tabs_below HT.out (by repeat (first | (with_reducible first | exact HB.out | apply below_alloc | apply pw_below_drewN | apply below_drew1) | exact HB.out))); rintro e w7 ⟨v139, rfl, ho0, hb⟩; refine ⟨_, rfl, ?_⟩; have n0_ := Aside0.mk (Kd.R_lower ho0 (below_size (by repeat (first | (with_reducible first | exact HB.out | apply below_alloc | apply pw_below_drewN | apply below_drew1) | exact HB.out)))); have n1_ := Aside0.mk (below_step (by repeat (first | (with_reducible first | exact HB.out | apply below_alloc | apply pw_below_drewN | apply below_drew1) | exact HB.out)) hb); clear HB; have HO140 := n0_; have HB := n1_; clear n0_ n1_; (try clear hb); (try clear hb2); (try clear hk); (try clear hi); (try clear ho0); obtain ⟨Ao8, co8, eo8⟩ := Kd.R_slice HO140.out; subst eo8))
    go_ret
    exact ⟨by first | rfl | (simp [errW_none, errW_some] <;> rfl) | (simp [*, errW_none, errW_some] <;> rfl), by repeat (first | (with_reducible first | exact HB.out | apply below_alloc | apply pw_below_drewN | apply below_drew1) | exact HB.out)⟩

/-! ### fascinelaw05_awake: function 11 -/
def fascinelaw05_awake.f (k : Nat)  : Option (Bool) := (words_Terms.f k (⟨#[82, 101, 100, 32, 97, 112, 112, 108, 101, 61, 71, 82, 69, 69, 78, 32, 114, 101, 100]⟩ : ByteArray)).bind fun t142 => (if (t142.length : Int) = 4 then (if 1 < (t142.length : Int) then (if (rdOf ByteArray.empty t142 1).toList = ([97, 112, 112, 108, 101, 61, 103, 114, 101, 101, 110] : List UInt8) then ((words_One.f k (⟨#[82, 101, 100]⟩ : ByteArray)).bind fun t146 => (some (!t146))) else (some false)) else (none)) else (some false))
theorem fascinelaw05_awake.mono : ∀ k, LeO (fascinelaw05_awake.f k ) (fascinelaw05_awake.f (k + 1) ) := by
  intro  k
  unfold fascinelaw05_awake.f
  repeat' first
      | (with_reducible exact words_One.mono _ _)
      | (with_reducible exact words_Terms.mono _ _)
      | (with_reducible exact LeO.refl _)
      | (with_reducible exact LeO.none _)
      | (with_reducible refine LeO.ite ?_ ?_)
      | (with_reducible refine LeO.bind ?_ (fun _ => ?_))
      | exact words_One.mono _ _
      | exact words_Terms.mono _ _
      | exact LeO.none _
      | refine LeO.ite ?_ ?_
      | refine LeO.bind ?_ (fun _ => ?_)
set_option maxHeartbeats 8000000 in
set_option maxRecDepth 100000 in
theorem fascinelaw05_awake.calls (k : Nat)  (r : Bool) (w : World) (hT : tabs w) (h : fascinelaw05_awake.f k  = some r) :
    Calls Tryd.prog 11 #[] w fun e w' => e = .returned (.bool r) ∧ Below w.heap.size w w' := by
  have HT := Aside0.mk hT
  clear hT
  have HB := Aside0.mk (Below.refl w.heap.size w)
  have H : ((words_Terms.f k (⟨#[82, 101, 100, 32, 97, 112, 112, 108, 101, 61, 71, 82, 69, 69, 78, 32, 114, 101, 100]⟩ : ByteArray)).bind fun t142 => (if (t142.length : Int) = 4 then (if 1 < (t142.length : Int) then (if (rdOf ByteArray.empty t142 1).toList = ([97, 112, 112, 108, 101, 61, 103, 114, 101, 101, 110] : List UInt8) then ((words_One.f k (⟨#[82, 101, 100]⟩ : ByteArray)).bind fun t146 => (some (!t146))) else (some false)) else (none)) else (some false))) = some r := h
  clear h
  replace H := Option.bind_eq_some_iff.mp H
  obtain ⟨t142, A10, H⟩ := H
  replace H : (if (t142.length : Int) = 4 then (if 1 < (t142.length : Int) then (if (rdOf ByteArray.empty t142 1).toList = ([97, 112, 112, 108, 101, 61, 103, 114, 101, 101, 110] : List UInt8) then ((words_One.f k (⟨#[82, 101, 100]⟩ : ByteArray)).bind fun t146 => (some (!t146))) else (some false)) else (none)) else (some false)) = some r := H
  have A1 := Aside0.mk A10
  clear A10
  by_cases c2 : (t142.length : Int) = 4
  · rw [if_pos c2] at H
    have c2b0 : ((t142.length : Int) == 4) = true := beq_iff_eq.mpr c2
    have c2b1 : ((t142.length : Int) != 4) = false := bne_eq_false_iff_eq.mpr c2
    clear c2
    by_cases c3 : 1 < (t142.length : Int)
    · rw [if_pos c3] at H
      have c3b0 : decide (1 < (t142.length : Int)) = true := decide_eq_true c3
      have c3b1 : decide (1 < t142.length) = true := decide_eq_true (by omega)
      clear c3
      by_cases c4 : (rdOf ByteArray.empty t142 1).toList = ([97, 112, 112, 108, 101, 61, 103, 114, 101, 101, 110] : List UInt8)
      · rw [if_pos c4] at H
        have c4b0 : ((rdOf ByteArray.empty t142 1).toList == ([97, 112, 112, 108, 101, 61, 103, 114, 101, 101, 110] : List UInt8)) = true := beq_iff_eq.mpr c4
        have c4b1 : ((rdOf ByteArray.empty t142 1).toList != ([97, 112, 112, 108, 101, 61, 103, 114, 101, 101, 110] : List UInt8)) = false := bne_eq_false_iff_eq.mpr c4
        clear c4
        replace H := Option.bind_eq_some_iff.mp H
        obtain ⟨t146, A50, H⟩ := H
        replace H : (some (!t146)) = some r := H
        have A5 := Aside0.mk A50
        clear A50
        obtain rfl := Option.some.inj H
        go_enter Tryd.func11, Tryd.ntmps11
        go_wp2_with (first | ((with_reducible refine gate_callee (f := 12) rfl ?_); refine goesL_ (some 2) rfl rfl Tryd.func12 (by kernel_rfl) rfl #[.string (⟨#[82, 101, 100, 32, 97, 112, 112, 108, 101, 61, 71, 82, 69, 69, 78, 32, 114, 101, 100]⟩ : ByteArray)] rfl (by (try simp only [List.map_toArray, List.map_cons, List.map_nil]); first | done | rfl | (simp only [List.length_drop, List.length_take]; rfl)) ?_; (with_reducible refine (words_Terms.calls k (⟨#[82, 101, 100, 32, 97, 112, 112, 108, 101, 61, 71, 82, 69, 69, 78, 32, 114, 101, 100]⟩ : ByteArray) t142 _ ?side1 A1.out).mono ?_); (case side1 => first | exact HT.out | exact tabs_below HT.out (by repeat (first | (with_reducible first | exact HB.out | apply below_alloc | apply pw_below_drewN | apply below_drew1) | exact HB.out))); rintro e w6 ⟨v143, rfl, ho0, hb⟩; refine ⟨_, rfl, ?_⟩; have n0_ := Aside0.mk (Kd.R_lower ho0 (below_size (by repeat (first | (with_reducible first | exact HB.out | apply below_alloc | apply pw_below_drewN | apply below_drew1) | exact HB.out)))); have n1_ := Aside0.mk (below_step (by repeat (first | (with_reducible first | exact HB.out | apply below_alloc | apply pw_below_drewN | apply below_drew1) | exact HB.out)) hb); clear HB; have HO144 := n0_; have HB := n1_; clear n0_ n1_; (try clear hb); (try clear hb2); (try clear hk); (try clear hi); (try clear ho0); obtain ⟨Ao7, co7, eo7⟩ := Kd.R_slice HO144.out; subst eo7; have p145 : 0 ≤ (1 : Int) := (by omega); have q145 : 1 < (t142.length : Int) := of_decide_eq_true (by first | (with_reducible assumption) | assumption); obtain ⟨ad145, e145, hx145_0⟩ := Kd.at_string (Kd.R_reads' HO144.out).2.2 1 p145 q145; cases e145; (try simp only [show (1 : Int).toNat = 1 from rfl, Nat.reduceMul, Nat.reduceEqDiff, Go.Addr.add, ↓reduceIte] at hx145_0); have qi145 : (1 < t142.length) = True := eq_true (by omega); (try rw [show ((1 : Int)).toNat = 1 from rfl] at hx145_0); replace p145 := eq_true p145; replace q145 := eq_true q145) | (go_at_call 18; (with_reducible refine (words_One.calls k (⟨#[82, 101, 100]⟩ : ByteArray) t146 _ ?side1 A5.out).mono ?_); (case side1 => first | exact HT.out | exact tabs_below HT.out (by repeat (first | (with_reducible first | exact HB.out | apply below_alloc | apply pw_below_drewN | apply below_drew1) | exact HB.out))); rintro e w8 ⟨rfl, hb⟩; have n0_ := Aside0.mk (Kd.R_below (by (with_reducible repeat (first | apply Kd.R_alloc | apply Kd.R_drewN | apply Kd.R_drew)); exact HO144.out) hb); have n1_ := Aside0.mk (below_step (by repeat (first | (with_reducible first | exact HB.out | apply below_alloc | apply pw_below_drewN | apply below_drew1) | exact HB.out)) hb); clear HO144; clear HB; have HO144 := n0_; have HB := n1_; clear n0_ n1_; (try clear hb); (try clear hb2); (try clear hk); (try clear hi)))
        go_ret
        exact ⟨by first | rfl | (simp [errW_none, errW_some] <;> rfl) | (simp [*, errW_none, errW_some] <;> rfl), by repeat (first | (with_reducible first | exact HB.out | apply below_alloc | apply pw_below_drewN | apply below_drew1) | exact HB.out)⟩
      · rw [if_neg c4] at H
        have c4b0 : ((rdOf ByteArray.empty t142 1).toList == ([97, 112, 112, 108, 101, 61, 103, 114, 101, 101, 110] : List UInt8)) = false := beq_eq_false_iff_ne.mpr c4
        have c4b1 : ((rdOf ByteArray.empty t142 1).toList != ([97, 112, 112, 108, 101, 61, 103, 114, 101, 101, 110] : List UInt8)) = true := bne_iff_ne.mpr c4
        obtain rfl := Option.some.inj H
        go_enter Tryd.func11, Tryd.ntmps11
        go_wp2_with (first | ((with_reducible refine gate_callee (f := 12) rfl ?_); refine goesL_ (some 2) rfl rfl Tryd.func12 (by kernel_rfl) rfl #[.string (⟨#[82, 101, 100, 32, 97, 112, 112, 108, 101, 61, 71, 82, 69, 69, 78, 32, 114, 101, 100]⟩ : ByteArray)] rfl (by (try simp only [List.map_toArray, List.map_cons, List.map_nil]); first | done | rfl | (simp only [List.length_drop, List.length_take]; rfl)) ?_; (with_reducible refine (words_Terms.calls k (⟨#[82, 101, 100, 32, 97, 112, 112, 108, 101, 61, 71, 82, 69, 69, 78, 32, 114, 101, 100]⟩ : ByteArray) t142 _ ?side1 A1.out).mono ?_); (case side1 => first | exact HT.out | exact tabs_below HT.out (by repeat (first | (with_reducible first | exact HB.out | apply below_alloc | apply pw_below_drewN | apply below_drew1) | exact HB.out))); rintro e w9 ⟨v143, rfl, ho0, hb⟩; refine ⟨_, rfl, ?_⟩; have n0_ := Aside0.mk (Kd.R_lower ho0 (below_size (by repeat (first | (with_reducible first | exact HB.out | apply below_alloc | apply pw_below_drewN | apply below_drew1) | exact HB.out)))); have n1_ := Aside0.mk (below_step (by repeat (first | (with_reducible first | exact HB.out | apply below_alloc | apply pw_below_drewN | apply below_drew1) | exact HB.out)) hb); clear HB; have HO144 := n0_; have HB := n1_; clear n0_ n1_; (try clear hb); (try clear hb2); (try clear hk); (try clear hi); (try clear ho0); obtain ⟨Ao10, co10, eo10⟩ := Kd.R_slice HO144.out; subst eo10; have p145 : 0 ≤ (1 : Int) := (by omega); have q145 : 1 < (t142.length : Int) := of_decide_eq_true (by first | (with_reducible assumption) | assumption); obtain ⟨ad145, e145, hx145_0⟩ := Kd.at_string (Kd.R_reads' HO144.out).2.2 1 p145 q145; cases e145; (try simp only [show (1 : Int).toNat = 1 from rfl, Nat.reduceMul, Nat.reduceEqDiff, Go.Addr.add, ↓reduceIte] at hx145_0); have qi145 : (1 < t142.length) = True := eq_true (by omega); (try rw [show ((1 : Int)).toNat = 1 from rfl] at hx145_0); replace p145 := eq_true p145; replace q145 := eq_true q145))
        go_ret
        exact ⟨by first | rfl | (simp [errW_none, errW_some] <;> rfl) | (simp [*, errW_none, errW_some] <;> rfl), by repeat (first | (with_reducible first | exact HB.out | apply below_alloc | apply pw_below_drewN | apply below_drew1) | exact HB.out)⟩
    · rw [if_neg c3] at H
      exact absurd H (by simp)
  · rw [if_neg c2] at H
    have c2b0 : ((t142.length : Int) == 4) = false := beq_eq_false_iff_ne.mpr c2
    have c2b1 : ((t142.length : Int) != 4) = true := bne_iff_ne.mpr c2
    obtain rfl := Option.some.inj H
    go_enter Tryd.func11, Tryd.ntmps11
    go_wp2_with (first | ((with_reducible refine gate_callee (f := 12) rfl ?_); refine goesL_ (some 2) rfl rfl Tryd.func12 (by kernel_rfl) rfl #[.string (⟨#[82, 101, 100, 32, 97, 112, 112, 108, 101, 61, 71, 82, 69, 69, 78, 32, 114, 101, 100]⟩ : ByteArray)] rfl (by (try simp only [List.map_toArray, List.map_cons, List.map_nil]); first | done | rfl | (simp only [List.length_drop, List.length_take]; rfl)) ?_; (with_reducible refine (words_Terms.calls k (⟨#[82, 101, 100, 32, 97, 112, 112, 108, 101, 61, 71, 82, 69, 69, 78, 32, 114, 101, 100]⟩ : ByteArray) t142 _ ?side1 A1.out).mono ?_); (case side1 => first | exact HT.out | exact tabs_below HT.out (by repeat (first | (with_reducible first | exact HB.out | apply below_alloc | apply pw_below_drewN | apply below_drew1) | exact HB.out))); rintro e w11 ⟨v143, rfl, ho0, hb⟩; refine ⟨_, rfl, ?_⟩; have n0_ := Aside0.mk (Kd.R_lower ho0 (below_size (by repeat (first | (with_reducible first | exact HB.out | apply below_alloc | apply pw_below_drewN | apply below_drew1) | exact HB.out)))); have n1_ := Aside0.mk (below_step (by repeat (first | (with_reducible first | exact HB.out | apply below_alloc | apply pw_below_drewN | apply below_drew1) | exact HB.out)) hb); clear HB; have HO144 := n0_; have HB := n1_; clear n0_ n1_; (try clear hb); (try clear hb2); (try clear hk); (try clear hi); (try clear ho0); obtain ⟨Ao12, co12, eo12⟩ := Kd.R_slice HO144.out; subst eo12))
    go_ret
    exact ⟨by first | rfl | (simp [errW_none, errW_some] <;> rfl) | (simp [*, errW_none, errW_some] <;> rfl), by repeat (first | (with_reducible first | exact HB.out | apply below_alloc | apply pw_below_drewN | apply below_drew1) | exact HB.out)⟩

/-! ### words_Pair: function 20 -/
def words_Pair.f (k : Nat) (a0 : ByteArray) : Option (Bool) := (words_Words.f k a0).bind fun t147 => (if (t147.length : Int) = 2 then (if 0 < (t147.length : Int) then (if ((rd_T34 t147 0).f0).size + 1 ≤ 9223372036854775807 then (if 1 < (t147.length : Int) then (if ((rd_T34 t147 0).f0).size + 1 + ((rd_T34 t147 1).f0).size ≤ 9223372036854775807 then (some (((((rd_T34 t147 0).f0) ++ (⟨#[61]⟩ : ByteArray)) ++ ((rd_T34 t147 1).f0)).toList == a0.toList)) else (none)) else (none)) else (none)) else (none)) else (some false))
theorem words_Pair.mono : ∀ a0 k, LeO (words_Pair.f k a0) (words_Pair.f (k + 1) a0) := by
  intro a0 k
  unfold words_Pair.f
  repeat' first
      | (with_reducible exact words_Words.mono _ _)
      | (with_reducible exact LeO.refl _)
      | (with_reducible exact LeO.none _)
      | (with_reducible refine LeO.ite ?_ ?_)
      | (with_reducible refine LeO.bind ?_ (fun _ => ?_))
      | exact words_Words.mono _ _
      | exact LeO.none _
      | refine LeO.ite ?_ ?_
      | refine LeO.bind ?_ (fun _ => ?_)
set_option maxHeartbeats 8000000 in
set_option maxRecDepth 100000 in
theorem words_Pair.calls (k : Nat) (a0 : ByteArray) (r : Bool) (w : World) (hT : tabs w) (h : words_Pair.f k a0 = some r) :
    Calls Tryd.prog 20 #[.string a0] w fun e w' => e = .returned (.bool r) ∧ Below w.heap.size w w' := by
  have HT := Aside0.mk hT
  clear hT
  have HB := Aside0.mk (Below.refl w.heap.size w)
  have H : ((words_Words.f k a0).bind fun t147 => (if (t147.length : Int) = 2 then (if 0 < (t147.length : Int) then (if ((rd_T34 t147 0).f0).size + 1 ≤ 9223372036854775807 then (if 1 < (t147.length : Int) then (if ((rd_T34 t147 0).f0).size + 1 + ((rd_T34 t147 1).f0).size ≤ 9223372036854775807 then (some (((((rd_T34 t147 0).f0) ++ (⟨#[61]⟩ : ByteArray)) ++ ((rd_T34 t147 1).f0)).toList == a0.toList)) else (none)) else (none)) else (none)) else (none)) else (some false))) = some r := h
  clear h
  replace H := Option.bind_eq_some_iff.mp H
  obtain ⟨t147, A20, H⟩ := H
  replace H : (if (t147.length : Int) = 2 then (if 0 < (t147.length : Int) then (if ((rd_T34 t147 0).f0).size + 1 ≤ 9223372036854775807 then (if 1 < (t147.length : Int) then (if ((rd_T34 t147 0).f0).size + 1 + ((rd_T34 t147 1).f0).size ≤ 9223372036854775807 then (some (((((rd_T34 t147 0).f0) ++ (⟨#[61]⟩ : ByteArray)) ++ ((rd_T34 t147 1).f0)).toList == a0.toList)) else (none)) else (none)) else (none)) else (none)) else (some false)) = some r := H
  have A2 := Aside0.mk A20
  clear A20
  by_cases c3 : (t147.length : Int) = 2
  · rw [if_pos c3] at H
    have c3b0 : ((t147.length : Int) == 2) = true := beq_iff_eq.mpr c3
    have c3b1 : ((t147.length : Int) != 2) = false := bne_eq_false_iff_eq.mpr c3
    clear c3
    by_cases c4 : 0 < (t147.length : Int)
    · rw [if_pos c4] at H
      have c4b0 : decide (0 < (t147.length : Int)) = true := decide_eq_true c4
      have c4b1 : decide (0 < t147.length) = true := decide_eq_true (by omega)
      clear c4
      by_cases c5 : ((rd_T34 t147 0).f0).size + 1 ≤ 9223372036854775807
      · rw [if_pos c5] at H
        have c5b0 := eq_true c5
        have c5b1 : decide (((rd_T34 t147 0).f0).size + 1 ≤ 9223372036854775807) = true := decide_eq_true c5
        try have c5b2 : (9223372036854775807 < ((rd_T34 t147 0).f0).size + 1) = False := eq_false (Nat.not_lt.2 c5)
        by_cases c6 : 1 < (t147.length : Int)
        · rw [if_pos c6] at H
          have c6b0 : decide (1 < (t147.length : Int)) = true := decide_eq_true c6
          have c6b1 : decide (1 < t147.length) = true := decide_eq_true (by omega)
          clear c6
          by_cases c7 : ((rd_T34 t147 0).f0).size + 1 + ((rd_T34 t147 1).f0).size ≤ 9223372036854775807
          · rw [if_pos c7] at H
            have c7b0 := eq_true c7
            have c7b1 : decide (((rd_T34 t147 0).f0).size + 1 + ((rd_T34 t147 1).f0).size ≤ 9223372036854775807) = true := decide_eq_true c7
            try have c7b2 : (9223372036854775807 < ((rd_T34 t147 0).f0).size + 1 + ((rd_T34 t147 1).f0).size) = False := eq_false (Nat.not_lt.2 c7)
            obtain rfl := Option.some.inj H
            go_enter Tryd.func20, Tryd.ntmps20
            go_wp2_with (first | (go_at_call 17; (with_reducible refine (words_Words.calls k a0 t147 _ ?side1 A2.out).mono ?_); (case side1 => first | exact HT.out | exact tabs_below HT.out (by repeat (first | (with_reducible first | exact HB.out | apply below_alloc | apply pw_below_drewN | apply below_drew1) | exact HB.out))); rintro e w8 ⟨v148, rfl, ho0, hb⟩; have n0_ := Aside0.mk (Kd.R_lower ho0 (below_size (by repeat (first | (with_reducible first | exact HB.out | apply below_alloc | apply pw_below_drewN | apply below_drew1) | exact HB.out)))); have n1_ := Aside0.mk (below_step (by repeat (first | (with_reducible first | exact HB.out | apply below_alloc | apply pw_below_drewN | apply below_drew1) | exact HB.out)) hb); clear HB; have HO149 := n0_; have HB := n1_; clear n0_ n1_; (try clear hb); (try clear hb2); (try clear hk); (try clear hi); (try clear ho0); obtain ⟨Ao9, co9, eo9⟩ := Kd.R_slice HO149.out; subst eo9; have p150 : 0 ≤ (0 : Int) := (by omega); have q150 : 0 < (t147.length : Int) := of_decide_eq_true (by first | (with_reducible assumption) | assumption); obtain ⟨ad150, e150, hx150_0, hx150_1, hx150_2⟩ := at_T34 (Kd.R_reads' HO149.out).2.2 0 p150 q150; cases e150; have qi150 : (0 < t147.length) = True := eq_true (by omega); (try rw [show ((0 : Int)).toNat = 0 from rfl] at hx150_0); (try rw [show 0 * 3 = 0 from rfl] at hx150_0); (try rw [Addr.add_zero'] at hx150_0); (try rw [show ((0 : Int)).toNat = 0 from rfl] at hx150_1); (try rw [show 0 * 3 = 0 from rfl] at hx150_1); (try rw [Addr.add_zero'] at hx150_1); (try rw [show ((0 : Int)).toNat = 0 from rfl] at hx150_2); (try rw [show 0 * 3 = 0 from rfl] at hx150_2); (try rw [Addr.add_zero'] at hx150_2); replace p150 := eq_true p150; replace q150 := eq_true q150; have p151 : 0 ≤ (1 : Int) := (by omega); have q151 : 1 < (t147.length : Int) := of_decide_eq_true (by first | (with_reducible assumption) | assumption); obtain ⟨ad151, e151, hx151_0, hx151_1, hx151_2⟩ := at_T34 (Kd.R_reads' HO149.out).2.2 1 p151 q151; obtain rfl : ad150 = ad151 := (by injection e151); (try simp only [show (1 : Int).toNat = 1 from rfl, Nat.reduceMul, Nat.reduceEqDiff, Go.Addr.add, ↓reduceIte] at hx151_0); (try simp only [show (1 : Int).toNat = 1 from rfl, Nat.reduceMul, Nat.reduceEqDiff, Go.Addr.add, ↓reduceIte] at hx151_1); (try simp only [show (1 : Int).toNat = 1 from rfl, Nat.reduceMul, Nat.reduceEqDiff, Go.Addr.add, ↓reduceIte] at hx151_2); have qi151 : (1 < t147.length) = True := eq_true (by omega); (try rw [show ((1 : Int)).toNat = 1 from rfl] at hx151_0); (try rw [show 1 * 3 = 3 from rfl] at hx151_0); (try rw [show ((1 : Int)).toNat = 1 from rfl] at hx151_1); (try rw [show 1 * 3 = 3 from rfl] at hx151_1); (try rw [show ((1 : Int)).toNat = 1 from rfl] at hx151_2); (try rw [show 1 * 3 = 3 from rfl] at hx151_2); replace p151 := eq_true p151; replace q151 := eq_true q151))
            repeat (go_quiet (first | (go_at_call 17; (with_reducible refine (words_Words.calls k a0 t147 _ ?side1 A2.out).mono ?_); (case side1 => first | exact HT.out | exact tabs_below HT.out (by repeat (first | (with_reducible first | exact HB.out | apply below_alloc | apply pw_below_drewN | apply below_drew1) | exact HB.out))); rintro e w8 ⟨v148, rfl, ho0, hb⟩; have n0_ := Aside0.mk (Kd.R_lower ho0 (below_size (by repeat (first | (with_reducible first | exact HB.out | apply below_alloc | apply pw_below_drewN | apply below_drew1) | exact HB.out)))); have n1_ := Aside0.mk (below_step (by repeat (first | (with_reducible first | exact HB.out | apply below_alloc | apply pw_below_drewN | apply below_drew1) | exact HB.out)) hb); clear HB; have HO149 := n0_; have HB := n1_; clear n0_ n1_; (try clear hb); (try clear hb2); (try clear hk); (try clear hi); (try clear ho0); obtain ⟨Ao9, co9, eo9⟩ := Kd.R_slice HO149.out; subst eo9; have p150 : 0 ≤ (0 : Int) := (by omega); have q150 : 0 < (t147.length : Int) := of_decide_eq_true (by first | (with_reducible assumption) | assumption); obtain ⟨ad150, e150, hx150_0, hx150_1, hx150_2⟩ := at_T34 (Kd.R_reads' HO149.out).2.2 0 p150 q150; cases e150; have qi150 : (0 < t147.length) = True := eq_true (by omega); (try rw [show ((0 : Int)).toNat = 0 from rfl] at hx150_0); (try rw [show 0 * 3 = 0 from rfl] at hx150_0); (try rw [Addr.add_zero'] at hx150_0); (try rw [show ((0 : Int)).toNat = 0 from rfl] at hx150_1); (try rw [show 0 * 3 = 0 from rfl] at hx150_1); (try rw [Addr.add_zero'] at hx150_1); (try rw [show ((0 : Int)).toNat = 0 from rfl] at hx150_2); (try rw [show 0 * 3 = 0 from rfl] at hx150_2); (try rw [Addr.add_zero'] at hx150_2); replace p150 := eq_true p150; replace q150 := eq_true q150; have p151 : 0 ≤ (1 : Int) := (by omega); have q151 : 1 < (t147.length : Int) := of_decide_eq_true (by first | (with_reducible assumption) | assumption); obtain ⟨ad151, e151, hx151_0, hx151_1, hx151_2⟩ := at_T34 (Kd.R_reads' HO149.out).2.2 1 p151 q151; obtain rfl : ad150 = ad151 := (by injection e151); (try simp only [show (1 : Int).toNat = 1 from rfl, Nat.reduceMul, Nat.reduceEqDiff, Go.Addr.add, ↓reduceIte] at hx151_0); (try simp only [show (1 : Int).toNat = 1 from rfl, Nat.reduceMul, Nat.reduceEqDiff, Go.Addr.add, ↓reduceIte] at hx151_1); (try simp only [show (1 : Int).toNat = 1 from rfl, Nat.reduceMul, Nat.reduceEqDiff, Go.Addr.add, ↓reduceIte] at hx151_2); have qi151 : (1 < t147.length) = True := eq_true (by omega); (try rw [show ((1 : Int)).toNat = 1 from rfl] at hx151_0); (try rw [show 1 * 3 = 3 from rfl] at hx151_0); (try rw [show ((1 : Int)).toNat = 1 from rfl] at hx151_1); (try rw [show 1 * 3 = 3 from rfl] at hx151_1); (try rw [show ((1 : Int)).toNat = 1 from rfl] at hx151_2); (try rw [show 1 * 3 = 3 from rfl] at hx151_2); replace p151 := eq_true p151; replace q151 := eq_true q151)); try go_wp2_with (first | (go_at_call 17; (with_reducible refine (words_Words.calls k a0 t147 _ ?side1 A2.out).mono ?_); (case side1 => first | exact HT.out | exact tabs_below HT.out (by repeat (first | (with_reducible first | exact HB.out | apply below_alloc | apply pw_below_drewN | apply below_drew1) | exact HB.out))); rintro e w8 ⟨v148, rfl, ho0, hb⟩; have n0_ := Aside0.mk (Kd.R_lower ho0 (below_size (by repeat (first | (with_reducible first | exact HB.out | apply below_alloc | apply pw_below_drewN | apply below_drew1) | exact HB.out)))); have n1_ := Aside0.mk (below_step (by repeat (first | (with_reducible first | exact HB.out | apply below_alloc | apply pw_below_drewN | apply below_drew1) | exact HB.out)) hb); clear HB; have HO149 := n0_; have HB := n1_; clear n0_ n1_; (try clear hb); (try clear hb2); (try clear hk); (try clear hi); (try clear ho0); obtain ⟨Ao9, co9, eo9⟩ := Kd.R_slice HO149.out; subst eo9; have p150 : 0 ≤ (0 : Int) := (by omega); have q150 : 0 < (t147.length : Int) := of_decide_eq_true (by first | (with_reducible assumption) | assumption); obtain ⟨ad150, e150, hx150_0, hx150_1, hx150_2⟩ := at_T34 (Kd.R_reads' HO149.out).2.2 0 p150 q150; cases e150; have qi150 : (0 < t147.length) = True := eq_true (by omega); (try rw [show ((0 : Int)).toNat = 0 from rfl] at hx150_0); (try rw [show 0 * 3 = 0 from rfl] at hx150_0); (try rw [Addr.add_zero'] at hx150_0); (try rw [show ((0 : Int)).toNat = 0 from rfl] at hx150_1); (try rw [show 0 * 3 = 0 from rfl] at hx150_1); (try rw [Addr.add_zero'] at hx150_1); (try rw [show ((0 : Int)).toNat = 0 from rfl] at hx150_2); (try rw [show 0 * 3 = 0 from rfl] at hx150_2); (try rw [Addr.add_zero'] at hx150_2); replace p150 := eq_true p150; replace q150 := eq_true q150; have p151 : 0 ≤ (1 : Int) := (by omega); have q151 : 1 < (t147.length : Int) := of_decide_eq_true (by first | (with_reducible assumption) | assumption); obtain ⟨ad151, e151, hx151_0, hx151_1, hx151_2⟩ := at_T34 (Kd.R_reads' HO149.out).2.2 1 p151 q151; obtain rfl : ad150 = ad151 := (by injection e151); (try simp only [show (1 : Int).toNat = 1 from rfl, Nat.reduceMul, Nat.reduceEqDiff, Go.Addr.add, ↓reduceIte] at hx151_0); (try simp only [show (1 : Int).toNat = 1 from rfl, Nat.reduceMul, Nat.reduceEqDiff, Go.Addr.add, ↓reduceIte] at hx151_1); (try simp only [show (1 : Int).toNat = 1 from rfl, Nat.reduceMul, Nat.reduceEqDiff, Go.Addr.add, ↓reduceIte] at hx151_2); have qi151 : (1 < t147.length) = True := eq_true (by omega); (try rw [show ((1 : Int)).toNat = 1 from rfl] at hx151_0); (try rw [show 1 * 3 = 3 from rfl] at hx151_0); (try rw [show ((1 : Int)).toNat = 1 from rfl] at hx151_1); (try rw [show 1 * 3 = 3 from rfl] at hx151_1); (try rw [show ((1 : Int)).toNat = 1 from rfl] at hx151_2); (try rw [show 1 * 3 = 3 from rfl] at hx151_2); replace p151 := eq_true p151; replace q151 := eq_true q151)))
            go_ret
            exact ⟨by first | rfl | (simp [errW_none, errW_some] <;> rfl) | (simp [*, errW_none, errW_some] <;> rfl), by repeat (first | (with_reducible first | exact HB.out | apply below_alloc | apply pw_below_drewN | apply below_drew1) | exact HB.out)⟩
          · rw [if_neg c7] at H
            exact absurd H (by simp)
        · rw [if_neg c6] at H
          exact absurd H (by simp)
      · rw [if_neg c5] at H
        exact absurd H (by simp)
    · rw [if_neg c4] at H
      exact absurd H (by simp)
  · rw [if_neg c3] at H
    have c3b0 : ((t147.length : Int) == 2) = false := beq_eq_false_iff_ne.mpr c3
    have c3b1 : ((t147.length : Int) != 2) = true := bne_iff_ne.mpr c3
    obtain rfl := Option.some.inj H
    go_enter Tryd.func20, Tryd.ntmps20
    go_wp2_with (first | (go_at_call 17; (with_reducible refine (words_Words.calls k a0 t147 _ ?side1 A2.out).mono ?_); (case side1 => first | exact HT.out | exact tabs_below HT.out (by repeat (first | (with_reducible first | exact HB.out | apply below_alloc | apply pw_below_drewN | apply below_drew1) | exact HB.out))); rintro e w10 ⟨v148, rfl, ho0, hb⟩; have n0_ := Aside0.mk (Kd.R_lower ho0 (below_size (by repeat (first | (with_reducible first | exact HB.out | apply below_alloc | apply pw_below_drewN | apply below_drew1) | exact HB.out)))); have n1_ := Aside0.mk (below_step (by repeat (first | (with_reducible first | exact HB.out | apply below_alloc | apply pw_below_drewN | apply below_drew1) | exact HB.out)) hb); clear HB; have HO149 := n0_; have HB := n1_; clear n0_ n1_; (try clear hb); (try clear hb2); (try clear hk); (try clear hi); (try clear ho0); obtain ⟨Ao11, co11, eo11⟩ := Kd.R_slice HO149.out; subst eo11))
    repeat (go_quiet (first | (go_at_call 17; (with_reducible refine (words_Words.calls k a0 t147 _ ?side1 A2.out).mono ?_); (case side1 => first | exact HT.out | exact tabs_below HT.out (by repeat (first | (with_reducible first | exact HB.out | apply below_alloc | apply pw_below_drewN | apply below_drew1) | exact HB.out))); rintro e w10 ⟨v148, rfl, ho0, hb⟩; have n0_ := Aside0.mk (Kd.R_lower ho0 (below_size (by repeat (first | (with_reducible first | exact HB.out | apply below_alloc | apply pw_below_drewN | apply below_drew1) | exact HB.out)))); have n1_ := Aside0.mk (below_step (by repeat (first | (with_reducible first | exact HB.out | apply below_alloc | apply pw_below_drewN | apply below_drew1) | exact HB.out)) hb); clear HB; have HO149 := n0_; have HB := n1_; clear n0_ n1_; (try clear hb); (try clear hb2); (try clear hk); (try clear hi); (try clear ho0); obtain ⟨Ao11, co11, eo11⟩ := Kd.R_slice HO149.out; subst eo11)); try go_wp2_with (first | (go_at_call 17; (with_reducible refine (words_Words.calls k a0 t147 _ ?side1 A2.out).mono ?_); (case side1 => first | exact HT.out | exact tabs_below HT.out (by repeat (first | (with_reducible first | exact HB.out | apply below_alloc | apply pw_below_drewN | apply below_drew1) | exact HB.out))); rintro e w10 ⟨v148, rfl, ho0, hb⟩; have n0_ := Aside0.mk (Kd.R_lower ho0 (below_size (by repeat (first | (with_reducible first | exact HB.out | apply below_alloc | apply pw_below_drewN | apply below_drew1) | exact HB.out)))); have n1_ := Aside0.mk (below_step (by repeat (first | (with_reducible first | exact HB.out | apply below_alloc | apply pw_below_drewN | apply below_drew1) | exact HB.out)) hb); clear HB; have HO149 := n0_; have HB := n1_; clear n0_ n1_; (try clear hb); (try clear hb2); (try clear hk); (try clear hi); (try clear ho0); obtain ⟨Ao11, co11, eo11⟩ := Kd.R_slice HO149.out; subst eo11)))
    go_ret
    exact ⟨by first | rfl | (simp [errW_none, errW_some] <;> rfl) | (simp [*, errW_none, errW_some] <;> rfl), by repeat (first | (with_reducible first | exact HB.out | apply below_alloc | apply pw_below_drewN | apply below_drew1) | exact HB.out)⟩

end Go.Proofs.YtpkjfpapjcmhdaaDoor.PWordsAlone
