-- WRITTEN BY A PROGRAM OF THIS SESSION (wip/patch_print.py: the kit's printer with rules of this session's own); Lean checks it.
import Derived.Test.YtpkjfpapjcmhdaaDoorPWordsCasex0
import Derived.Test.YtpkjfpapjcmhdaaDoorPWordsCasex1
import Derived.Test.YtpkjfpapjcmhdaaDoorPWordsCasex2
namespace Go.Proofs.YtpkjfpapjcmhdaaDoor.PWordsCase
open Go.RowKit Go.Proofs.YtpkjfpapjcmhdaaDoorW.PrintWords Go.Proofs.YtpkjfpapjcmhdaaDoorW.PrintLast Go.Proofs.YtpkjfpapjcmhdaaDoorW.PrintMore
open Go.Proofs.YtpkjfpapjcmhdaaDoor.G
attribute [local go_sem] max2_int min2_int max_two min_two max_three min_three max_four min_four   -- for this text's walks alone
set_option linter.unusedVariables false
set_option linter.unusedSimpArgs false

/-! ### words_One: function 18 -/
def words_One.f (k : Nat) (a0 : ByteArray) : Option (Bool) := (words_Words.f k a0).bind fun t138 => (if (t138.length : Int) = 1 then (if 0 < (t138.length : Int) then (some (((rd_T34 t138 0).f0).toList == a0.toList)) else (none)) else (some false))
theorem words_One.mono : ∀ a0 k, LeO (words_One.f k a0) (words_One.f (k + 1) a0) := by
  intro a0 k
  unfold words_One.f
  repeat' first
      | (with_reducible exact words_Words.mono _ _)
      | (with_reducible exact LeO.refl _)
      | (with_reducible exact LeO.none _)
      | (with_reducible refine LeO.ite ?_ ?_)
      | (with_reducible refine LeO.bind ?_ (fun _ => ?_))
      | exact words_Words.mono _ _
      | exact LeO.none _
      | refine LeO.ite ?_ ?_
      | refine LeO.bind ?_ (fun _ => ?_)
set_option maxHeartbeats 8000000 in
set_option maxRecDepth 100000 in
theorem words_One.calls (k : Nat) (a0 : ByteArray) (r : Bool) (w : World) (hT : tabs w) (h : words_One.f k a0 = some r) :
    Calls Tryd.prog 18 #[.string a0] w fun e w' => e = .returned (.bool r) ∧ Below w.heap.size w w' := by
  have HT := Aside0.mk hT
  clear hT
  have HB := Aside0.mk (Below.refl w.heap.size w)
  have H : ((words_Words.f k a0).bind fun t138 => (if (t138.length : Int) = 1 then (if 0 < (t138.length : Int) then (some (((rd_T34 t138 0).f0).toList == a0.toList)) else (none)) else (some false))) = some r := h
  clear h
  replace H := Option.bind_eq_some_iff.mp H
  obtain ⟨t138, A20, H⟩ := H
  replace H : (if (t138.length : Int) = 1 then (if 0 < (t138.length : Int) then (some (((rd_T34 t138 0).f0).toList == a0.toList)) else (none)) else (some false)) = some r := H
  have A2 := Aside0.mk A20
  clear A20
  by_cases c3 : (t138.length : Int) = 1
  · rw [if_pos c3] at H
    have c3b0 : ((t138.length : Int) == 1) = true := beq_iff_eq.mpr c3
    have c3b1 : ((t138.length : Int) != 1) = false := bne_eq_false_iff_eq.mpr c3
    clear c3
    by_cases c4 : 0 < (t138.length : Int)
    · rw [if_pos c4] at H
      have c4b0 : decide (0 < (t138.length : Int)) = true := decide_eq_true c4
      have c4b1 : decide (0 < t138.length) = true := decide_eq_true (by omega)
      clear c4
      obtain rfl := Option.some.inj H
      go_enter Tryd.func18, Tryd.ntmps18
      go_wp2_with (first | ((with_reducible refine gate_callee (f := 17) rfl ?_); refine goesL_ (some 5) rfl rfl Tryd.func17 (by kernel_rfl) rfl #[.string a0] rfl (by (try simp only [List.map_toArray, List.map_cons, List.map_nil]); first | done | rfl | (simp only [List.length_drop, List.length_take]; rfl)) ?_; (with_reducible refine (words_Words.calls k a0 t138 _ ?side1 A2.out).mono ?_); (case side1 => first | exact HT.out | exact tabs_below HT.out (by repeat (first | (with_reducible first | exact HB.out | apply below_alloc | apply pw_below_drewN | apply below_drew1) | exact HB.out))); rintro e w5 ⟨v139, rfl, ho0, hb⟩; refine ⟨_, rfl, ?_⟩; have n0_ := Aside0.mk (Kd.R_lower ho0 (below_size (by repeat (first | (with_reducible first | exact HB.out | apply below_alloc | apply pw_below_drewN | apply below_drew1) | exact HB.out)))); have n1_ := Aside0.mk (below_step (by repeat (first | (with_reducible first | exact HB.out | apply below_alloc | apply pw_below_drewN | apply below_drew1) | exact HB.out)) hb); clear HB; have HO140 := n0_; have HB := n1_; clear n0_ n1_; (try clear hb); (try clear hb2); (try clear hk); (try clear hi); (try clear ho0); obtain ⟨Ao6, co6, eo6⟩ := Kd.R_slice HO140.out; subst eo6; have p141 : 0 ≤ (0 : Int) := (by omega); have q141 : 0 < (t138.length : Int) := of_decide_eq_true (by first | (with_reducible assumption) | assumption); obtain ⟨ad141, e141, hx141_0, hx141_1, hx141_2⟩ := at_T34 (Kd.R_reads' HO140.out).2.2 0 p141 q141; cases e141; have qi141 : (0 < t138.length) = True := eq_true (by omega); (try rw [show ((0 : Int)).toNat = 0 from rfl] at hx141_0); (try rw [show 0 * 3 = 0 from rfl] at hx141_0); (try rw [Addr.add_zero'] at hx141_0); (try rw [show ((0 : Int)).toNat = 0 from rfl] at hx141_1); (try rw [show 0 * 3 = 0 from rfl] at hx141_1); (try rw [Addr.add_zero'] at hx141_1); (try rw [show ((0 : Int)).toNat = 0 from rfl] at hx141_2); (try rw [show 0 * 3 = 0 from rfl] at hx141_2); (try rw [Addr.add_zero'] at hx141_2); replace p141 := eq_true p141; replace q141 := eq_true q141))
      go_ret
      exact ⟨by first | rfl | (simp [errW_none, errW_some] <;> rfl) | (simp [*, errW_none, errW_some] <;> rfl), by repeat (first | (with_reducible first | exact HB.out | apply below_alloc | apply pw_below_drewN | apply below_drew1) | exact HB.out)⟩
    · rw [if_neg c4] at H
      exact absurd H (by simp)
  · rw [if_neg c3] at H
    have c3b0 : ((t138.length : Int) == 1) = false := beq_eq_false_iff_ne.mpr c3
    have c3b1 : ((t138.length : Int) != 1) = true := bne_iff_ne.mpr c3
    obtain rfl := Option.some.inj H
    go_enter Tryd.func18, Tryd.ntmps18
    go_wp2_with (first | ((with_reducible refine gate_callee (f := 17) rfl ?_); refine goesL_ (some 5) rfl rfl Tryd.func17 (by kernel_rfl) rfl #[.string a0] rfl (by (try simp only [List.map_toArray, List.map_cons, List.map_nil]); first | done | rfl | (simp only [List.length_drop, List.length_take]; rfl)) ?_; (with_reducible refine (words_Words.calls k a0 t138 _ ?side1 A2.out).mono ?_); (case side1 => first | exact HT.out | exact tabs_below HT.out (by repeat (first | (with_reducible first | exact HB.out | apply below_alloc | apply pw_below_drewN | apply below_drew1) | exact HB.out))); rintro e w7 ⟨v139, rfl, ho0, hb⟩; refine ⟨_, rfl, ?_⟩; have n0_ := Aside0.mk (Kd.R_lower ho0 (below_size (by repeat (first | (with_reducible first | exact HB.out | apply below_alloc | apply pw_below_drewN | apply below_drew1) | exact HB.out)))); have n1_ := Aside0.mk (below_step (by repeat (first | (with_reducible first | exact HB.out | apply below_alloc | apply pw_below_drewN | apply below_drew1) | exact HB.out)) hb); clear HB; have HO140 := n0_; have HB := n1_; clear n0_ n1_; (try clear hb); (try clear hb2); (try clear hk); (try clear hi); (try clear ho0); obtain ⟨Ao8, co8, eo8⟩ := Kd.R_slice HO140.out; subst eo8))
    go_ret
    exact ⟨by first | rfl | (simp [errW_none, errW_some] <;> rfl) | (simp [*, errW_none, errW_some] <;> rfl), by repeat (first | (with_reducible first | exact HB.out | apply below_alloc | apply pw_below_drewN | apply below_drew1) | exact HB.out)⟩

/-! ### fascinelaw05_awake: function 11 -/
def fascinelaw05_awake.f (k : Nat)  : Option (Bool) := (words_Terms.f k (⟨#[82, 101, 100, 32, 97, 112, 112, 108, 101, 61, 71, 82, 69, 69, 78, 32, 114, 101, 100]⟩ : ByteArray)).bind fun t142 => (if (t142.length : Int) = 4 then (if 1 < (t142.length : Int) then (if (rdOf ByteArray.empty t142 1).toList = ([97, 112, 112, 108, 101, 61, 103, 114, 101, 101, 110] : List UInt8) then ((words_One.f k (⟨#[82, 101, 100]⟩ : ByteArray)).bind fun t146 => (some (!t146))) else (some false)) else (none)) else (some false))
theorem fascinelaw05_awake.mono : ∀ k, LeO (fascinelaw05_awake.f k ) (fascinelaw05_awake.f (k + 1) ) := by
  intro  k
  unfold fascinelaw05_awake.f
  repeat' first
      | (with_reducible exact words_One.mono _ _)
      | (with_reducible exact words_Terms.mono _ _)
      | (with_reducible exact LeO.refl _)
      | (with_reducible exact LeO.none _)
      | (with_reducible refine LeO.ite ?_ ?_)
      | (with_reducible refine LeO.bind ?_ (fun _ => ?_))
      | exact words_One.mono _ _
      | exact words_Terms.mono _ _
      | exact LeO.none _
      | refine LeO.ite ?_ ?_
      | refine LeO.bind ?_ (fun _ => ?_)
set_option maxHeartbeats 8000000 in
set_option maxRecDepth 100000 in
theorem fascinelaw05_awake.calls (k : Nat)  (r : Bool) (w : World) (hT : tabs w) (h : fascinelaw05_awake.f k  = some r) :
    Calls Tryd.prog 11 #[] w fun e w' => e = .returned (.bool r) ∧ Below w.heap.size w w' := by
  have HT := Aside0.mk hT
  clear hT
  have HB := Aside0.mk (Below.refl w.heap.size w)
  have H : ((words_Terms.f k (⟨#[82, 101, 100, 32, 97, 112, 112, 108, 101, 61, 71, 82, 69, 69, 78, 32, 114, 101, 100]⟩ : ByteArray)).bind fun t142 => (if (t142.length : Int) = 4 then (if 1 < (t142.length : Int) then (if (rdOf ByteArray.empty t142 1).toList = ([97, 112, 112, 108, 101, 61, 103, 114, 101, 101, 110] : List UInt8) then ((words_One.f k (⟨#[82, 101, 100]⟩ : ByteArray)).bind fun t146 => (some (!t146))) else (some false)) else (none)) else (some false))) = some r := h
  clear h
  replace H := Option.bind_eq_some_iff.mp H
  obtain ⟨t142, A10, H⟩ := H
  replace H : (if (t142.length : Int) = 4 then (if 1 < (t142.length : Int) then (if (rdOf ByteArray.empty t142 1).toList = ([97, 112, 112, 108, 101, 61, 103, 114, 101, 101, 110] : List UInt8) then ((words_One.f k (⟨#[82, 101, 100]⟩ : ByteArray)).bind fun t146 => (some (!t146))) else (some false)) else (none)) else (some false)) = some r := H
  have A1 := Aside0.mk A10
  clear A10
  by_cases c2 : (t142.length : Int) = 4
  · rw [if_pos c2] at H
    have c2b0 : ((t142.length : Int) == 4) = true := beq_iff_eq.mpr c2
    have c2b1 : ((t142.length : Int) != 4) = false := bne_eq_false_iff_eq.mpr c2
    clear c2
    by_cases c3 : 1 < (t142.length : Int)
    · rw [if_pos c3] at H
      have c3b0 : decide (1 < (t142.length : Int)) = true := decide_eq_true c3
      have c3b1 : decide (1 < t142.length) = true := decide_eq_true (by omega)
      clear c3
      by_cases c4 : (rdOf ByteArray.empty t142 1).toList = ([97, 112, 112, 108, 101, 61, 103, 114, 101, 101, 110] : List UInt8)
      · rw [if_pos c4] at H
        have c4b0 : ((rdOf ByteArray.empty t142 1).toList == ([97, 112, 112, 108, 101, 61, 103, 114, 101, 101, 110] : List UInt8)) = true := beq_iff_eq.mpr c4
        have c4b1 : ((rdOf ByteArray.empty t142 1).toList != ([97, 112, 112, 108, 101, 61, 103, 114, 101, 101, 110] : List UInt8)) = false := bne_eq_false_iff_eq.mpr c4
        clear c4
        replace H := Option.bind_eq_some_iff.mp H
        obtain ⟨t146, A50, H⟩ := H
        replace H : (some (!t146)) = some r := H
        have A5 := Aside0.mk A50
        clear A50
        obtain rfl := Option.some.inj H
        go_enter Tryd.func11, Tryd.ntmps11
        go_wp2_with (first | ((with_reducible refine gate_callee (f := 12) rfl ?_); refine goesL_ (some 2) rfl rfl Tryd.func12 (by kernel_rfl) rfl #[.string (⟨#[82, 101, 100, 32, 97, 112, 112, 108, 101, 61, 71, 82, 69, 69, 78, 32, 114, 101, 100]⟩ : ByteArray)] rfl (by (try simp only [List.map_toArray, List.map_cons, List.map_nil]); first | done | rfl | (simp only [List.length_drop, List.length_take]; rfl)) ?_; (with_reducible refine (words_Terms.calls k (⟨#[82, 101, 100, 32, 97, 112, 112, 108, 101, 61, 71, 82, 69, 69, 78, 32, 114, 101, 100]⟩ : ByteArray) t142 _ ?side1 A1.out).mono ?_); (case side1 => first | exact HT.out | exact tabs_below HT.out (by repeat (first | (with_reducible first | exact HB.out | apply below_alloc | apply pw_below_drewN | apply below_drew1) | exact HB.out))); rintro e w6 ⟨v143, rfl, ho0, hb⟩; refine ⟨_, rfl, ?_⟩; have n0_ := Aside0.mk (Kd.R_lower ho0 (below_size (by repeat (first | (with_reducible first | exact HB.out | apply below_alloc | apply pw_below_drewN | apply below_drew1) | exact HB.out)))); have n1_ := Aside0.mk (below_step (by repeat (first | (with_reducible first | exact HB.out | apply below_alloc | apply pw_below_drewN | apply below_drew1) | exact HB.out)) hb); clear HB; have HO144 := n0_; have HB := n1_; clear n0_ n1_; (try clear hb); (try clear hb2); (try clear hk); (try clear hi); (try clear ho0); obtain ⟨Ao7, co7, eo7⟩ := Kd.R_slice HO144.out; subst eo7; have p145 : 0 ≤ (1 : Int) := (by omega); have q145 : 1 < (t142.length : Int) := of_decide_eq_true (by first | (with_reducible assumption) | assumption); obtain ⟨ad145, e145, hx145_0⟩ := Kd.at_string (Kd.R_reads' HO144.out).2.2 1 p145 q145; cases e145; (try simp only [show (1 : Int).toNat = 1 from rfl, Nat.reduceMul, Nat.reduceEqDiff, Go.Addr.add, ↓reduceIte] at hx145_0); have qi145 : (1 < t142.length) = True := eq_true (by omega); (try rw [show ((1 : Int)).toNat = 1 from rfl] at hx145_0); replace p145 := eq_true p145; replace q145 := eq_true q145) | (go_at_call 18; (with_reducible refine (words_One.calls k (⟨#[82, 101, 100]⟩ : ByteArray) t146 _ ?side1 A5.out).mono ?_); (case side1 => first | exact HT.out | exact tabs_below HT.out (by repeat (first | (with_reducible first | exact HB.out | apply below_alloc | apply pw_below_drewN | apply below_drew1) | exact HB.out))); rintro e w8 ⟨rfl, hb⟩; have n0_ := Aside0.mk (Kd.R_below (by (with_reducible repeat (first | apply Kd.R_alloc | apply Kd.R_drewN | apply Kd.R_drew)); exact HO144.out) hb); have n1_ := Aside0.mk (below_step (by repeat (first | (with_reducible first | exact HB.out | apply below_alloc | apply pw_below_drewN | apply below_drew1) | exact HB.out)) hb); clear HO144; clear HB; have HO144 := n0_; have HB := n1_; clear n0_ n1_; (try clear hb); (try clear hb2); (try clear hk); (try clear hi)))
        go_ret
        exact ⟨by first | rfl | (simp [errW_none, errW_some] <;> rfl) | (simp [*, errW_none, errW_some] <;> rfl), by repeat (first | (with_reducible first | exact HB.out | apply below_alloc | apply pw_below_drewN | apply below_drew1) | exact HB.out)⟩
      · rw [if_neg c4] at H
        have c4b0 : ((rdOf ByteArray.empty t142 1).toList == ([97, 112, 112, 108, 101, 61, 103, 114, 101, 101, 110] : List UInt8)) = false := beq_eq_false_iff_ne.mpr c4
        have c4b1 : ((rdOf ByteArray.empty t142 1).toList != ([97, 112, 112, 108, 101, 61, 103, 114, 101, 101, 110] : List UInt8)) = true := bne_iff_ne.mpr c4
        obtain rfl := Option.some.inj H
        go_enter Tryd.func11, Tryd.ntmps11
        go_wp2_with (first | ((with_reducible refine gate_callee (f := 12) rfl ?_); refine goesL_ (some 2) rfl rfl Tryd.func12 (by kernel_rfl) rfl #[.string (⟨#[82, 101, 100, 32, 97, 112, 112, 108, 101, 61, 71, 82, 69, 69, 78, 32, 114, 101, 100]⟩ : ByteArray)] rfl (by (try simp only [List.map_toArray, List.map_cons, List.map_nil]); first | done | rfl | (simp only [List.length_drop, List.length_take]; rfl)) ?_; (with_reducible refine (words_Terms.calls k (⟨#[82, 101, 100, 32, 97, 112, 112, 108, 101, 61, 71, 82, 69, 69, 78, 32, 114, 101, 100]⟩ : ByteArray) t142 _ ?side1 A1.out).mono ?_); (case side1 => first | exact HT.out | exact tabs_below HT.out (by repeat (first | (with_reducible first | exact HB.out | apply below_alloc | apply pw_below_drewN | apply below_drew1) | exact HB.out))); rintro e w9 ⟨v143, rfl, ho0, hb⟩; refine ⟨_, rfl, ?_⟩; have n0_ := Aside0.mk (Kd.R_lower ho0 (below_size (by repeat (first | (with_reducible first | exact HB.out | apply below_alloc | apply pw_below_drewN | apply below_drew1) | exact HB.out)))); have n1_ := Aside0.mk (below_step (by repeat (first | (with_reducible first | exact HB.out | apply below_alloc | apply pw_below_drewN | apply below_drew1) | exact HB.out)) hb); clear HB; have HO144 := n0_; have HB := n1_; clear n0_ n1_; (try clear hb); (try clear hb2); (try clear hk); (try clear hi); (try clear ho0); obtain ⟨Ao10, co10, eo10⟩ := Kd.R_slice HO144.out; subst eo10; have p145 : 0 ≤ (1 : Int) := (by omega); have q145 : 1 < (t142.length : Int) := of_decide_eq_true (by first | (with_reducible assumption) | assumption); obtain ⟨ad145, e145, hx145_0⟩ := Kd.at_string (Kd.R_reads' HO144.out).2.2 1 p145 q145; cases e145; (try simp only [show (1 : Int).toNat = 1 from rfl, Nat.reduceMul, Nat.reduceEqDiff, Go.Addr.add, ↓reduceIte] at hx145_0); have qi145 : (1 < t142.length) = True := eq_true (by omega); (try rw [show ((1 : Int)).toNat = 1 from rfl] at hx145_0); replace p145 := eq_true p145; replace q145 := eq_true q145))
        go_ret
        exact ⟨by first | rfl | (simp [errW_none, errW_some] <;> rfl) | (simp [*, errW_none, errW_some] <;> rfl), by repeat (first | (with_reducible first | exact HB.out | apply below_alloc | apply pw_below_drewN | apply below_drew1) | exact HB.out)⟩
    · rw [if_neg c3] at H
      exact absurd H (by simp)
  · rw [if_neg c2] at H
    have c2b0 : ((t142.length : Int) == 4) = false := beq_eq_false_iff_ne.mpr c2
    have c2b1 : ((t142.length : Int) != 4) = true := bne_iff_ne.mpr c2
    obtain rfl := Option.some.inj H
    go_enter Tryd.func11, Tryd.ntmps11
    go_wp2_with (first | ((with_reducible refine gate_callee (f := 12) rfl ?_); refine goesL_ (some 2) rfl rfl Tryd.func12 (by kernel_rfl) rfl #[.string (⟨#[82, 101, 100, 32, 97, 112, 112, 108, 101, 61, 71, 82, 69, 69, 78, 32, 114, 101, 100]⟩ : ByteArray)] rfl (by (try simp only [List.map_toArray, List.map_cons, List.map_nil]); first | done | rfl | (simp only [List.length_drop, List.length_take]; rfl)) ?_; (with_reducible refine (words_Terms.calls k (⟨#[82, 101, 100, 32, 97, 112, 112, 108, 101, 61, 71, 82, 69, 69, 78, 32, 114, 101, 100]⟩ : ByteArray) t142 _ ?side1 A1.out).mono ?_); (case side1 => first | exact HT.out | exact tabs_below HT.out (by repeat (first | (with_reducible first | exact HB.out | apply below_alloc | apply pw_below_drewN | apply below_drew1) | exact HB.out))); rintro e w11 ⟨v143, rfl, ho0, hb⟩; refine ⟨_, rfl, ?_⟩; have n0_ := Aside0.mk (Kd.R_lower ho0 (below_size (by repeat (first | (with_reducible first | exact HB.out | apply below_alloc | apply pw_below_drewN | apply below_drew1) | exact HB.out)))); have n1_ := Aside0.mk (below_step (by repeat (first | (with_reducible first | exact HB.out | apply below_alloc | apply pw_below_drewN | apply below_drew1) | exact HB.out)) hb); clear HB; have HO144 := n0_; have HB := n1_; clear n0_ n1_; (try clear hb); (try clear hb2); (try clear hk); (try clear hi); (try clear ho0); obtain ⟨Ao12, co12, eo12⟩ := Kd.R_slice HO144.out; subst eo12))
    go_ret
    exact ⟨by first | rfl | (simp [errW_none, errW_some] <;> rfl) | (simp [*, errW_none, errW_some] <;> rfl), by repeat (first | (with_reducible first | exact HB.out | apply below_alloc | apply pw_below_drewN | apply below_drew1) | exact HB.out)⟩

/-! ### fascinelaw05_turned: function 14 -/
def fascinelaw05_turned.tb (back : Bool) (b : UInt8) : UInt8 :=
  if back = true then (if 65 ≤ b.toNat ∧ b.toNat ≤ 90 then UInt8.ofNat (b.toNat + 32) else b) else (if 97 ≤ b.toNat ∧ b.toNat ≤ 122 then UInt8.ofNat (b.toNat - 32) else b)
def fascinelaw05_turned.f (a0 : ByteArray) (a1 : Bool) : Option ByteArray := if a0.size < 140737488355328 then some ⟨(a0.data.toList.map (fascinelaw05_turned.tb a1)).toArray⟩ else none
theorem fascinelaw05_turned.step {f : UInt8 → UInt8} {l : List UInt8} {i : Nat} (h : i < l.length) : ((l.take i).map f ++ l.drop i).set i (f l[i]) = (l.take (i + 1)).map f ++ l.drop (i + 1) := by
  have e1 : ((l.take i).map f).length = i := by simp; omega
  rw [List.set_append_right _ _ (by omega), e1, Nat.sub_self, List.drop_eq_getElem_cons h, List.set_cons_zero, List.take_succ_eq_append_getElem h, List.map_append, List.append_assoc]
  rfl
theorem fascinelaw05_turned.same {f : UInt8 → UInt8} {l : List UInt8} {i : Nat} (h : i < l.length) (hf : f l[i] = l[i]) : (l.take i).map f ++ l.drop i = (l.take (i + 1)).map f ++ l.drop (i + 1) := by
  rw [List.take_succ_eq_append_getElem h, List.map_append, List.append_assoc, List.drop_eq_getElem_cons h]
  simp [hf]
theorem fascinelaw05_turned.at {f : UInt8 → UInt8} {l : List UInt8} {i : Nat} (h : i < l.length) (h2 : i < ((l.take i).map f ++ l.drop i).length) : ((l.take i).map f ++ l.drop i)[i] = l[i] := by
  have e1 : ((l.take i).map f).length = i := by simp; omega
  rw [List.getElem_append_right (by omega)]
  simp only [e1, Nat.sub_self, List.getElem_drop, Nat.add_zero]
theorem fascinelaw05_turned.p1 {i n : Nat} (h : i < n) (hn : n < 140737488355328) : wrap64 ((i : Int) + 1) = ((i + 1 : Nat) : Int) := by unfold wrap64; omega
set_option maxHeartbeats 4000000 in
set_option maxRecDepth 100000 in
theorem fascinelaw05_turned.calls (a0 : ByteArray) (a1 : Bool) (r : ByteArray) (w : World) (h : fascinelaw05_turned.f a0 a1 = some r) :
    Calls Tryd.prog 14 #[.string a0, .bool a1] w fun e w' => e = .returned (.string r) ∧ Below w.heap.size w w' := by
  unfold fascinelaw05_turned.f at h
  split at h
  case isFalse => cases h
  rename_i hsm
  have HSM := Aside0.mk hsm
  obtain rfl := Option.some.inj h
  clear h hsm
  have hu50 := Tryd.underlying50
  have hu5 := Tryd.underlying5
  have hu9 := Tryd.underlying9
  have HB := Aside0.mk (Below.refl w.heap.size w)
  go_enter Tryd.func14, Tryd.ntmps14
  go_upto_region 2 with (first | ((with_reducible refine gate_dst (N := 8) rfl ?_); refine M.bytes_event ?hg (N := 8) ?hd 9 50 5 (.tmp 7) a0 ?ho ?hx Tryd.underlying9 Tryd.underlying50 Tryd.underlying5 ?_; (case hd => rfl); (case hg => rfl); (case ho => rfl); (case hx => first | (go_simp; done) | (go_simp; rfl)); intro g hg cap w1 hrow hb; have GE := Aside0.mk (show w.heap.size ≤ g by rw [hg]; exact HB.out.size); have m_ := Aside0.mk (below_step HB.out hb); clear HB; have HB := m_; clear m_; have RW := Aside0.mk hrow; clear hb hrow hg))
  go_wp2
  go_loopg [6] (a0.size + 1) (fun kq v6 w' => ∃ i : Nat, v6 = .int .i64 (i : Int) ∧ Aside0 (i + kq = a0.size + 1) ∧ Aside0 (i ≤ a0.size) ∧ Aside0 (M.BRow w' g 5 ((a0.data.toList.take i).map (fascinelaw05_turned.tb a1) ++ a0.data.toList.drop i)) ∧ Aside0 (Below w.heap.size w w'))
  case atStart => exact ⟨0, rfl, ⟨by omega⟩, ⟨by omega⟩, ⟨RW.out⟩, ⟨HB.out⟩⟩
  case round =>
    obtain ⟨i, rfl, HK, HI, HR, HB'⟩ := hrel
    clear RW HB
    cases gk with
    | zero => exact absurd HK.out (by have := HI.out; omega)
    | succ k1 =>
      by_cases hi : i < a0.size
      · have hsz := Lib.size_eq a0
        have hil : i < a0.data.toList.length := by omega
        have hbl : ((a0.data.toList.take i).map (fascinelaw05_turned.tb a1) ++ a0.data.toList.drop i).length = a0.size := by simp; omega
        have hy : decide ((i : Int) < (a0.size : Int)) = true := decide_eq_true (by omega)
        have hy2 : decide (i < a0.size) = true := decide_eq_true hi
        have h0 : decide (0 ≤ (i : Int)) = true := decide_eq_true (by omega)
        have h1 : (0 ≤ (i : Int)) = True := eq_true (by omega)
        have h2 : (i < a0.size) = True := eq_true hi
        have h3 : ((i : Int) < (a0.size : Int)) = True := eq_true (by omega)
        have hcell := HR.out.cell i (by omega)
        rw [fascinelaw05_turned.at hil] at hcell
        have hfro := HR.out.frozen i (by omega)
        have stp := fascinelaw05_turned.step (f := fascinelaw05_turned.tb a1) hil
        have sm := fascinelaw05_turned.same (f := fascinelaw05_turned.tb a1) hil
        obtain ⟨b, hb⟩ : ∃ b, a0.data.toList[i] = b := ⟨_, rfl⟩
        rw [hb] at hcell stp sm
        have hlt : b.toNat < 256 := b.toNat_lt
        have STP := Aside0.mk stp
        have SM := Aside0.mk sm
        have HSZ := Aside0.mk hsz
        have HBL := Aside0.mk hbl
        have HIL := Aside0.mk hi
        clear hsz hbl stp sm hi hb
        clear hil
        cases a1 with
        | false =>
          by_cases c1 : 97 ≤ b.toNat
          · have d1 : decide ((97 : Int) ≤ (b.toNat : Int)) = true := decide_eq_true (by omega)
            by_cases c2 : b.toNat ≤ 122
            · have d2 : decide ((b.toNat : Int) ≤ 122) = true := decide_eq_true (by omega)
              have CC := Aside0.mk (And.intro c1 c2)
              have e1 : fascinelaw05_turned.tb false b = UInt8.ofNat (b.toNat - 32) := by unfold fascinelaw05_turned.tb; rw [if_neg (by decide), if_pos ⟨c1, c2⟩]
              have e2 : (((UInt8.ofNat (b.toNat - 32)).toNat : Nat) : Int) = ((b.toNat : Int) - 32) % 256 := by
                simp only [UInt8.toNat_ofNat']
                omega
              have E1 := Aside0.mk e1
              have E2 := Aside0.mk e2
              clear c1 c2 hlt e1 e2
              go_wp2
              go_roundg k1
              case measure => have := HK.out; omega
              case rel => exact ⟨i + 1, by rw [fascinelaw05_turned.p1 HIL.out HSM.out], ⟨by have := HK.out; omega⟩, ⟨by have := HIL.out; omega⟩, ⟨by have h := HR.out.set i (by rw [HBL.out]; exact HIL.out) (UInt8.ofNat (b.toNat - 32)); rw [E2.out, ← E1.out, STP.out] at h; exact h⟩, ⟨below_set HB'.out GE.out⟩⟩
            · have d2 : decide ((b.toNat : Int) ≤ 122) = false := decide_eq_false (by omega)
              have e1 : fascinelaw05_turned.tb false b = b := by unfold fascinelaw05_turned.tb; rw [if_neg (by decide), if_neg (fun h => c2 h.2)]
              have E1 := Aside0.mk e1
              clear c1 c2 hlt e1
              go_wp2
              go_roundg k1
              case measure => have := HK.out; omega
              case rel => exact ⟨i + 1, by rw [fascinelaw05_turned.p1 HIL.out HSM.out], ⟨by have := HK.out; omega⟩, ⟨by have := HIL.out; omega⟩, ⟨by rw [← SM.out E1.out]; exact HR.out⟩, ⟨HB'.out⟩⟩
          · have d1 : decide ((97 : Int) ≤ (b.toNat : Int)) = false := decide_eq_false (by omega)
            have e1 : fascinelaw05_turned.tb false b = b := by unfold fascinelaw05_turned.tb; rw [if_neg (by decide), if_neg (fun h => c1 h.1)]
            have E1 := Aside0.mk e1
            clear c1 hlt e1
            go_wp2
            go_roundg k1
            case measure => have := HK.out; omega
            case rel => exact ⟨i + 1, by rw [fascinelaw05_turned.p1 HIL.out HSM.out], ⟨by have := HK.out; omega⟩, ⟨by have := HIL.out; omega⟩, ⟨by rw [← SM.out E1.out]; exact HR.out⟩, ⟨HB'.out⟩⟩
        | true =>
          by_cases c1 : 65 ≤ b.toNat
          · have d1 : decide ((65 : Int) ≤ (b.toNat : Int)) = true := decide_eq_true (by omega)
            by_cases c2 : b.toNat ≤ 90
            · have d2 : decide ((b.toNat : Int) ≤ 90) = true := decide_eq_true (by omega)
              have e1 : fascinelaw05_turned.tb true b = UInt8.ofNat (b.toNat + 32) := by unfold fascinelaw05_turned.tb; rw [if_pos rfl, if_pos ⟨c1, c2⟩]
              have e2 : (((UInt8.ofNat (b.toNat + 32)).toNat : Nat) : Int) = ((b.toNat : Int) + 32) % 256 := by
                simp only [UInt8.toNat_ofNat']
                omega
              have E1 := Aside0.mk e1
              have E2 := Aside0.mk e2
              clear c1 c2 hlt e1 e2
              go_wp2
              go_roundg k1
              case measure => have := HK.out; omega
              case rel => exact ⟨i + 1, by rw [fascinelaw05_turned.p1 HIL.out HSM.out], ⟨by have := HK.out; omega⟩, ⟨by have := HIL.out; omega⟩, ⟨by have h := HR.out.set i (by rw [HBL.out]; exact HIL.out) (UInt8.ofNat (b.toNat + 32)); rw [E2.out, ← E1.out, STP.out] at h; exact h⟩, ⟨below_set HB'.out GE.out⟩⟩
            · have d2 : decide ((b.toNat : Int) ≤ 90) = false := decide_eq_false (by omega)
              have e1 : fascinelaw05_turned.tb true b = b := by unfold fascinelaw05_turned.tb; rw [if_pos rfl, if_neg (fun h => c2 h.2)]
              have E1 := Aside0.mk e1
              clear c1 c2 hlt e1
              go_wp2
              go_roundg k1
              case measure => have := HK.out; omega
              case rel => exact ⟨i + 1, by rw [fascinelaw05_turned.p1 HIL.out HSM.out], ⟨by have := HK.out; omega⟩, ⟨by have := HIL.out; omega⟩, ⟨by rw [← SM.out E1.out]; exact HR.out⟩, ⟨HB'.out⟩⟩
          · have d1 : decide ((65 : Int) ≤ (b.toNat : Int)) = false := decide_eq_false (by omega)
            have e1 : fascinelaw05_turned.tb true b = b := by unfold fascinelaw05_turned.tb; rw [if_pos rfl, if_neg (fun h => c1 h.1)]
            have E1 := Aside0.mk e1
            clear c1 hlt e1
            go_wp2
            go_roundg k1
            case measure => have := HK.out; omega
            case rel => exact ⟨i + 1, by rw [fascinelaw05_turned.p1 HIL.out HSM.out], ⟨by have := HK.out; omega⟩, ⟨by have := HIL.out; omega⟩, ⟨by rw [← SM.out E1.out]; exact HR.out⟩, ⟨HB'.out⟩⟩
      · obtain rfl : i = a0.size := by have := HI.out; omega
        have hn : decide ((a0.size : Int) < (a0.size : Int)) = false := decide_eq_false (by omega)
        have hn2 : decide (a0.size < a0.size) = false := decide_eq_false (by omega)
        clear hi
        have hsz := Lib.size_eq a0
        have hcv := HR.out.str (P := Tryd.prog) 50 9 cap Tryd.underlying50 Tryd.underlying5 Tryd.underlying9
        have hbl : ((a0.data.toList.take a0.size).map (fascinelaw05_turned.tb a1) ++ a0.data.toList.drop a0.size) = a0.data.toList.map (fascinelaw05_turned.tb a1) := by rw [hsz, List.take_length, List.drop_length, List.append_nil]
        rw [hbl, List.length_map, ← hsz] at hcv
        clear hsz hbl
        go_wp2
        go_ret
        exact ⟨rfl, by repeat (first | (with_reducible first | exact HB'.out | apply pw_below_drewN | apply below_drew1) | exact HB'.out)⟩

/-! ### fascinelaw05_WordsCase: function 4 -/
mutual
def fascinelaw05_WordsCase.j0 : Nat → List ByteArray → List ByteArray → List ByteArray → Bool → Option (Bool)
  | 0, _, _, _, _ => none
  | k + 1, x3, x4, x5, x28 => if x28 = true then (some false) else (fascinelaw05_WordsCase.l0 k x3 x4 x5 0)
def fascinelaw05_WordsCase.l0 : Nat → List ByteArray → List ByteArray → List ByteArray → Int → Option (Bool)
  | 0, _, _, _, _ => none
  | k + 1, x3, x4, x5, x6 => if x6 < (x3.length : Int) then (if 0 ≤ x6 then (if x6 < (x4.length : Int) then (if (rdOf ByteArray.empty x3 x6).toList = (rdOf ByteArray.empty x4 x6).toList then (if x6 < (x5.length : Int) then (if (rdOf ByteArray.empty x3 x6).toList = (rdOf ByteArray.empty x5 x6).toList then (fascinelaw05_WordsCase.l0 k x3 x4 x5 (wrap64 (x6 + 1))) else (some false)) else (none)) else (some false)) else (none)) else (none)) else (some true)
end
def fascinelaw05_WordsCase.f (k : Nat) (a0 : ByteArray) : Option (Bool) := (fascinelaw05_awake.f k).bind fun t147 => (if t147 = true then ((fascinelaw05_turned.f a0 false).bind fun t148 => ((words_Terms.f k t148).bind fun t149 => ((fascinelaw05_turned.f a0 true).bind fun t152 => ((words_Terms.f k t152).bind fun t153 => ((words_Terms.f k a0).bind fun t156 => (if (t149.length : Int) = (t153.length : Int) then (fascinelaw05_WordsCase.j0 k t149 t153 t156 ((t149.length : Int) != (t156.length : Int))) else (fascinelaw05_WordsCase.j0 k t149 t153 t156 true))))))) else (some false))
theorem fascinelaw05_WordsCase.mono_l : ∀ k, (∀ y0 y1 y2 y3, LeO (fascinelaw05_WordsCase.j0 k y0 y1 y2 y3) (fascinelaw05_WordsCase.j0 (k + 1) y0 y1 y2 y3)) ∧ (∀ y0 y1 y2 y3, LeO (fascinelaw05_WordsCase.l0 k y0 y1 y2 y3) (fascinelaw05_WordsCase.l0 (k + 1) y0 y1 y2 y3))
  | 0 => ⟨fun _ _ _ _ r h => by simp [fascinelaw05_WordsCase.j0] at h, fun _ _ _ _ r h => by simp [fascinelaw05_WordsCase.l0] at h⟩
  | k + 1 => by
    obtain ⟨ih0, ih1⟩ := fascinelaw05_WordsCase.mono_l k
    refine ⟨?_, ?_⟩
    · intro y0 y1 y2 y3
      unfold fascinelaw05_WordsCase.j0
      repeat' first
      | (with_reducible exact ih0 _ _ _ _)
      | (with_reducible exact ih1 _ _ _ _)
      | (with_reducible exact fascinelaw05_awake.mono _)
      | (with_reducible exact words_Terms.mono _ _)
      | (with_reducible exact LeO.refl _)
      | (with_reducible exact LeO.none _)
      | (with_reducible refine LeO.ite ?_ ?_)
      | (with_reducible refine LeO.bind ?_ (fun _ => ?_))
      | exact ih0 _ _ _ _
      | exact ih1 _ _ _ _
      | exact fascinelaw05_awake.mono _
      | exact words_Terms.mono _ _
      | exact LeO.none _
      | refine LeO.ite ?_ ?_
      | refine LeO.bind ?_ (fun _ => ?_)
    · intro y0 y1 y2 y3
      unfold fascinelaw05_WordsCase.l0
      repeat' first
      | (with_reducible exact ih0 _ _ _ _)
      | (with_reducible exact ih1 _ _ _ _)
      | (with_reducible exact fascinelaw05_awake.mono _)
      | (with_reducible exact words_Terms.mono _ _)
      | (with_reducible exact LeO.refl _)
      | (with_reducible exact LeO.none _)
      | (with_reducible refine LeO.ite ?_ ?_)
      | (with_reducible refine LeO.bind ?_ (fun _ => ?_))
      | exact ih0 _ _ _ _
      | exact ih1 _ _ _ _
      | exact fascinelaw05_awake.mono _
      | exact words_Terms.mono _ _
      | exact LeO.none _
      | refine LeO.ite ?_ ?_
      | refine LeO.bind ?_ (fun _ => ?_)
theorem fascinelaw05_WordsCase.mono : ∀ a0 k, LeO (fascinelaw05_WordsCase.f k a0) (fascinelaw05_WordsCase.f (k + 1) a0) := by
  intro a0 k
  obtain ⟨ih0, ih1⟩ := fascinelaw05_WordsCase.mono_l k
  unfold fascinelaw05_WordsCase.f
  repeat' first
      | (with_reducible exact ih0 _ _ _ _)
      | (with_reducible exact ih1 _ _ _ _)
      | (with_reducible exact fascinelaw05_awake.mono _)
      | (with_reducible exact words_Terms.mono _ _)
      | (with_reducible exact LeO.refl _)
      | (with_reducible exact LeO.none _)
      | (with_reducible refine LeO.ite ?_ ?_)
      | (with_reducible refine LeO.bind ?_ (fun _ => ?_))
      | exact ih0 _ _ _ _
      | exact ih1 _ _ _ _
      | exact fascinelaw05_awake.mono _
      | exact words_Terms.mono _ _
      | exact LeO.none _
      | refine LeO.ite ?_ ?_
      | refine LeO.bind ?_ (fun _ => ?_)
set_option maxHeartbeats 8000000 in
set_option maxRecDepth 100000 in
theorem fascinelaw05_WordsCase.calls (k : Nat) (a0 : ByteArray) (r : Bool) (w : World) (hT : tabs w) (h : fascinelaw05_WordsCase.f k a0 = some r) (hr_ : r = true) :
    Calls Tryd.prog 4 #[.string a0] w fun e w' => e = .returned (.bool r) ∧ Below w.heap.size w w' := by
  have HR_ := Aside0.mk hr_
  clear hr_
  have HT := Aside0.mk hT
  clear hT
  have HB := Aside0.mk (Below.refl w.heap.size w)
  have H : ((fascinelaw05_awake.f k).bind fun t147 => (if t147 = true then ((fascinelaw05_turned.f a0 false).bind fun t148 => ((words_Terms.f k t148).bind fun t149 => ((fascinelaw05_turned.f a0 true).bind fun t152 => ((words_Terms.f k t152).bind fun t153 => ((words_Terms.f k a0).bind fun t156 => (if (t149.length : Int) = (t153.length : Int) then (fascinelaw05_WordsCase.j0 k t149 t153 t156 ((t149.length : Int) != (t156.length : Int))) else (fascinelaw05_WordsCase.j0 k t149 t153 t156 true))))))) else (some false))) = some r := h
  clear h
  replace H := Option.bind_eq_some_iff.mp H
  obtain ⟨t147, A20, H⟩ := H
  replace H : (if t147 = true then ((fascinelaw05_turned.f a0 false).bind fun t148 => ((words_Terms.f k t148).bind fun t149 => ((fascinelaw05_turned.f a0 true).bind fun t152 => ((words_Terms.f k t152).bind fun t153 => ((words_Terms.f k a0).bind fun t156 => (if (t149.length : Int) = (t153.length : Int) then (fascinelaw05_WordsCase.j0 k t149 t153 t156 ((t149.length : Int) != (t156.length : Int))) else (fascinelaw05_WordsCase.j0 k t149 t153 t156 true))))))) else (some false)) = some r := H
  have A2 := Aside0.mk A20
  clear A20
  by_cases c3 : t147 = true
  · subst c3
    have H1 : ((fascinelaw05_turned.f a0 false).bind fun t148 => ((words_Terms.f k t148).bind fun t149 => ((fascinelaw05_turned.f a0 true).bind fun t152 => ((words_Terms.f k t152).bind fun t153 => ((words_Terms.f k a0).bind fun t156 => (if (t149.length : Int) = (t153.length : Int) then (fascinelaw05_WordsCase.j0 k t149 t153 t156 ((t149.length : Int) != (t156.length : Int))) else (fascinelaw05_WordsCase.j0 k t149 t153 t156 true))))))) = some r := by rw [if_pos rfl] at H; exact H
    clear H
    have H := H1
    clear H1
    replace H := Option.bind_eq_some_iff.mp H
    obtain ⟨t148, A40, H⟩ := H
    replace H : ((words_Terms.f k t148).bind fun t149 => ((fascinelaw05_turned.f a0 true).bind fun t152 => ((words_Terms.f k t152).bind fun t153 => ((words_Terms.f k a0).bind fun t156 => (if (t149.length : Int) = (t153.length : Int) then (fascinelaw05_WordsCase.j0 k t149 t153 t156 ((t149.length : Int) != (t156.length : Int))) else (fascinelaw05_WordsCase.j0 k t149 t153 t156 true)))))) = some r := H
    have A4 := Aside0.mk A40
    clear A40
    replace H := Option.bind_eq_some_iff.mp H
    obtain ⟨t149, A50, H⟩ := H
    replace H : ((fascinelaw05_turned.f a0 true).bind fun t152 => ((words_Terms.f k t152).bind fun t153 => ((words_Terms.f k a0).bind fun t156 => (if (t149.length : Int) = (t153.length : Int) then (fascinelaw05_WordsCase.j0 k t149 t153 t156 ((t149.length : Int) != (t156.length : Int))) else (fascinelaw05_WordsCase.j0 k t149 t153 t156 true))))) = some r := H
    have A5 := Aside0.mk A50
    clear A50
    replace H := Option.bind_eq_some_iff.mp H
    obtain ⟨t152, A60, H⟩ := H
    replace H : ((words_Terms.f k t152).bind fun t153 => ((words_Terms.f k a0).bind fun t156 => (if (t149.length : Int) = (t153.length : Int) then (fascinelaw05_WordsCase.j0 k t149 t153 t156 ((t149.length : Int) != (t156.length : Int))) else (fascinelaw05_WordsCase.j0 k t149 t153 t156 true)))) = some r := H
    have A6 := Aside0.mk A60
    clear A60
    replace H := Option.bind_eq_some_iff.mp H
    obtain ⟨t153, A70, H⟩ := H
    replace H : ((words_Terms.f k a0).bind fun t156 => (if (t149.length : Int) = (t153.length : Int) then (fascinelaw05_WordsCase.j0 k t149 t153 t156 ((t149.length : Int) != (t156.length : Int))) else (fascinelaw05_WordsCase.j0 k t149 t153 t156 true))) = some r := H
    have A7 := Aside0.mk A70
    clear A70
    replace H := Option.bind_eq_some_iff.mp H
    obtain ⟨t156, A80, H⟩ := H
    replace H : (if (t149.length : Int) = (t153.length : Int) then (fascinelaw05_WordsCase.j0 k t149 t153 t156 ((t149.length : Int) != (t156.length : Int))) else (fascinelaw05_WordsCase.j0 k t149 t153 t156 true)) = some r := H
    have A8 := Aside0.mk A80
    clear A80
    have HC9 := Aside0.mk H
    clear H
    go_enter Tryd.func4, Tryd.ntmps4
    go_upto_region 6 with (first | (go_at_call 11; (with_reducible refine (fascinelaw05_awake.calls k  true _ ?side1 A2.out).mono ?_); (case side1 => first | exact HT.out | exact tabs_below HT.out (by repeat (first | (with_reducible first | exact HB.out | apply below_alloc | apply pw_below_drewN | apply below_drew1) | exact HB.out))); rintro e w10 ⟨rfl, hb⟩; have n0_ := Aside0.mk (below_step (by repeat (first | (with_reducible first | exact HB.out | apply below_alloc | apply pw_below_drewN | apply below_drew1) | exact HB.out)) hb); clear HB; have HB := n0_; clear n0_; (try clear hb); (try clear hb2); (try clear hk); (try clear hi)) | (go_at_call 14; (with_reducible refine (fascinelaw05_turned.calls a0 false t148 _ A4.out).mono ?_); rintro e w11 ⟨rfl, hb⟩; have n0_ := Aside0.mk (below_step (by repeat (first | (with_reducible first | exact HB.out | apply below_alloc | apply pw_below_drewN | apply below_drew1) | exact HB.out)) hb); clear HB; have HB := n0_; clear n0_; (try clear hb); (try clear hb2); (try clear hk); (try clear hi)) | (go_at_call 12; (with_reducible refine (words_Terms.calls k t148 t149 _ ?side1 A5.out).mono ?_); (case side1 => first | exact HT.out | exact tabs_below HT.out (by repeat (first | (with_reducible first | exact HB.out | apply below_alloc | apply pw_below_drewN | apply below_drew1) | exact HB.out))); rintro e w12 ⟨v150, rfl, ho0, hb⟩; have n0_ := Aside0.mk (Kd.R_lower ho0 (below_size (by repeat (first | (with_reducible first | exact HB.out | apply below_alloc | apply pw_below_drewN | apply below_drew1) | exact HB.out)))); have n1_ := Aside0.mk (below_step (by repeat (first | (with_reducible first | exact HB.out | apply below_alloc | apply pw_below_drewN | apply below_drew1) | exact HB.out)) hb); clear HB; have HO151 := n0_; have HB := n1_; clear n0_ n1_; (try clear hb); (try clear hb2); (try clear hk); (try clear hi); (try clear ho0)) | (go_at_call 14; (with_reducible refine (fascinelaw05_turned.calls a0 true t152 _ A6.out).mono ?_); rintro e w13 ⟨rfl, hb⟩; have n0_ := Aside0.mk (Kd.R_below (by (with_reducible repeat (first | apply Kd.R_alloc | apply Kd.R_drewN | apply Kd.R_drew)); exact HO151.out) hb); have n1_ := Aside0.mk (below_step (by repeat (first | (with_reducible first | exact HB.out | apply below_alloc | apply pw_below_drewN | apply below_drew1) | exact HB.out)) hb); clear HO151; clear HB; have HO151 := n0_; have HB := n1_; clear n0_ n1_; (try clear hb); (try clear hb2); (try clear hk); (try clear hi)) | (go_at_call 12; (with_reducible refine (words_Terms.calls k t152 t153 _ ?side1 A7.out).mono ?_); (case side1 => first | exact HT.out | exact tabs_below HT.out (by repeat (first | (with_reducible first | exact HB.out | apply below_alloc | apply pw_below_drewN | apply below_drew1) | exact HB.out))); rintro e w14 ⟨v154, rfl, ho0, hb⟩; have n0_ := Aside0.mk (Kd.R_elder' (by (with_reducible repeat (first | apply Kd.R_alloc | apply Kd.R_drewN | apply Kd.R_drew)); exact HO151.out) (Kd.R_base ho0) hb); have n1_ := Aside0.mk (Kd.R_lower (Kd.R_new' ho0 (Kd.R_lt (by (with_reducible repeat (first | apply Kd.R_alloc | apply Kd.R_drewN | apply Kd.R_drew)); exact HO151.out))) (below_size (by repeat (first | (with_reducible first | exact HB.out | apply below_alloc | apply pw_below_drewN | apply below_drew1) | exact HB.out)))); have n2_ := Aside0.mk (below_step (by repeat (first | (with_reducible first | exact HB.out | apply below_alloc | apply pw_below_drewN | apply below_drew1) | exact HB.out)) hb); clear HO151; clear HB; have HO151 := n0_; have HO155 := n1_; have HB := n2_; clear n0_ n1_ n2_; (try clear hb); (try clear hb2); (try clear hk); (try clear hi); (try clear ho0)) | (go_at_call 12; (with_reducible refine (words_Terms.calls k a0 t156 _ ?side1 A8.out).mono ?_); (case side1 => first | exact HT.out | exact tabs_below HT.out (by repeat (first | (with_reducible first | exact HB.out | apply below_alloc | apply pw_below_drewN | apply below_drew1) | exact HB.out))); rintro e w15 ⟨v157, rfl, ho0, hb⟩; have n0_ := Aside0.mk (Kd.R_elder' (by (with_reducible repeat (first | apply Kd.R_alloc | apply Kd.R_drewN | apply Kd.R_drew)); exact HO151.out) (Kd.R_base ho0) hb); have n1_ := Aside0.mk (Kd.R_elder' (by (with_reducible repeat (first | apply Kd.R_alloc | apply Kd.R_drewN | apply Kd.R_drew)); exact HO155.out) (Kd.R_base ho0) hb); have n2_ := Aside0.mk (Kd.R_lower (Kd.R_new' (Kd.R_new' ho0 (Kd.R_lt (by (with_reducible repeat (first | apply Kd.R_alloc | apply Kd.R_drewN | apply Kd.R_drew)); exact HO151.out))) (Kd.R_lt (by (with_reducible repeat (first | apply Kd.R_alloc | apply Kd.R_drewN | apply Kd.R_drew)); exact HO155.out))) (below_size (by repeat (first | (with_reducible first | exact HB.out | apply below_alloc | apply pw_below_drewN | apply below_drew1) | exact HB.out)))); have n3_ := Aside0.mk (below_step (by repeat (first | (with_reducible first | exact HB.out | apply below_alloc | apply pw_below_drewN | apply below_drew1) | exact HB.out)) hb); clear HO151; clear HO155; clear HB; have HO151 := n0_; have HO155 := n1_; have HO158 := n2_; have HB := n3_; clear n0_ n1_ n2_ n3_; (try clear hb); (try clear hb2); (try clear hk); (try clear hi); (try clear ho0)))
    repeat (go_quiet (first | (go_at_call 11; (with_reducible refine (fascinelaw05_awake.calls k  true _ ?side1 A2.out).mono ?_); (case side1 => first | exact HT.out | exact tabs_below HT.out (by repeat (first | (with_reducible first | exact HB.out | apply below_alloc | apply pw_below_drewN | apply below_drew1) | exact HB.out))); rintro e w10 ⟨rfl, hb⟩; have n0_ := Aside0.mk (below_step (by repeat (first | (with_reducible first | exact HB.out | apply below_alloc | apply pw_below_drewN | apply below_drew1) | exact HB.out)) hb); clear HB; have HB := n0_; clear n0_; (try clear hb); (try clear hb2); (try clear hk); (try clear hi)) | (go_at_call 14; (with_reducible refine (fascinelaw05_turned.calls a0 false t148 _ A4.out).mono ?_); rintro e w11 ⟨rfl, hb⟩; have n0_ := Aside0.mk (below_step (by repeat (first | (with_reducible first | exact HB.out | apply below_alloc | apply pw_below_drewN | apply below_drew1) | exact HB.out)) hb); clear HB; have HB := n0_; clear n0_; (try clear hb); (try clear hb2); (try clear hk); (try clear hi)) | (go_at_call 12; (with_reducible refine (words_Terms.calls k t148 t149 _ ?side1 A5.out).mono ?_); (case side1 => first | exact HT.out | exact tabs_below HT.out (by repeat (first | (with_reducible first | exact HB.out | apply below_alloc | apply pw_below_drewN | apply below_drew1) | exact HB.out))); rintro e w12 ⟨v150, rfl, ho0, hb⟩; have n0_ := Aside0.mk (Kd.R_lower ho0 (below_size (by repeat (first | (with_reducible first | exact HB.out | apply below_alloc | apply pw_below_drewN | apply below_drew1) | exact HB.out)))); have n1_ := Aside0.mk (below_step (by repeat (first | (with_reducible first | exact HB.out | apply below_alloc | apply pw_below_drewN | apply below_drew1) | exact HB.out)) hb); clear HB; have HO151 := n0_; have HB := n1_; clear n0_ n1_; (try clear hb); (try clear hb2); (try clear hk); (try clear hi); (try clear ho0)) | (go_at_call 14; (with_reducible refine (fascinelaw05_turned.calls a0 true t152 _ A6.out).mono ?_); rintro e w13 ⟨rfl, hb⟩; have n0_ := Aside0.mk (Kd.R_below (by (with_reducible repeat (first | apply Kd.R_alloc | apply Kd.R_drewN | apply Kd.R_drew)); exact HO151.out) hb); have n1_ := Aside0.mk (below_step (by repeat (first | (with_reducible first | exact HB.out | apply below_alloc | apply pw_below_drewN | apply below_drew1) | exact HB.out)) hb); clear HO151; clear HB; have HO151 := n0_; have HB := n1_; clear n0_ n1_; (try clear hb); (try clear hb2); (try clear hk); (try clear hi)) | (go_at_call 12; (with_reducible refine (words_Terms.calls k t152 t153 _ ?side1 A7.out).mono ?_); (case side1 => first | exact HT.out | exact tabs_below HT.out (by repeat (first | (with_reducible first | exact HB.out | apply below_alloc | apply pw_below_drewN | apply below_drew1) | exact HB.out))); rintro e w14 ⟨v154, rfl, ho0, hb⟩; have n0_ := Aside0.mk (Kd.R_elder' (by (with_reducible repeat (first | apply Kd.R_alloc | apply Kd.R_drewN | apply Kd.R_drew)); exact HO151.out) (Kd.R_base ho0) hb); have n1_ := Aside0.mk (Kd.R_lower (Kd.R_new' ho0 (Kd.R_lt (by (with_reducible repeat (first | apply Kd.R_alloc | apply Kd.R_drewN | apply Kd.R_drew)); exact HO151.out))) (below_size (by repeat (first | (with_reducible first | exact HB.out | apply below_alloc | apply pw_below_drewN | apply below_drew1) | exact HB.out)))); have n2_ := Aside0.mk (below_step (by repeat (first | (with_reducible first | exact HB.out | apply below_alloc | apply pw_below_drewN | apply below_drew1) | exact HB.out)) hb); clear HO151; clear HB; have HO151 := n0_; have HO155 := n1_; have HB := n2_; clear n0_ n1_ n2_; (try clear hb); (try clear hb2); (try clear hk); (try clear hi); (try clear ho0)) | (go_at_call 12; (with_reducible refine (words_Terms.calls k a0 t156 _ ?side1 A8.out).mono ?_); (case side1 => first | exact HT.out | exact tabs_below HT.out (by repeat (first | (with_reducible first | exact HB.out | apply below_alloc | apply pw_below_drewN | apply below_drew1) | exact HB.out))); rintro e w15 ⟨v157, rfl, ho0, hb⟩; have n0_ := Aside0.mk (Kd.R_elder' (by (with_reducible repeat (first | apply Kd.R_alloc | apply Kd.R_drewN | apply Kd.R_drew)); exact HO151.out) (Kd.R_base ho0) hb); have n1_ := Aside0.mk (Kd.R_elder' (by (with_reducible repeat (first | apply Kd.R_alloc | apply Kd.R_drewN | apply Kd.R_drew)); exact HO155.out) (Kd.R_base ho0) hb); have n2_ := Aside0.mk (Kd.R_lower (Kd.R_new' (Kd.R_new' ho0 (Kd.R_lt (by (with_reducible repeat (first | apply Kd.R_alloc | apply Kd.R_drewN | apply Kd.R_drew)); exact HO151.out))) (Kd.R_lt (by (with_reducible repeat (first | apply Kd.R_alloc | apply Kd.R_drewN | apply Kd.R_drew)); exact HO155.out))) (below_size (by repeat (first | (with_reducible first | exact HB.out | apply below_alloc | apply pw_below_drewN | apply below_drew1) | exact HB.out)))); have n3_ := Aside0.mk (below_step (by repeat (first | (with_reducible first | exact HB.out | apply below_alloc | apply pw_below_drewN | apply below_drew1) | exact HB.out)) hb); clear HO151; clear HO155; clear HB; have HO151 := n0_; have HO155 := n1_; have HO158 := n2_; have HB := n3_; clear n0_ n1_ n2_ n3_; (try clear hb); (try clear hb2); (try clear hk); (try clear hi); (try clear ho0))); go_upto_region 6 with (first | (go_at_call 11; (with_reducible refine (fascinelaw05_awake.calls k  true _ ?side1 A2.out).mono ?_); (case side1 => first | exact HT.out | exact tabs_below HT.out (by repeat (first | (with_reducible first | exact HB.out | apply below_alloc | apply pw_below_drewN | apply below_drew1) | exact HB.out))); rintro e w10 ⟨rfl, hb⟩; have n0_ := Aside0.mk (below_step (by repeat (first | (with_reducible first | exact HB.out | apply below_alloc | apply pw_below_drewN | apply below_drew1) | exact HB.out)) hb); clear HB; have HB := n0_; clear n0_; (try clear hb); (try clear hb2); (try clear hk); (try clear hi)) | (go_at_call 14; (with_reducible refine (fascinelaw05_turned.calls a0 false t148 _ A4.out).mono ?_); rintro e w11 ⟨rfl, hb⟩; have n0_ := Aside0.mk (below_step (by repeat (first | (with_reducible first | exact HB.out | apply below_alloc | apply pw_below_drewN | apply below_drew1) | exact HB.out)) hb); clear HB; have HB := n0_; clear n0_; (try clear hb); (try clear hb2); (try clear hk); (try clear hi)) | (go_at_call 12; (with_reducible refine (words_Terms.calls k t148 t149 _ ?side1 A5.out).mono ?_); (case side1 => first | exact HT.out | exact tabs_below HT.out (by repeat (first | (with_reducible first | exact HB.out | apply below_alloc | apply pw_below_drewN | apply below_drew1) | exact HB.out))); rintro e w12 ⟨v150, rfl, ho0, hb⟩; have n0_ := Aside0.mk (Kd.R_lower ho0 (below_size (by repeat (first | (with_reducible first | exact HB.out | apply below_alloc | apply pw_below_drewN | apply below_drew1) | exact HB.out)))); have n1_ := Aside0.mk (below_step (by repeat (first | (with_reducible first | exact HB.out | apply below_alloc | apply pw_below_drewN | apply below_drew1) | exact HB.out)) hb); clear HB; have HO151 := n0_; have HB := n1_; clear n0_ n1_; (try clear hb); (try clear hb2); (try clear hk); (try clear hi); (try clear ho0)) | (go_at_call 14; (with_reducible refine (fascinelaw05_turned.calls a0 true t152 _ A6.out).mono ?_); rintro e w13 ⟨rfl, hb⟩; have n0_ := Aside0.mk (Kd.R_below (by (with_reducible repeat (first | apply Kd.R_alloc | apply Kd.R_drewN | apply Kd.R_drew)); exact HO151.out) hb); have n1_ := Aside0.mk (below_step (by repeat (first | (with_reducible first | exact HB.out | apply below_alloc | apply pw_below_drewN | apply below_drew1) | exact HB.out)) hb); clear HO151; clear HB; have HO151 := n0_; have HB := n1_; clear n0_ n1_; (try clear hb); (try clear hb2); (try clear hk); (try clear hi)) | (go_at_call 12; (with_reducible refine (words_Terms.calls k t152 t153 _ ?side1 A7.out).mono ?_); (case side1 => first | exact HT.out | exact tabs_below HT.out (by repeat (first | (with_reducible first | exact HB.out | apply below_alloc | apply pw_below_drewN | apply below_drew1) | exact HB.out))); rintro e w14 ⟨v154, rfl, ho0, hb⟩; have n0_ := Aside0.mk (Kd.R_elder' (by (with_reducible repeat (first | apply Kd.R_alloc | apply Kd.R_drewN | apply Kd.R_drew)); exact HO151.out) (Kd.R_base ho0) hb); have n1_ := Aside0.mk (Kd.R_lower (Kd.R_new' ho0 (Kd.R_lt (by (with_reducible repeat (first | apply Kd.R_alloc | apply Kd.R_drewN | apply Kd.R_drew)); exact HO151.out))) (below_size (by repeat (first | (with_reducible first | exact HB.out | apply below_alloc | apply pw_below_drewN | apply below_drew1) | exact HB.out)))); have n2_ := Aside0.mk (below_step (by repeat (first | (with_reducible first | exact HB.out | apply below_alloc | apply pw_below_drewN | apply below_drew1) | exact HB.out)) hb); clear HO151; clear HB; have HO151 := n0_; have HO155 := n1_; have HB := n2_; clear n0_ n1_ n2_; (try clear hb); (try clear hb2); (try clear hk); (try clear hi); (try clear ho0)) | (go_at_call 12; (with_reducible refine (words_Terms.calls k a0 t156 _ ?side1 A8.out).mono ?_); (case side1 => first | exact HT.out | exact tabs_below HT.out (by repeat (first | (with_reducible first | exact HB.out | apply below_alloc | apply pw_below_drewN | apply below_drew1) | exact HB.out))); rintro e w15 ⟨v157, rfl, ho0, hb⟩; have n0_ := Aside0.mk (Kd.R_elder' (by (with_reducible repeat (first | apply Kd.R_alloc | apply Kd.R_drewN | apply Kd.R_drew)); exact HO151.out) (Kd.R_base ho0) hb); have n1_ := Aside0.mk (Kd.R_elder' (by (with_reducible repeat (first | apply Kd.R_alloc | apply Kd.R_drewN | apply Kd.R_drew)); exact HO155.out) (Kd.R_base ho0) hb); have n2_ := Aside0.mk (Kd.R_lower (Kd.R_new' (Kd.R_new' ho0 (Kd.R_lt (by (with_reducible repeat (first | apply Kd.R_alloc | apply Kd.R_drewN | apply Kd.R_drew)); exact HO151.out))) (Kd.R_lt (by (with_reducible repeat (first | apply Kd.R_alloc | apply Kd.R_drewN | apply Kd.R_drew)); exact HO155.out))) (below_size (by repeat (first | (with_reducible first | exact HB.out | apply below_alloc | apply pw_below_drewN | apply below_drew1) | exact HB.out)))); have n3_ := Aside0.mk (below_step (by repeat (first | (with_reducible first | exact HB.out | apply below_alloc | apply pw_below_drewN | apply below_drew1) | exact HB.out)) hb); clear HO151; clear HO155; clear HB; have HO151 := n0_; have HO155 := n1_; have HO158 := n2_; have HB := n3_; clear n0_ n1_ n2_ n3_; (try clear hb); (try clear hb2); (try clear hk); (try clear hi); (try clear ho0))))
    (try simp only [Act.put, List.setIfInBounds_toArray, List.set_cons_zero, List.set_cons_succ])
    go_cut [28] (fun v28 wc => ∃ (kq : Nat) (x28_8 : Bool), v28 = .bool x28_8 ∧ Aside0 (fascinelaw05_WordsCase.j0 kq t149 t153 t156 x28_8 = some r) ∧ Aside0 (kq ≤ k) ∧ Aside0 (Kd.R Kd.string 9 wc w.heap.size (fun k_ => some k_ ≠ (v154 : Value).ownBlock ∧ some k_ ≠ (v157 : Value).ownBlock) v150 t149) ∧ Aside0 (Kd.R Kd.string 9 wc w.heap.size (fun k_ => some k_ ≠ (v150 : Value).ownBlock ∧ some k_ ≠ (v157 : Value).ownBlock) v154 t153) ∧ Aside0 (Kd.R Kd.string 9 wc w.heap.size (fun k_ => some k_ ≠ (v150 : Value).ownBlock ∧ some k_ ≠ (v154 : Value).ownBlock) v157 t156) ∧ Aside0 (Below w.heap.size w wc))
    case first =>
      have H := HC9.out
      clear HC9
      by_cases c16 : (t149.length : Int) = (t153.length : Int)
      · rw [if_pos c16] at H
        have c16b0 : ((t149.length : Int) == (t153.length : Int)) = true := beq_iff_eq.mpr c16
        have c16b1 : ((t149.length : Int) != (t153.length : Int)) = false := bne_eq_false_iff_eq.mpr c16
        have c16b2 : (t149.length == t153.length) = true := by first | simpa using c16 | (simp at c16 ⊢; omega)
        clear c16
        (first | rw [c16b0] | (simp only [i64_w, i32_w]; rw [c16b0]) | skip)
        have H' := Aside0.mk H
        clear H
        obtain ⟨Ao17, co17, eo17⟩ := Kd.R_slice HO151.out
        subst eo17
        obtain ⟨Ao18, co18, eo18⟩ := Kd.R_slice HO155.out
        subst eo18
        obtain ⟨Ao19, co19, eo19⟩ := Kd.R_slice HO158.out
        subst eo19
        go_wp2
        repeat (go_quiet (fail); try go_wp2)
        go_meet
        case rel => exact ⟨_, (((t149.length : Int) != (t156.length : Int))), (by first | rfl | (simp; done) | (simp [*]; done)), H', ⟨by first | omega | exact Nat.le_refl _⟩, ⟨by (with_reducible repeat (first | apply Kd.R_alloc | apply Kd.R_drewN | apply Kd.R_drew)); exact Kd.R_mono HO151.out (fun _ hk => ⟨hk.1.2, hk.2⟩)⟩, ⟨by (with_reducible repeat (first | apply Kd.R_alloc | apply Kd.R_drewN | apply Kd.R_drew)); exact Kd.R_mono HO155.out (fun _ hk => ⟨hk.1.2, hk.2⟩)⟩, ⟨by (with_reducible repeat (first | apply Kd.R_alloc | apply Kd.R_drewN | apply Kd.R_drew)); exact Kd.R_mono HO158.out (fun _ hk => ⟨hk.1.2, hk.2⟩)⟩, ⟨by repeat (first | (with_reducible first | exact HB.out | apply below_alloc | apply pw_below_drewN | apply below_drew1) | exact HB.out)⟩⟩
      · rw [if_neg c16] at H
        have c16b0 : ((t149.length : Int) == (t153.length : Int)) = false := beq_eq_false_iff_ne.mpr c16
        have c16b1 : ((t149.length : Int) != (t153.length : Int)) = true := bne_iff_ne.mpr c16
        have c16b2 : (t149.length == t153.length) = false := by first | simpa using c16 | (simp at c16 ⊢; omega)
        (first | rw [c16b0] | (simp only [i64_w, i32_w]; rw [c16b0]) | skip)
        have H' := Aside0.mk H
        clear H
        obtain ⟨Ao20, co20, eo20⟩ := Kd.R_slice HO151.out
        subst eo20
        obtain ⟨Ao21, co21, eo21⟩ := Kd.R_slice HO155.out
        subst eo21
        go_wp2
        repeat (go_quiet (fail); try go_wp2)
        go_meet
        case rel => exact ⟨_, (true), (by first | rfl | (simp; done) | (simp [*]; done)), H', ⟨by first | omega | exact Nat.le_refl _⟩, ⟨by (with_reducible repeat (first | apply Kd.R_alloc | apply Kd.R_drewN | apply Kd.R_drew)); exact Kd.R_mono HO151.out (fun _ hk => ⟨hk.1.2, hk.2⟩)⟩, ⟨by (with_reducible repeat (first | apply Kd.R_alloc | apply Kd.R_drewN | apply Kd.R_drew)); exact Kd.R_mono HO155.out (fun _ hk => ⟨hk.1.2, hk.2⟩)⟩, ⟨by (with_reducible repeat (first | apply Kd.R_alloc | apply Kd.R_drewN | apply Kd.R_drew)); exact Kd.R_mono HO158.out (fun _ hk => ⟨hk.1.2, hk.2⟩)⟩, ⟨by repeat (first | (with_reducible first | exact HB.out | apply below_alloc | apply pw_below_drewN | apply below_drew1) | exact HB.out)⟩⟩
    case rest =>
      clear HC9
      try clear c1
      try clear p2
      try clear c3
      try clear c4
      try clear c16
      try clear c16b0
      try clear c16b1
      try clear c16b2
      obtain ⟨kq, x28_8, rfl, HA, HJ8, HO_3, HO_4, HO_5, HB⟩ := hcut
      cases kq with
      | zero => exact absurd HA.out (by simp [fascinelaw05_WordsCase.j0])
      | succ kj8 =>
        have H := HA.out
        clear HA
        simp only [fascinelaw05_WordsCase.j0] at H
        by_cases c22 : x28_8 = true
        · subst c22
          have H1 : (some false) = some r := by rw [if_pos rfl] at H; exact H
          clear H
          have H := H1
          clear H1
          exact absurd (HR_.out.symm.trans (Option.some.inj H).symm) (by decide)
        · replace c22 := Bool.eq_false_iff.mpr c22
          subst c22
          have H1 : (fascinelaw05_WordsCase.l0 kj8 t149 t153 t156 0) = some r := by rw [if_neg (show ¬ (false = true) by decide)] at H; exact H
          clear H
          have H := H1
          clear H1
          have H' := Aside0.mk H
          clear H
          go_wp2
          repeat (go_quiet (fail); try go_wp2)
          go_loopg [6] kj8 (fun kq v6 w' => ∃ (x6_2 : Int), v6 = .int .i64 x6_2 ∧ Aside0 (fascinelaw05_WordsCase.l0 kq t149 t153 t156 x6_2 = some r) ∧ Aside0 (kq ≤ kj8) ∧ Aside0 (Kd.R Kd.string 9 w' w.heap.size (fun k_ => some k_ ≠ (v154 : Value).ownBlock ∧ some k_ ≠ (v157 : Value).ownBlock) v150 t149) ∧ Aside0 (Kd.R Kd.string 9 w' w.heap.size (fun k_ => some k_ ≠ (v150 : Value).ownBlock ∧ some k_ ≠ (v157 : Value).ownBlock) v154 t153) ∧ Aside0 (Kd.R Kd.string 9 w' w.heap.size (fun k_ => some k_ ≠ (v150 : Value).ownBlock ∧ some k_ ≠ (v154 : Value).ownBlock) v157 t156) ∧ Aside0 (Below w.heap.size w w'))
          case atStart => exact ⟨(0), (by first | rfl | (simp; done) | (simp [*]; done)), H', ⟨Nat.le_refl _⟩, ⟨by (with_reducible repeat (first | apply Kd.R_alloc | apply Kd.R_drewN | apply Kd.R_drew)); exact HO_3.out⟩, ⟨by (with_reducible repeat (first | apply Kd.R_alloc | apply Kd.R_drewN | apply Kd.R_drew)); exact HO_4.out⟩, ⟨by (with_reducible repeat (first | apply Kd.R_alloc | apply Kd.R_drewN | apply Kd.R_drew)); exact HO_5.out⟩, ⟨by repeat (first | (with_reducible first | exact HB.out | apply below_alloc | apply pw_below_drewN | apply below_drew1) | exact HB.out)⟩⟩
          case round =>
            clear H'
            try clear c1
            try clear c2
            try clear p2
            try clear c3
            try clear c4
            try clear c16
            try clear c16b0
            try clear c16b1
            try clear c16b2
            try clear c22
            try clear p2
            obtain ⟨x6_2, rfl, HA, HK2, HO_3, HO_4, HO_5, HB⟩ := hrel
            cases gk with
            | zero => exact absurd HA.out (by simp [fascinelaw05_WordsCase.l0])
            | succ k2 =>
              have H := HA.out
              clear HA
              simp only [fascinelaw05_WordsCase.l0] at H
              by_cases c23 : x6_2 < (t149.length : Int)
              · rw [if_pos c23] at H
                have c23b0 : decide (x6_2 < (t149.length : Int)) = true := decide_eq_true c23
                clear c23
                by_cases c24 : 0 ≤ x6_2
                · rw [if_pos c24] at H
                  have c24b0 : decide (0 ≤ x6_2) = true := decide_eq_true c24
                  clear c24
                  by_cases c25 : x6_2 < (t153.length : Int)
                  · rw [if_pos c25] at H
                    have c25b0 : decide (x6_2 < (t153.length : Int)) = true := decide_eq_true c25
                    clear c25
                    by_cases c26 : (rdOf ByteArray.empty t149 x6_2).toList = (rdOf ByteArray.empty t153 x6_2).toList
                    · rw [if_pos c26] at H
                      have c26b0 : ((rdOf ByteArray.empty t149 x6_2).toList == (rdOf ByteArray.empty t153 x6_2).toList) = true := beq_iff_eq.mpr c26
                      have c26b1 : ((rdOf ByteArray.empty t149 x6_2).toList != (rdOf ByteArray.empty t153 x6_2).toList) = false := bne_eq_false_iff_eq.mpr c26
                      clear c26
                      by_cases c27 : x6_2 < (t156.length : Int)
                      · rw [if_pos c27] at H
                        have c27b0 : decide (x6_2 < (t156.length : Int)) = true := decide_eq_true c27
                        clear c27
                        by_cases c28 : (rdOf ByteArray.empty t149 x6_2).toList = (rdOf ByteArray.empty t156 x6_2).toList
                        · rw [if_pos c28] at H
                          have c28b0 : ((rdOf ByteArray.empty t149 x6_2).toList == (rdOf ByteArray.empty t156 x6_2).toList) = true := beq_iff_eq.mpr c28
                          have c28b1 : ((rdOf ByteArray.empty t149 x6_2).toList != (rdOf ByteArray.empty t156 x6_2).toList) = false := bne_eq_false_iff_eq.mpr c28
                          clear c28
                          have H' := Aside0.mk H
                          clear H
                          obtain ⟨Ao29, co29, eo29⟩ := Kd.R_slice HO_3.out
                          subst eo29
                          have p159 : 0 ≤ (x6_2 : Int) := of_decide_eq_true (by first | (with_reducible assumption) | assumption)
                          have q159 : x6_2 < (t149.length : Int) := of_decide_eq_true (by first | (with_reducible assumption) | assumption)
                          obtain ⟨ad159, e159, hx159_0⟩ := Kd.at_string (Kd.R_reads' HO_3.out).2.2 x6_2 p159 q159
                          cases e159
                          replace p159 := eq_true p159
                          replace q159 := eq_true q159
                          obtain ⟨Ao30, co30, eo30⟩ := Kd.R_slice HO_4.out
                          subst eo30
                          have p160 : 0 ≤ (x6_2 : Int) := of_decide_eq_true (by first | (with_reducible assumption) | assumption)
                          have q160 : x6_2 < (t153.length : Int) := of_decide_eq_true (by first | (with_reducible assumption) | assumption)
                          obtain ⟨ad160, e160, hx160_0⟩ := Kd.at_string (Kd.R_reads' HO_4.out).2.2 x6_2 p160 q160
                          cases e160
                          replace p160 := eq_true p160
                          replace q160 := eq_true q160
                          have p161 : 0 ≤ (x6_2 : Int) := of_decide_eq_true (by first | (with_reducible assumption) | assumption)
                          have q161 : x6_2 < (t149.length : Int) := of_decide_eq_true (by first | (with_reducible assumption) | assumption)
                          obtain ⟨ad161, e161, hx161_0⟩ := Kd.at_string (Kd.R_reads' HO_3.out).2.2 x6_2 p161 q161
                          obtain rfl : ad159 = ad161 := (by injection e161)
                          replace p161 := eq_true p161
                          replace q161 := eq_true q161
                          obtain ⟨Ao31, co31, eo31⟩ := Kd.R_slice HO_5.out
                          subst eo31
                          have p162 : 0 ≤ (x6_2 : Int) := of_decide_eq_true (by first | (with_reducible assumption) | assumption)
                          have q162 : x6_2 < (t156.length : Int) := of_decide_eq_true (by first | (with_reducible assumption) | assumption)
                          obtain ⟨ad162, e162, hx162_0⟩ := Kd.at_string (Kd.R_reads' HO_5.out).2.2 x6_2 p162 q162
                          cases e162
                          replace p162 := eq_true p162
                          replace q162 := eq_true q162
                          go_wp2
                          repeat (go_quiet (fail); try go_wp2)
                          go_roundg k2
                          case measure => have := HJ8.out; have := HK2.out; omega
                          case rel => exact ⟨(wrap64 (x6_2 + 1)), (by first | rfl | (simp; done) | (simp [*]; done)), H', ⟨by have := HJ8.out; have := HK2.out; omega⟩, ⟨by (with_reducible repeat (first | apply Kd.R_alloc | apply Kd.R_drewN | apply Kd.R_drew)); exact HO_3.out⟩, ⟨by (with_reducible repeat (first | apply Kd.R_alloc | apply Kd.R_drewN | apply Kd.R_drew)); exact HO_4.out⟩, ⟨by (with_reducible repeat (first | apply Kd.R_alloc | apply Kd.R_drewN | apply Kd.R_drew)); exact HO_5.out⟩, ⟨by repeat (first | (with_reducible first | exact HB.out | apply below_alloc | apply pw_below_drewN | apply below_drew1) | exact HB.out)⟩⟩
                        · rw [if_neg c28] at H
                          have c28b0 : ((rdOf ByteArray.empty t149 x6_2).toList == (rdOf ByteArray.empty t156 x6_2).toList) = false := beq_eq_false_iff_ne.mpr c28
                          have c28b1 : ((rdOf ByteArray.empty t149 x6_2).toList != (rdOf ByteArray.empty t156 x6_2).toList) = true := bne_iff_ne.mpr c28
                          exact absurd (HR_.out.symm.trans (Option.some.inj H).symm) (by decide)
                      · rw [if_neg c27] at H
                        exact absurd H (by simp)
                    · rw [if_neg c26] at H
                      have c26b0 : ((rdOf ByteArray.empty t149 x6_2).toList == (rdOf ByteArray.empty t153 x6_2).toList) = false := beq_eq_false_iff_ne.mpr c26
                      have c26b1 : ((rdOf ByteArray.empty t149 x6_2).toList != (rdOf ByteArray.empty t153 x6_2).toList) = true := bne_iff_ne.mpr c26
                      exact absurd (HR_.out.symm.trans (Option.some.inj H).symm) (by decide)
                  · rw [if_neg c25] at H
                    exact absurd H (by simp)
                · rw [if_neg c24] at H
                  exact absurd H (by simp)
              · rw [if_neg c23] at H
                have c23b0 : decide (x6_2 < (t149.length : Int)) = false := decide_eq_false c23
                clear c23
                obtain rfl := Option.some.inj H
                obtain ⟨Ao32, co32, eo32⟩ := Kd.R_slice HO_3.out
                subst eo32
                go_wp2
                repeat (go_quiet (fail); try go_wp2)
                go_ret
                exact ⟨by first | rfl | (simp [errW_none, errW_some] <;> rfl) | (simp [*, errW_none, errW_some] <;> rfl), by repeat (first | (with_reducible first | exact HB.out | apply below_alloc | apply pw_below_drewN | apply below_drew1) | exact HB.out)⟩
  · replace c3 := Bool.eq_false_iff.mpr c3
    subst c3
    have H1 : (some false) = some r := by rw [if_neg (show ¬ (false = true) by decide)] at H; exact H
    clear H
    have H := H1
    clear H1
    exact absurd (HR_.out.symm.trans (Option.some.inj H).symm) (by decide)

/-- THE ONE PURE STATEMENT of fascinelaw05_WordsCase: yours. -/
def fascinelaw05_WordsCase.Pure : Prop := ∀ (a0 : ByteArray), a0.size ≤ 140737488351232 → ∃ k, fascinelaw05_WordsCase.f k a0 = some true
theorem fascinelaw05_WordsCase.walk (P : fascinelaw05_WordsCase.Pure) (a0 : ByteArray) (w : World) (hT : tabs w) (w0 : a0.size ≤ 140737488351232) :
    Calls Tryd.prog 4 #[.string a0] w fun e w' => e = .returned (.bool true) ∧ Below w.heap.size w w' := by
  obtain ⟨k, h⟩ := P a0 w0
  refine (fascinelaw05_WordsCase.calls k a0 true w hT h rfl).mono ?_
  rintro e w' ⟨rfl, hd⟩
  exact ⟨rfl, hd⟩

end Go.Proofs.YtpkjfpapjcmhdaaDoor.PWordsCase
