-- WRITTEN BY A PROGRAM OF THIS SESSION (wip/patch_print.py: the kit's printer with rules of this session's own); Lean checks it.
import Derived.Test.YtpkjfpapjcmhdaaDoorPWordsToldx0
import Derived.Test.YtpkjfpapjcmhdaaDoorPWordsToldx1
import Derived.Test.YtpkjfpapjcmhdaaDoorPWordsToldx3
namespace Go.Proofs.YtpkjfpapjcmhdaaDoor.PWordsTold
open Go.RowKit Go.Proofs.YtpkjfpapjcmhdaaDoorW.PrintWords Go.Proofs.YtpkjfpapjcmhdaaDoorW.PrintLast Go.Proofs.YtpkjfpapjcmhdaaDoorW.PrintMore
open Go.Proofs.YtpkjfpapjcmhdaaDoor.G
attribute [local go_sem] max2_int min2_int max_two min_two max_three min_three max_four min_four   -- for this text's walks alone
set_option linter.unusedVariables false
set_option linter.unusedSimpArgs false

/-! ### fascineref05_Pair: function 21 -/
def fascineref05_Pair.f (k : Nat) (a0 : ByteArray) : Option (Bool) := (fascineref05_Words.f k a0).bind fun t178 => (if (t178.length : Int) = 2 then (if 0 < (t178.length : Int) then (if ((rd_T35 t178 0).f0).size + 1 ≤ 9223372036854775807 then (if 1 < (t178.length : Int) then (if ((rd_T35 t178 0).f0).size + 1 + ((rd_T35 t178 1).f0).size ≤ 9223372036854775807 then (some (((((rd_T35 t178 0).f0) ++ (⟨#[61]⟩ : ByteArray)) ++ ((rd_T35 t178 1).f0)).toList == a0.toList)) else (none)) else (none)) else (none)) else (none)) else (some false))
theorem fascineref05_Pair.mono : ∀ a0 k, LeO (fascineref05_Pair.f k a0) (fascineref05_Pair.f (k + 1) a0) := by
  intro a0 k
  unfold fascineref05_Pair.f
  repeat' first
      | (with_reducible exact fascineref05_Words.mono _ _)
      | (with_reducible exact LeO.refl _)
      | (with_reducible exact LeO.none _)
      | (with_reducible refine LeO.ite ?_ ?_)
      | (with_reducible refine LeO.bind ?_ (fun _ => ?_))
      | exact fascineref05_Words.mono _ _
      | exact LeO.none _
      | refine LeO.ite ?_ ?_
      | refine LeO.bind ?_ (fun _ => ?_)
set_option maxHeartbeats 8000000 in
set_option maxRecDepth 100000 in
theorem fascineref05_Pair.calls (k : Nat) (a0 : ByteArray) (r : Bool) (w : World) (hT : tabs w) (h : fascineref05_Pair.f k a0 = some r) :
    Calls Tryd.prog 21 #[.string a0] w fun e w' => e = .returned (.bool r) ∧ Below w.heap.size w w' := by
  have HT := Aside0.mk hT
  clear hT
  have HB := Aside0.mk (Below.refl w.heap.size w)
  have H : ((fascineref05_Words.f k a0).bind fun t178 => (if (t178.length : Int) = 2 then (if 0 < (t178.length : Int) then (if ((rd_T35 t178 0).f0).size + 1 ≤ 9223372036854775807 then (if 1 < (t178.length : Int) then (if ((rd_T35 t178 0).f0).size + 1 + ((rd_T35 t178 1).f0).size ≤ 9223372036854775807 then (some (((((rd_T35 t178 0).f0) ++ (⟨#[61]⟩ : ByteArray)) ++ ((rd_T35 t178 1).f0)).toList == a0.toList)) else (none)) else (none)) else (none)) else (none)) else (some false))) = some r := h
  clear h
  replace H := Option.bind_eq_some_iff.mp H
  obtain ⟨t178, A20, H⟩ := H
  replace H : (if (t178.length : Int) = 2 then (if 0 < (t178.length : Int) then (if ((rd_T35 t178 0).f0).size + 1 ≤ 9223372036854775807 then (if 1 < (t178.length : Int) then (if ((rd_T35 t178 0).f0).size + 1 + ((rd_T35 t178 1).f0).size ≤ 9223372036854775807 then (some (((((rd_T35 t178 0).f0) ++ (⟨#[61]⟩ : ByteArray)) ++ ((rd_T35 t178 1).f0)).toList == a0.toList)) else (none)) else (none)) else (none)) else (none)) else (some false)) = some r := H
  have A2 := Aside0.mk A20
  clear A20
  by_cases c3 : (t178.length : Int) = 2
  · rw [if_pos c3] at H
    have c3b0 : ((t178.length : Int) == 2) = true := beq_iff_eq.mpr c3
    have c3b1 : ((t178.length : Int) != 2) = false := bne_eq_false_iff_eq.mpr c3
    clear c3
    by_cases c4 : 0 < (t178.length : Int)
    · rw [if_pos c4] at H
      have c4b0 : decide (0 < (t178.length : Int)) = true := decide_eq_true c4
      have c4b1 : decide (0 < t178.length) = true := decide_eq_true (by omega)
      clear c4
      by_cases c5 : ((rd_T35 t178 0).f0).size + 1 ≤ 9223372036854775807
      · rw [if_pos c5] at H
        have c5b0 := eq_true c5
        have c5b1 : decide (((rd_T35 t178 0).f0).size + 1 ≤ 9223372036854775807) = true := decide_eq_true c5
        try have c5b2 : (9223372036854775807 < ((rd_T35 t178 0).f0).size + 1) = False := eq_false (Nat.not_lt.2 c5)
        by_cases c6 : 1 < (t178.length : Int)
        · rw [if_pos c6] at H
          have c6b0 : decide (1 < (t178.length : Int)) = true := decide_eq_true c6
          have c6b1 : decide (1 < t178.length) = true := decide_eq_true (by omega)
          clear c6
          by_cases c7 : ((rd_T35 t178 0).f0).size + 1 + ((rd_T35 t178 1).f0).size ≤ 9223372036854775807
          · rw [if_pos c7] at H
            have c7b0 := eq_true c7
            have c7b1 : decide (((rd_T35 t178 0).f0).size + 1 + ((rd_T35 t178 1).f0).size ≤ 9223372036854775807) = true := decide_eq_true c7
            try have c7b2 : (9223372036854775807 < ((rd_T35 t178 0).f0).size + 1 + ((rd_T35 t178 1).f0).size) = False := eq_false (Nat.not_lt.2 c7)
            obtain rfl := Option.some.inj H
            go_enter Tryd.func21, Tryd.ntmps21
            go_wp2_with (first | (go_at_call 16; (with_reducible refine (fascineref05_Words.calls k a0 t178 _ ?side1 A2.out).mono ?_); (case side1 => first | exact HT.out | exact tabs_below HT.out (by repeat (first | (with_reducible first | exact HB.out | apply below_alloc | apply pw_below_drewN | apply below_drew1) | exact HB.out))); rintro e w8 ⟨v179, rfl, ho0, hb⟩; have n0_ := Aside0.mk (Kd.R_lower ho0 (below_size (by repeat (first | (with_reducible first | exact HB.out | apply below_alloc | apply pw_below_drewN | apply below_drew1) | exact HB.out)))); have n1_ := Aside0.mk (below_step (by repeat (first | (with_reducible first | exact HB.out | apply below_alloc | apply pw_below_drewN | apply below_drew1) | exact HB.out)) hb); clear HB; have HO180 := n0_; have HB := n1_; clear n0_ n1_; (try clear hb); (try clear hb2); (try clear hk); (try clear hi); (try clear ho0); obtain ⟨Ao9, co9, eo9⟩ := Kd.R_slice HO180.out; subst eo9; have p181 : 0 ≤ (0 : Int) := (by omega); have q181 : 0 < (t178.length : Int) := of_decide_eq_true (by first | (with_reducible assumption) | assumption); obtain ⟨ad181, e181, hx181_0, hx181_1, hx181_2⟩ := at_T35 (Kd.R_reads' HO180.out).2.2 0 p181 q181; cases e181; have qi181 : (0 < t178.length) = True := eq_true (by omega); (try rw [show ((0 : Int)).toNat = 0 from rfl] at hx181_0); (try rw [show 0 * 3 = 0 from rfl] at hx181_0); (try rw [Addr.add_zero'] at hx181_0); (try rw [show ((0 : Int)).toNat = 0 from rfl] at hx181_1); (try rw [show 0 * 3 = 0 from rfl] at hx181_1); (try rw [Addr.add_zero'] at hx181_1); (try rw [show ((0 : Int)).toNat = 0 from rfl] at hx181_2); (try rw [show 0 * 3 = 0 from rfl] at hx181_2); (try rw [Addr.add_zero'] at hx181_2); replace p181 := eq_true p181; replace q181 := eq_true q181; have p182 : 0 ≤ (1 : Int) := (by omega); have q182 : 1 < (t178.length : Int) := of_decide_eq_true (by first | (with_reducible assumption) | assumption); obtain ⟨ad182, e182, hx182_0, hx182_1, hx182_2⟩ := at_T35 (Kd.R_reads' HO180.out).2.2 1 p182 q182; obtain rfl : ad181 = ad182 := (by injection e182); (try simp only [show (1 : Int).toNat = 1 from rfl, Nat.reduceMul, Nat.reduceEqDiff, Go.Addr.add, ↓reduceIte] at hx182_0); (try simp only [show (1 : Int).toNat = 1 from rfl, Nat.reduceMul, Nat.reduceEqDiff, Go.Addr.add, ↓reduceIte] at hx182_1); (try simp only [show (1 : Int).toNat = 1 from rfl, Nat.reduceMul, Nat.reduceEqDiff, Go.Addr.add, ↓reduceIte] at hx182_2); have qi182 : (1 < t178.length) = True := eq_true (by omega); (try rw [show ((1 : Int)).toNat = 1 from rfl] at hx182_0); (try rw [show 1 * 3 = 3 from rfl] at hx182_0); (try rw [show ((1 : Int)).toNat = 1 from rfl] at hx182_1); (try rw [show 1 * 3 = 3 from rfl] at hx182_1); (try rw [show ((1 : Int)).toNat = 1 from rfl] at hx182_2); (try rw [show 1 * 3 = 3 from rfl] at hx182_2); replace p182 := eq_true p182; replace q182 := eq_true q182))
            repeat (go_quiet (first | (go_at_call 16; (with_reducible refine (fascineref05_Words.calls k a0 t178 _ ?side1 A2.out).mono ?_); (case side1 => first | exact HT.out | exact tabs_below HT.out (by repeat (first | (with_reducible first | exact HB.out | apply below_alloc | apply pw_below_drewN | apply below_drew1) | exact HB.out))); rintro e w8 ⟨v179, rfl, ho0, hb⟩; have n0_ := Aside0.mk (Kd.R_lower ho0 (below_size (by repeat (first | (with_reducible first | exact HB.out | apply below_alloc | apply pw_below_drewN | apply below_drew1) | exact HB.out)))); have n1_ := Aside0.mk (below_step (by repeat (first | (with_reducible first | exact HB.out | apply below_alloc | apply pw_below_drewN | apply below_drew1) | exact HB.out)) hb); clear HB; have HO180 := n0_; have HB := n1_; clear n0_ n1_; (try clear hb); (try clear hb2); (try clear hk); (try clear hi); (try clear ho0); obtain ⟨Ao9, co9, eo9⟩ := Kd.R_slice HO180.out; subst eo9; have p181 : 0 ≤ (0 : Int) := (by omega); have q181 : 0 < (t178.length : Int) := of_decide_eq_true (by first | (with_reducible assumption) | assumption); obtain ⟨ad181, e181, hx181_0, hx181_1, hx181_2⟩ := at_T35 (Kd.R_reads' HO180.out).2.2 0 p181 q181; cases e181; have qi181 : (0 < t178.length) = True := eq_true (by omega); (try rw [show ((0 : Int)).toNat = 0 from rfl] at hx181_0); (try rw [show 0 * 3 = 0 from rfl] at hx181_0); (try rw [Addr.add_zero'] at hx181_0); (try rw [show ((0 : Int)).toNat = 0 from rfl] at hx181_1); (try rw [show 0 * 3 = 0 from rfl] at hx181_1); (try rw [Addr.add_zero'] at hx181_1); (try rw [show ((0 : Int)).toNat = 0 from rfl] at hx181_2); (try rw [show 0 * 3 = 0 from rfl] at hx181_2); (try rw [Addr.add_zero'] at hx181_2); replace p181 := eq_true p181; replace q181 := eq_true q181; have p182 : 0 ≤ (1 : Int) := (by omega); have q182 : 1 < (t178.length : Int) := of_decide_eq_true (by first | (with_reducible assumption) | assumption); obtain ⟨ad182, e182, hx182_0, hx182_1, hx182_2⟩ := at_T35 (Kd.R_reads' HO180.out).2.2 1 p182 q182; obtain rfl : ad181 = ad182 := (by injection e182); (try simp only [show (1 : Int).toNat = 1 from rfl, Nat.reduceMul, Nat.reduceEqDiff, Go.Addr.add, ↓reduceIte] at hx182_0); (try simp only [show (1 : Int).toNat = 1 from rfl, Nat.reduceMul, Nat.reduceEqDiff, Go.Addr.add, ↓reduceIte] at hx182_1); (try simp only [show (1 : Int).toNat = 1 from rfl, Nat.reduceMul, Nat.reduceEqDiff, Go.Addr.add, ↓reduceIte] at hx182_2); have qi182 : (1 < t178.length) = True := eq_true (by omega); (try rw [show ((1 : Int)).toNat = 1 from rfl] at hx182_0); (try rw [show 1 * 3 = 3 from rfl] at hx182_0); (try rw [show ((1 : Int)).toNat = 1 from rfl] at hx182_1); (try rw [show 1 * 3 = 3 from rfl] at hx182_1); (try rw [show ((1 : Int)).toNat = 1 from rfl] at hx182_2); (try rw [show 1 * 3 = 3 from rfl] at hx182_2); replace p182 := eq_true p182; replace q182 := eq_true q182)); try go_wp2_with (first | (go_at_call 16; (with_reducible refine (fascineref05_Words.calls k a0 t178 _ ?side1 A2.out).mono ?_); (case side1 => first | exact HT.out | exact tabs_below HT.out (by repeat (first | (with_reducible first | exact HB.out | apply below_alloc | apply pw_below_drewN | apply below_drew1) | exact HB.out))); rintro e w8 ⟨v179, rfl, ho0, hb⟩; have n0_ := Aside0.mk (Kd.R_lower ho0 (below_size (by repeat (first | (with_reducible first | exact HB.out | apply below_alloc | apply pw_below_drewN | apply below_drew1) | exact HB.out)))); have n1_ := Aside0.mk (below_step (by repeat (first | (with_reducible first | exact HB.out | apply below_alloc | apply pw_below_drewN | apply below_drew1) | exact HB.out)) hb); clear HB; have HO180 := n0_; have HB := n1_; clear n0_ n1_; (try clear hb); (try clear hb2); (try clear hk); (try clear hi); (try clear ho0); obtain ⟨Ao9, co9, eo9⟩ := Kd.R_slice HO180.out; subst eo9; have p181 : 0 ≤ (0 : Int) := (by omega); have q181 : 0 < (t178.length : Int) := of_decide_eq_true (by first | (with_reducible assumption) | assumption); obtain ⟨ad181, e181, hx181_0, hx181_1, hx181_2⟩ := at_T35 (Kd.R_reads' HO180.out).2.2 0 p181 q181; cases e181; have qi181 : (0 < t178.length) = True := eq_true (by omega); (try rw [show ((0 : Int)).toNat = 0 from rfl] at hx181_0); (try rw [show 0 * 3 = 0 from rfl] at hx181_0); (try rw [Addr.add_zero'] at hx181_0); (try rw [show ((0 : Int)).toNat = 0 from rfl] at hx181_1); (try rw [show 0 * 3 = 0 from rfl] at hx181_1); (try rw [Addr.add_zero'] at hx181_1); (try rw [show ((0 : Int)).toNat = 0 from rfl] at hx181_2); (try rw [show 0 * 3 = 0 from rfl] at hx181_2); (try rw [Addr.add_zero'] at hx181_2); replace p181 := eq_true p181; replace q181 := eq_true q181; have p182 : 0 ≤ (1 : Int) := (by omega); have q182 : 1 < (t178.length : Int) := of_decide_eq_true (by first | (with_reducible assumption) | assumption); obtain ⟨ad182, e182, hx182_0, hx182_1, hx182_2⟩ := at_T35 (Kd.R_reads' HO180.out).2.2 1 p182 q182; obtain rfl : ad181 = ad182 := (by injection e182); (try simp only [show (1 : Int).toNat = 1 from rfl, Nat.reduceMul, Nat.reduceEqDiff, Go.Addr.add, ↓reduceIte] at hx182_0); (try simp only [show (1 : Int).toNat = 1 from rfl, Nat.reduceMul, Nat.reduceEqDiff, Go.Addr.add, ↓reduceIte] at hx182_1); (try simp only [show (1 : Int).toNat = 1 from rfl, Nat.reduceMul, Nat.reduceEqDiff, Go.Addr.add, ↓reduceIte] at hx182_2); have qi182 : (1 < t178.length) = True := eq_true (by omega); (try rw [show ((1 : Int)).toNat = 1 from rfl] at hx182_0); (try rw [show 1 * 3 = 3 from rfl] at hx182_0); (try rw [show ((1 : Int)).toNat = 1 from rfl] at hx182_1); (try rw [show 1 * 3 = 3 from rfl] at hx182_1); (try rw [show ((1 : Int)).toNat = 1 from rfl] at hx182_2); (try rw [show 1 * 3 = 3 from rfl] at hx182_2); replace p182 := eq_true p182; replace q182 := eq_true q182)))
            go_ret
            exact ⟨by first | rfl | (simp [errW_none, errW_some] <;> rfl) | (simp [*, errW_none, errW_some] <;> rfl), by repeat (first | (with_reducible first | exact HB.out | apply below_alloc | apply pw_below_drewN | apply below_drew1) | exact HB.out)⟩
          · rw [if_neg c7] at H
            exact absurd H (by simp)
        · rw [if_neg c6] at H
          exact absurd H (by simp)
      · rw [if_neg c5] at H
        exact absurd H (by simp)
    · rw [if_neg c4] at H
      exact absurd H (by simp)
  · rw [if_neg c3] at H
    have c3b0 : ((t178.length : Int) == 2) = false := beq_eq_false_iff_ne.mpr c3
    have c3b1 : ((t178.length : Int) != 2) = true := bne_iff_ne.mpr c3
    obtain rfl := Option.some.inj H
    go_enter Tryd.func21, Tryd.ntmps21
    go_wp2_with (first | (go_at_call 16; (with_reducible refine (fascineref05_Words.calls k a0 t178 _ ?side1 A2.out).mono ?_); (case side1 => first | exact HT.out | exact tabs_below HT.out (by repeat (first | (with_reducible first | exact HB.out | apply below_alloc | apply pw_below_drewN | apply below_drew1) | exact HB.out))); rintro e w10 ⟨v179, rfl, ho0, hb⟩; have n0_ := Aside0.mk (Kd.R_lower ho0 (below_size (by repeat (first | (with_reducible first | exact HB.out | apply below_alloc | apply pw_below_drewN | apply below_drew1) | exact HB.out)))); have n1_ := Aside0.mk (below_step (by repeat (first | (with_reducible first | exact HB.out | apply below_alloc | apply pw_below_drewN | apply below_drew1) | exact HB.out)) hb); clear HB; have HO180 := n0_; have HB := n1_; clear n0_ n1_; (try clear hb); (try clear hb2); (try clear hk); (try clear hi); (try clear ho0); obtain ⟨Ao11, co11, eo11⟩ := Kd.R_slice HO180.out; subst eo11))
    repeat (go_quiet (first | (go_at_call 16; (with_reducible refine (fascineref05_Words.calls k a0 t178 _ ?side1 A2.out).mono ?_); (case side1 => first | exact HT.out | exact tabs_below HT.out (by repeat (first | (with_reducible first | exact HB.out | apply below_alloc | apply pw_below_drewN | apply below_drew1) | exact HB.out))); rintro e w10 ⟨v179, rfl, ho0, hb⟩; have n0_ := Aside0.mk (Kd.R_lower ho0 (below_size (by repeat (first | (with_reducible first | exact HB.out | apply below_alloc | apply pw_below_drewN | apply below_drew1) | exact HB.out)))); have n1_ := Aside0.mk (below_step (by repeat (first | (with_reducible first | exact HB.out | apply below_alloc | apply pw_below_drewN | apply below_drew1) | exact HB.out)) hb); clear HB; have HO180 := n0_; have HB := n1_; clear n0_ n1_; (try clear hb); (try clear hb2); (try clear hk); (try clear hi); (try clear ho0); obtain ⟨Ao11, co11, eo11⟩ := Kd.R_slice HO180.out; subst eo11)); try go_wp2_with (first | (go_at_call 16; (with_reducible refine (fascineref05_Words.calls k a0 t178 _ ?side1 A2.out).mono ?_); (case side1 => first | exact HT.out | exact tabs_below HT.out (by repeat (first | (with_reducible first | exact HB.out | apply below_alloc | apply pw_below_drewN | apply below_drew1) | exact HB.out))); rintro e w10 ⟨v179, rfl, ho0, hb⟩; have n0_ := Aside0.mk (Kd.R_lower ho0 (below_size (by repeat (first | (with_reducible first | exact HB.out | apply below_alloc | apply pw_below_drewN | apply below_drew1) | exact HB.out)))); have n1_ := Aside0.mk (below_step (by repeat (first | (with_reducible first | exact HB.out | apply below_alloc | apply pw_below_drewN | apply below_drew1) | exact HB.out)) hb); clear HB; have HO180 := n0_; have HB := n1_; clear n0_ n1_; (try clear hb); (try clear hb2); (try clear hk); (try clear hi); (try clear ho0); obtain ⟨Ao11, co11, eo11⟩ := Kd.R_slice HO180.out; subst eo11)))
    go_ret
    exact ⟨by first | rfl | (simp [errW_none, errW_some] <;> rfl) | (simp [*, errW_none, errW_some] <;> rfl), by repeat (first | (with_reducible first | exact HB.out | apply below_alloc | apply pw_below_drewN | apply below_drew1) | exact HB.out)⟩

/-! ### fascinelaw05_WordsTold: function 6 -/
def fascinelaw05_WordsTold.l0 : Nat → ByteArray → List (S34) → List (S35) → Int → Option (Bool)
  | 0, _, _, _, _ => none
  | k + 1, x0, x3, x4, x5 => if x5 < (x3.length : Int) then (if 0 ≤ x5 then (if x5 < (x4.length : Int) then (if ((rd_T34 x3 x5).f0).toList = ((rd_T35 x4 x5).f0).toList then (if ((rd_T34 x3 x5).f1) = ((rd_T35 x4 x5).f1) then (if ((rd_T34 x3 x5).f2) = ((rd_T35 x4 x5).f2) then (fascinelaw05_WordsTold.l0 k x0 x3 x4 (wrap64 (x5 + 1))) else (some false)) else (some false)) else (some false)) else (none)) else (none)) else ((words_One.f k x0).bind fun t196 => ((fascineref05_One.f k x0).bind fun t197 => (if (t196 == t197) = true then ((words_Pair.f k x0).bind fun t198 => ((fascineref05_Pair.f k x0).bind fun t199 => (some (t198 == t199)))) else (some false))))
def fascinelaw05_WordsTold.f (k : Nat) (a0 : ByteArray) : Option (Bool) := (fascinelaw05_awake.f k).bind fun t183 => (if t183 = true then ((words_Words.f k a0).bind fun t184 => ((fascineref05_Words.f k a0).bind fun t187 => (if (t184.length : Int) = (t187.length : Int) then (fascinelaw05_WordsTold.l0 k a0 t184 t187 0) else (some false)))) else (some false))
theorem fascinelaw05_WordsTold.mono_l : ∀ k, (∀ y0 y1 y2 y3, LeO (fascinelaw05_WordsTold.l0 k y0 y1 y2 y3) (fascinelaw05_WordsTold.l0 (k + 1) y0 y1 y2 y3))
  | 0 => fun _ _ _ _ r h => by simp [fascinelaw05_WordsTold.l0] at h
  | k + 1 => by
    have ih0 := fascinelaw05_WordsTold.mono_l k
    · intro y0 y1 y2 y3
      unfold fascinelaw05_WordsTold.l0
      repeat' first
      | (with_reducible exact ih0 _ _ _ _)
      | (with_reducible exact fascinelaw05_awake.mono _)
      | (with_reducible exact fascineref05_One.mono _ _)
      | (with_reducible exact fascineref05_Pair.mono _ _)
      | (with_reducible exact fascineref05_Words.mono _ _)
      | (with_reducible exact words_One.mono _ _)
      | (with_reducible exact words_Pair.mono _ _)
      | (with_reducible exact words_Words.mono _ _)
      | (with_reducible exact LeO.refl _)
      | (with_reducible exact LeO.none _)
      | (with_reducible refine LeO.ite ?_ ?_)
      | (with_reducible refine LeO.bind ?_ (fun _ => ?_))
      | exact ih0 _ _ _ _
      | exact fascinelaw05_awake.mono _
      | exact fascineref05_One.mono _ _
      | exact fascineref05_Pair.mono _ _
      | exact fascineref05_Words.mono _ _
      | exact words_One.mono _ _
      | exact words_Pair.mono _ _
      | exact words_Words.mono _ _
      | exact LeO.none _
      | refine LeO.ite ?_ ?_
      | refine LeO.bind ?_ (fun _ => ?_)
theorem fascinelaw05_WordsTold.mono : ∀ a0 k, LeO (fascinelaw05_WordsTold.f k a0) (fascinelaw05_WordsTold.f (k + 1) a0) := by
  intro a0 k
  have ih0 := fascinelaw05_WordsTold.mono_l k
  unfold fascinelaw05_WordsTold.f
  repeat' first
      | (with_reducible exact ih0 _ _ _ _)
      | (with_reducible exact fascinelaw05_awake.mono _)
      | (with_reducible exact fascineref05_One.mono _ _)
      | (with_reducible exact fascineref05_Pair.mono _ _)
      | (with_reducible exact fascineref05_Words.mono _ _)
      | (with_reducible exact words_One.mono _ _)
      | (with_reducible exact words_Pair.mono _ _)
      | (with_reducible exact words_Words.mono _ _)
      | (with_reducible exact LeO.refl _)
      | (with_reducible exact LeO.none _)
      | (with_reducible refine LeO.ite ?_ ?_)
      | (with_reducible refine LeO.bind ?_ (fun _ => ?_))
      | exact ih0 _ _ _ _
      | exact fascinelaw05_awake.mono _
      | exact fascineref05_One.mono _ _
      | exact fascineref05_Pair.mono _ _
      | exact fascineref05_Words.mono _ _
      | exact words_One.mono _ _
      | exact words_Pair.mono _ _
      | exact words_Words.mono _ _
      | exact LeO.none _
      | refine LeO.ite ?_ ?_
      | refine LeO.bind ?_ (fun _ => ?_)
set_option maxHeartbeats 8000000 in
set_option maxRecDepth 100000 in
theorem fascinelaw05_WordsTold.calls (k : Nat) (a0 : ByteArray) (r : Bool) (w : World) (hT : tabs w) (h : fascinelaw05_WordsTold.f k a0 = some r) (hr_ : r = true) :
    Calls Tryd.prog 6 #[.string a0] w fun e w' => e = .returned (.bool r) ∧ Below w.heap.size w w' := by
  have HR_ := Aside0.mk hr_
  clear hr_
  have HT := Aside0.mk hT
  clear hT
  have HB := Aside0.mk (Below.refl w.heap.size w)
  have H : ((fascinelaw05_awake.f k).bind fun t183 => (if t183 = true then ((words_Words.f k a0).bind fun t184 => ((fascineref05_Words.f k a0).bind fun t187 => (if (t184.length : Int) = (t187.length : Int) then (fascinelaw05_WordsTold.l0 k a0 t184 t187 0) else (some false)))) else (some false))) = some r := h
  clear h
  replace H := Option.bind_eq_some_iff.mp H
  obtain ⟨t183, A20, H⟩ := H
  replace H : (if t183 = true then ((words_Words.f k a0).bind fun t184 => ((fascineref05_Words.f k a0).bind fun t187 => (if (t184.length : Int) = (t187.length : Int) then (fascinelaw05_WordsTold.l0 k a0 t184 t187 0) else (some false)))) else (some false)) = some r := H
  have A2 := Aside0.mk A20
  clear A20
  by_cases c3 : t183 = true
  · subst c3
    have H1 : ((words_Words.f k a0).bind fun t184 => ((fascineref05_Words.f k a0).bind fun t187 => (if (t184.length : Int) = (t187.length : Int) then (fascinelaw05_WordsTold.l0 k a0 t184 t187 0) else (some false)))) = some r := by rw [if_pos rfl] at H; exact H
    clear H
    have H := H1
    clear H1
    replace H := Option.bind_eq_some_iff.mp H
    obtain ⟨t184, A40, H⟩ := H
    replace H : ((fascineref05_Words.f k a0).bind fun t187 => (if (t184.length : Int) = (t187.length : Int) then (fascinelaw05_WordsTold.l0 k a0 t184 t187 0) else (some false))) = some r := H
    have A4 := Aside0.mk A40
    clear A40
    replace H := Option.bind_eq_some_iff.mp H
    obtain ⟨t187, A50, H⟩ := H
    replace H : (if (t184.length : Int) = (t187.length : Int) then (fascinelaw05_WordsTold.l0 k a0 t184 t187 0) else (some false)) = some r := H
    have A5 := Aside0.mk A50
    clear A50
    by_cases c6 : (t184.length : Int) = (t187.length : Int)
    · rw [if_pos c6] at H
      have c6b0 : ((t184.length : Int) == (t187.length : Int)) = true := beq_iff_eq.mpr c6
      have c6b1 : ((t184.length : Int) != (t187.length : Int)) = false := bne_eq_false_iff_eq.mpr c6
      have c6b2 : (t184.length == t187.length) = true := by first | simpa using c6 | (simp at c6 ⊢; omega)
      clear c6
      have H' := Aside0.mk H
      clear H
      go_enter Tryd.func6, Tryd.ntmps6
      go_wp2_with (first | (go_at_call 11; (with_reducible refine (fascinelaw05_awake.calls k  true _ ?side1 A2.out).mono ?_); (case side1 => first | exact HT.out | exact tabs_below HT.out (by repeat (first | (with_reducible first | exact HB.out | apply below_alloc | apply pw_below_drewN | apply below_drew1) | exact HB.out))); rintro e w7 ⟨rfl, hb⟩; have n0_ := Aside0.mk (below_step (by repeat (first | (with_reducible first | exact HB.out | apply below_alloc | apply pw_below_drewN | apply below_drew1) | exact HB.out)) hb); clear HB; have HB := n0_; clear n0_; (try clear hb); (try clear hb2); (try clear hk); (try clear hi)) | (go_at_call 17; (with_reducible refine (words_Words.calls k a0 t184 _ ?side1 A4.out).mono ?_); (case side1 => first | exact HT.out | exact tabs_below HT.out (by repeat (first | (with_reducible first | exact HB.out | apply below_alloc | apply pw_below_drewN | apply below_drew1) | exact HB.out))); rintro e w8 ⟨v185, rfl, ho0, hb⟩; have n0_ := Aside0.mk (Kd.R_lower ho0 (below_size (by repeat (first | (with_reducible first | exact HB.out | apply below_alloc | apply pw_below_drewN | apply below_drew1) | exact HB.out)))); have n1_ := Aside0.mk (below_step (by repeat (first | (with_reducible first | exact HB.out | apply below_alloc | apply pw_below_drewN | apply below_drew1) | exact HB.out)) hb); clear HB; have HO186 := n0_; have HB := n1_; clear n0_ n1_; (try clear hb); (try clear hb2); (try clear hk); (try clear hi); (try clear ho0)) | (go_at_call 16; (with_reducible refine (fascineref05_Words.calls k a0 t187 _ ?side1 A5.out).mono ?_); (case side1 => first | exact HT.out | exact tabs_below HT.out (by repeat (first | (with_reducible first | exact HB.out | apply below_alloc | apply pw_below_drewN | apply below_drew1) | exact HB.out))); rintro e w9 ⟨v188, rfl, ho0, hb⟩; have n0_ := Aside0.mk (Kd.R_below (by (with_reducible repeat (first | apply Kd.R_alloc | apply Kd.R_drewN | apply Kd.R_drew)); exact HO186.out) hb); have n1_ := Aside0.mk (Kd.R_lower ho0 (below_size (by repeat (first | (with_reducible first | exact HB.out | apply below_alloc | apply pw_below_drewN | apply below_drew1) | exact HB.out)))); have n2_ := Aside0.mk (below_step (by repeat (first | (with_reducible first | exact HB.out | apply below_alloc | apply pw_below_drewN | apply below_drew1) | exact HB.out)) hb); clear HO186; clear HB; have HO186 := n0_; have HO189 := n1_; have HB := n2_; clear n0_ n1_ n2_; (try clear hb); (try clear hb2); (try clear hk); (try clear hi); (try clear ho0); obtain ⟨Ao10, co10, eo10⟩ := Kd.R_slice HO186.out; subst eo10; obtain ⟨Ao11, co11, eo11⟩ := Kd.R_slice HO189.out; subst eo11))
      repeat (go_quiet (first | (go_at_call 11; (with_reducible refine (fascinelaw05_awake.calls k  true _ ?side1 A2.out).mono ?_); (case side1 => first | exact HT.out | exact tabs_below HT.out (by repeat (first | (with_reducible first | exact HB.out | apply below_alloc | apply pw_below_drewN | apply below_drew1) | exact HB.out))); rintro e w7 ⟨rfl, hb⟩; have n0_ := Aside0.mk (below_step (by repeat (first | (with_reducible first | exact HB.out | apply below_alloc | apply pw_below_drewN | apply below_drew1) | exact HB.out)) hb); clear HB; have HB := n0_; clear n0_; (try clear hb); (try clear hb2); (try clear hk); (try clear hi)) | (go_at_call 17; (with_reducible refine (words_Words.calls k a0 t184 _ ?side1 A4.out).mono ?_); (case side1 => first | exact HT.out | exact tabs_below HT.out (by repeat (first | (with_reducible first | exact HB.out | apply below_alloc | apply pw_below_drewN | apply below_drew1) | exact HB.out))); rintro e w8 ⟨v185, rfl, ho0, hb⟩; have n0_ := Aside0.mk (Kd.R_lower ho0 (below_size (by repeat (first | (with_reducible first | exact HB.out | apply below_alloc | apply pw_below_drewN | apply below_drew1) | exact HB.out)))); have n1_ := Aside0.mk (below_step (by repeat (first | (with_reducible first | exact HB.out | apply below_alloc | apply pw_below_drewN | apply below_drew1) | exact HB.out)) hb); clear HB; have HO186 := n0_; have HB := n1_; clear n0_ n1_; (try clear hb); (try clear hb2); (try clear hk); (try clear hi); (try clear ho0)) | (go_at_call 16; (with_reducible refine (fascineref05_Words.calls k a0 t187 _ ?side1 A5.out).mono ?_); (case side1 => first | exact HT.out | exact tabs_below HT.out (by repeat (first | (with_reducible first | exact HB.out | apply below_alloc | apply pw_below_drewN | apply below_drew1) | exact HB.out))); rintro e w9 ⟨v188, rfl, ho0, hb⟩; have n0_ := Aside0.mk (Kd.R_below (by (with_reducible repeat (first | apply Kd.R_alloc | apply Kd.R_drewN | apply Kd.R_drew)); exact HO186.out) hb); have n1_ := Aside0.mk (Kd.R_lower ho0 (below_size (by repeat (first | (with_reducible first | exact HB.out | apply below_alloc | apply pw_below_drewN | apply below_drew1) | exact HB.out)))); have n2_ := Aside0.mk (below_step (by repeat (first | (with_reducible first | exact HB.out | apply below_alloc | apply pw_below_drewN | apply below_drew1) | exact HB.out)) hb); clear HO186; clear HB; have HO186 := n0_; have HO189 := n1_; have HB := n2_; clear n0_ n1_ n2_; (try clear hb); (try clear hb2); (try clear hk); (try clear hi); (try clear ho0); obtain ⟨Ao10, co10, eo10⟩ := Kd.R_slice HO186.out; subst eo10; obtain ⟨Ao11, co11, eo11⟩ := Kd.R_slice HO189.out; subst eo11)); try go_wp2_with (first | (go_at_call 11; (with_reducible refine (fascinelaw05_awake.calls k  true _ ?side1 A2.out).mono ?_); (case side1 => first | exact HT.out | exact tabs_below HT.out (by repeat (first | (with_reducible first | exact HB.out | apply below_alloc | apply pw_below_drewN | apply below_drew1) | exact HB.out))); rintro e w7 ⟨rfl, hb⟩; have n0_ := Aside0.mk (below_step (by repeat (first | (with_reducible first | exact HB.out | apply below_alloc | apply pw_below_drewN | apply below_drew1) | exact HB.out)) hb); clear HB; have HB := n0_; clear n0_; (try clear hb); (try clear hb2); (try clear hk); (try clear hi)) | (go_at_call 17; (with_reducible refine (words_Words.calls k a0 t184 _ ?side1 A4.out).mono ?_); (case side1 => first | exact HT.out | exact tabs_below HT.out (by repeat (first | (with_reducible first | exact HB.out | apply below_alloc | apply pw_below_drewN | apply below_drew1) | exact HB.out))); rintro e w8 ⟨v185, rfl, ho0, hb⟩; have n0_ := Aside0.mk (Kd.R_lower ho0 (below_size (by repeat (first | (with_reducible first | exact HB.out | apply below_alloc | apply pw_below_drewN | apply below_drew1) | exact HB.out)))); have n1_ := Aside0.mk (below_step (by repeat (first | (with_reducible first | exact HB.out | apply below_alloc | apply pw_below_drewN | apply below_drew1) | exact HB.out)) hb); clear HB; have HO186 := n0_; have HB := n1_; clear n0_ n1_; (try clear hb); (try clear hb2); (try clear hk); (try clear hi); (try clear ho0)) | (go_at_call 16; (with_reducible refine (fascineref05_Words.calls k a0 t187 _ ?side1 A5.out).mono ?_); (case side1 => first | exact HT.out | exact tabs_below HT.out (by repeat (first | (with_reducible first | exact HB.out | apply below_alloc | apply pw_below_drewN | apply below_drew1) | exact HB.out))); rintro e w9 ⟨v188, rfl, ho0, hb⟩; have n0_ := Aside0.mk (Kd.R_below (by (with_reducible repeat (first | apply Kd.R_alloc | apply Kd.R_drewN | apply Kd.R_drew)); exact HO186.out) hb); have n1_ := Aside0.mk (Kd.R_lower ho0 (below_size (by repeat (first | (with_reducible first | exact HB.out | apply below_alloc | apply pw_below_drewN | apply below_drew1) | exact HB.out)))); have n2_ := Aside0.mk (below_step (by repeat (first | (with_reducible first | exact HB.out | apply below_alloc | apply pw_below_drewN | apply below_drew1) | exact HB.out)) hb); clear HO186; clear HB; have HO186 := n0_; have HO189 := n1_; have HB := n2_; clear n0_ n1_ n2_; (try clear hb); (try clear hb2); (try clear hk); (try clear hi); (try clear ho0); obtain ⟨Ao10, co10, eo10⟩ := Kd.R_slice HO186.out; subst eo10; obtain ⟨Ao11, co11, eo11⟩ := Kd.R_slice HO189.out; subst eo11)))
      go_loopg [5] k (fun kq v5 w' => ∃ (x5_1 : Int), v5 = .int .i64 x5_1 ∧ Aside0 (fascinelaw05_WordsTold.l0 kq a0 t184 t187 x5_1 = some r) ∧ Aside0 (kq ≤ k) ∧ Aside0 (Kd.R k34 34 w' w.heap.size (fun _ => True) (.slice Ao10 t184.length co10) t184) ∧ Aside0 (Kd.R k35 35 w' w.heap.size (fun _ => True) (.slice Ao11 t187.length co11) t187) ∧ Aside0 (Below w.heap.size w w'))
      case atStart => exact ⟨(0), (by first | rfl | (simp; done) | (simp [*]; done)), H', ⟨Nat.le_refl _⟩, ⟨by (with_reducible repeat (first | apply Kd.R_alloc | apply Kd.R_drewN | apply Kd.R_drew)); exact HO186.out⟩, ⟨by (with_reducible repeat (first | apply Kd.R_alloc | apply Kd.R_drewN | apply Kd.R_drew)); exact HO189.out⟩, ⟨by repeat (first | (with_reducible first | exact HB.out | apply below_alloc | apply pw_below_drewN | apply below_drew1) | exact HB.out)⟩⟩
      case round =>
        clear H'
        try clear p2
        try clear c3
        try clear c6
        try clear c6b0
        try clear c6b1
        try clear c6b2
        obtain ⟨x5_1, rfl, HA, HK1, HO_3, HO_4, HB⟩ := hrel
        cases gk with
        | zero => exact absurd HA.out (by simp [fascinelaw05_WordsTold.l0])
        | succ k1 =>
          have H := HA.out
          clear HA
          simp only [fascinelaw05_WordsTold.l0] at H
          by_cases c12 : x5_1 < (t184.length : Int)
          · rw [if_pos c12] at H
            have c12b0 : decide (x5_1 < (t184.length : Int)) = true := decide_eq_true c12
            clear c12
            by_cases c13 : 0 ≤ x5_1
            · rw [if_pos c13] at H
              have c13b0 : decide (0 ≤ x5_1) = true := decide_eq_true c13
              clear c13
              by_cases c14 : x5_1 < (t187.length : Int)
              · rw [if_pos c14] at H
                have c14b0 : decide (x5_1 < (t187.length : Int)) = true := decide_eq_true c14
                clear c14
                by_cases c15 : ((rd_T34 t184 x5_1).f0).toList = ((rd_T35 t187 x5_1).f0).toList
                · rw [if_pos c15] at H
                  have c15b0 : (((rd_T34 t184 x5_1).f0).toList == ((rd_T35 t187 x5_1).f0).toList) = true := beq_iff_eq.mpr c15
                  have c15b1 : (((rd_T34 t184 x5_1).f0).toList != ((rd_T35 t187 x5_1).f0).toList) = false := bne_eq_false_iff_eq.mpr c15
                  clear c15
                  by_cases c16 : ((rd_T34 t184 x5_1).f1) = ((rd_T35 t187 x5_1).f1)
                  · rw [if_pos c16] at H
                    have c16b0 : (((rd_T34 t184 x5_1).f1) == ((rd_T35 t187 x5_1).f1)) = true := beq_iff_eq.mpr c16
                    have c16b1 : (((rd_T34 t184 x5_1).f1) != ((rd_T35 t187 x5_1).f1)) = false := bne_eq_false_iff_eq.mpr c16
                    clear c16
                    by_cases c17 : ((rd_T34 t184 x5_1).f2) = ((rd_T35 t187 x5_1).f2)
                    · rw [if_pos c17] at H
                      have c17b0 : (((rd_T34 t184 x5_1).f2) == ((rd_T35 t187 x5_1).f2)) = true := beq_iff_eq.mpr c17
                      have c17b1 : (((rd_T34 t184 x5_1).f2) != ((rd_T35 t187 x5_1).f2)) = false := bne_eq_false_iff_eq.mpr c17
                      clear c17
                      have H' := Aside0.mk H
                      clear H
                      have p190 : 0 ≤ (x5_1 : Int) := of_decide_eq_true (by first | (with_reducible assumption) | assumption)
                      have q190 : x5_1 < (t184.length : Int) := of_decide_eq_true (by first | (with_reducible assumption) | assumption)
                      obtain ⟨ad190, e190, hx190_0, hx190_1, hx190_2⟩ := at_T34 (Kd.R_reads' HO_3.out).2.2 x5_1 p190 q190
                      cases e190
                      replace p190 := eq_true p190
                      replace q190 := eq_true q190
                      have p191 : 0 ≤ (x5_1 : Int) := of_decide_eq_true (by first | (with_reducible assumption) | assumption)
                      have q191 : x5_1 < (t187.length : Int) := of_decide_eq_true (by first | (with_reducible assumption) | assumption)
                      obtain ⟨ad191, e191, hx191_0, hx191_1, hx191_2⟩ := at_T35 (Kd.R_reads' HO_4.out).2.2 x5_1 p191 q191
                      cases e191
                      replace p191 := eq_true p191
                      replace q191 := eq_true q191
                      have p192 : 0 ≤ (x5_1 : Int) := of_decide_eq_true (by first | (with_reducible assumption) | assumption)
                      have q192 : x5_1 < (t184.length : Int) := of_decide_eq_true (by first | (with_reducible assumption) | assumption)
                      obtain ⟨ad192, e192, hx192_0, hx192_1, hx192_2⟩ := at_T34 (Kd.R_reads' HO_3.out).2.2 x5_1 p192 q192
                      obtain rfl : ad190 = ad192 := (by injection e192)
                      replace p192 := eq_true p192
                      replace q192 := eq_true q192
                      have p193 : 0 ≤ (x5_1 : Int) := of_decide_eq_true (by first | (with_reducible assumption) | assumption)
                      have q193 : x5_1 < (t187.length : Int) := of_decide_eq_true (by first | (with_reducible assumption) | assumption)
                      obtain ⟨ad193, e193, hx193_0, hx193_1, hx193_2⟩ := at_T35 (Kd.R_reads' HO_4.out).2.2 x5_1 p193 q193
                      obtain rfl : ad191 = ad193 := (by injection e193)
                      replace p193 := eq_true p193
                      replace q193 := eq_true q193
                      have p194 : 0 ≤ (x5_1 : Int) := of_decide_eq_true (by first | (with_reducible assumption) | assumption)
                      have q194 : x5_1 < (t184.length : Int) := of_decide_eq_true (by first | (with_reducible assumption) | assumption)
                      obtain ⟨ad194, e194, hx194_0, hx194_1, hx194_2⟩ := at_T34 (Kd.R_reads' HO_3.out).2.2 x5_1 p194 q194
                      obtain rfl : ad190 = ad194 := (by injection e194)
                      replace p194 := eq_true p194
                      replace q194 := eq_true q194
                      have p195 : 0 ≤ (x5_1 : Int) := of_decide_eq_true (by first | (with_reducible assumption) | assumption)
                      have q195 : x5_1 < (t187.length : Int) := of_decide_eq_true (by first | (with_reducible assumption) | assumption)
                      obtain ⟨ad195, e195, hx195_0, hx195_1, hx195_2⟩ := at_T35 (Kd.R_reads' HO_4.out).2.2 x5_1 p195 q195
                      obtain rfl : ad191 = ad195 := (by injection e195)
                      replace p195 := eq_true p195
                      replace q195 := eq_true q195
                      go_wp2
                      repeat (go_quiet (fail); try go_wp2)
                      go_roundg k1
                      case measure => have := HK1.out; omega
                      case rel => exact ⟨(wrap64 (x5_1 + 1)), (by first | rfl | (simp; done) | (simp [*]; done)), H', ⟨by have := HK1.out; omega⟩, ⟨by (with_reducible repeat (first | apply Kd.R_alloc | apply Kd.R_drewN | apply Kd.R_drew)); exact HO_3.out⟩, ⟨by (with_reducible repeat (first | apply Kd.R_alloc | apply Kd.R_drewN | apply Kd.R_drew)); exact HO_4.out⟩, ⟨by repeat (first | (with_reducible first | exact HB.out | apply below_alloc | apply pw_below_drewN | apply below_drew1) | exact HB.out)⟩⟩
                    · rw [if_neg c17] at H
                      have c17b0 : (((rd_T34 t184 x5_1).f2) == ((rd_T35 t187 x5_1).f2)) = false := beq_eq_false_iff_ne.mpr c17
                      have c17b1 : (((rd_T34 t184 x5_1).f2) != ((rd_T35 t187 x5_1).f2)) = true := bne_iff_ne.mpr c17
                      exact absurd (HR_.out.symm.trans (Option.some.inj H).symm) (by decide)
                  · rw [if_neg c16] at H
                    have c16b0 : (((rd_T34 t184 x5_1).f1) == ((rd_T35 t187 x5_1).f1)) = false := beq_eq_false_iff_ne.mpr c16
                    have c16b1 : (((rd_T34 t184 x5_1).f1) != ((rd_T35 t187 x5_1).f1)) = true := bne_iff_ne.mpr c16
                    exact absurd (HR_.out.symm.trans (Option.some.inj H).symm) (by decide)
                · rw [if_neg c15] at H
                  have c15b0 : (((rd_T34 t184 x5_1).f0).toList == ((rd_T35 t187 x5_1).f0).toList) = false := beq_eq_false_iff_ne.mpr c15
                  have c15b1 : (((rd_T34 t184 x5_1).f0).toList != ((rd_T35 t187 x5_1).f0).toList) = true := bne_iff_ne.mpr c15
                  exact absurd (HR_.out.symm.trans (Option.some.inj H).symm) (by decide)
              · rw [if_neg c14] at H
                exact absurd H (by simp)
            · rw [if_neg c13] at H
              exact absurd H (by simp)
          · rw [if_neg c12] at H
            have c12b0 : decide (x5_1 < (t184.length : Int)) = false := decide_eq_false c12
            clear c12
            replace H := Option.bind_eq_some_iff.mp H
            obtain ⟨t196, A180, H⟩ := H
            replace H : ((fascineref05_One.f k1 a0).bind fun t197 => (if (t196 == t197) = true then ((words_Pair.f k1 a0).bind fun t198 => ((fascineref05_Pair.f k1 a0).bind fun t199 => (some (t198 == t199)))) else (some false))) = some r := H
            have A18 := Aside0.mk A180
            clear A180
            replace H := Option.bind_eq_some_iff.mp H
            obtain ⟨t197, A190, H⟩ := H
            replace H : (if (t196 == t197) = true then ((words_Pair.f k1 a0).bind fun t198 => ((fascineref05_Pair.f k1 a0).bind fun t199 => (some (t198 == t199)))) else (some false)) = some r := H
            have A19 := Aside0.mk A190
            clear A190
            by_cases c20 : (t196 == t197) = true
            · rw [if_pos c20] at H
              have c20b0 : (t196 == t197) = true := c20
              (try (have c20b1 : decide (t196 = t197) = true := by simpa using c20))
              (try (have c20b2 : (t196 == t197) = true := by simpa using c20))
              clear c20
              replace H := Option.bind_eq_some_iff.mp H
              obtain ⟨t198, A210, H⟩ := H
              replace H : ((fascineref05_Pair.f k1 a0).bind fun t199 => (some (t198 == t199))) = some r := H
              have A21 := Aside0.mk A210
              clear A210
              replace H := Option.bind_eq_some_iff.mp H
              obtain ⟨t199, A220, H⟩ := H
              replace H : (some (t198 == t199)) = some r := H
              have A22 := Aside0.mk A220
              clear A220
              obtain rfl := Option.some.inj H
              go_wp2_with (first | (go_at_call 18; (with_reducible refine (words_One.calls k1 a0 t196 _ ?side1 A18.out).mono ?_); (case side1 => first | exact HT.out | exact tabs_below HT.out (by repeat (first | (with_reducible first | exact HB.out | apply below_alloc | apply pw_below_drewN | apply below_drew1) | exact HB.out))); rintro e w23 ⟨rfl, hb⟩; have n0_ := Aside0.mk (Kd.R_below (by (with_reducible repeat (first | apply Kd.R_alloc | apply Kd.R_drewN | apply Kd.R_drew)); exact HO_3.out) hb); have n1_ := Aside0.mk (Kd.R_below (by (with_reducible repeat (first | apply Kd.R_alloc | apply Kd.R_drewN | apply Kd.R_drew)); exact HO_4.out) hb); have n2_ := Aside0.mk (below_step (by repeat (first | (with_reducible first | exact HB.out | apply below_alloc | apply pw_below_drewN | apply below_drew1) | exact HB.out)) hb); clear HO_3; clear HO_4; clear HB; have HO_3 := n0_; have HO_4 := n1_; have HB := n2_; clear n0_ n1_ n2_; (try clear hb); (try clear hb2); (try clear hk); (try clear hi)) | (go_at_call 19; (with_reducible refine (fascineref05_One.calls k1 a0 t197 _ ?side1 A19.out).mono ?_); (case side1 => first | exact HT.out | exact tabs_below HT.out (by repeat (first | (with_reducible first | exact HB.out | apply below_alloc | apply pw_below_drewN | apply below_drew1) | exact HB.out))); rintro e w24 ⟨rfl, hb⟩; have n0_ := Aside0.mk (Kd.R_below (by (with_reducible repeat (first | apply Kd.R_alloc | apply Kd.R_drewN | apply Kd.R_drew)); exact HO_3.out) hb); have n1_ := Aside0.mk (Kd.R_below (by (with_reducible repeat (first | apply Kd.R_alloc | apply Kd.R_drewN | apply Kd.R_drew)); exact HO_4.out) hb); have n2_ := Aside0.mk (below_step (by repeat (first | (with_reducible first | exact HB.out | apply below_alloc | apply pw_below_drewN | apply below_drew1) | exact HB.out)) hb); clear HO_3; clear HO_4; clear HB; have HO_3 := n0_; have HO_4 := n1_; have HB := n2_; clear n0_ n1_ n2_; (try clear hb); (try clear hb2); (try clear hk); (try clear hi)) | (go_at_call 20; (with_reducible refine (words_Pair.calls k1 a0 t198 _ ?side1 A21.out).mono ?_); (case side1 => first | exact HT.out | exact tabs_below HT.out (by repeat (first | (with_reducible first | exact HB.out | apply below_alloc | apply pw_below_drewN | apply below_drew1) | exact HB.out))); rintro e w25 ⟨rfl, hb⟩; have n0_ := Aside0.mk (Kd.R_below (by (with_reducible repeat (first | apply Kd.R_alloc | apply Kd.R_drewN | apply Kd.R_drew)); exact HO_3.out) hb); have n1_ := Aside0.mk (Kd.R_below (by (with_reducible repeat (first | apply Kd.R_alloc | apply Kd.R_drewN | apply Kd.R_drew)); exact HO_4.out) hb); have n2_ := Aside0.mk (below_step (by repeat (first | (with_reducible first | exact HB.out | apply below_alloc | apply pw_below_drewN | apply below_drew1) | exact HB.out)) hb); clear HO_3; clear HO_4; clear HB; have HO_3 := n0_; have HO_4 := n1_; have HB := n2_; clear n0_ n1_ n2_; (try clear hb); (try clear hb2); (try clear hk); (try clear hi)) | (go_at_call 21; (with_reducible refine (fascineref05_Pair.calls k1 a0 t199 _ ?side1 A22.out).mono ?_); (case side1 => first | exact HT.out | exact tabs_below HT.out (by repeat (first | (with_reducible first | exact HB.out | apply below_alloc | apply pw_below_drewN | apply below_drew1) | exact HB.out))); rintro e w26 ⟨rfl, hb⟩; have n0_ := Aside0.mk (Kd.R_below (by (with_reducible repeat (first | apply Kd.R_alloc | apply Kd.R_drewN | apply Kd.R_drew)); exact HO_3.out) hb); have n1_ := Aside0.mk (Kd.R_below (by (with_reducible repeat (first | apply Kd.R_alloc | apply Kd.R_drewN | apply Kd.R_drew)); exact HO_4.out) hb); have n2_ := Aside0.mk (below_step (by repeat (first | (with_reducible first | exact HB.out | apply below_alloc | apply pw_below_drewN | apply below_drew1) | exact HB.out)) hb); clear HO_3; clear HO_4; clear HB; have HO_3 := n0_; have HO_4 := n1_; have HB := n2_; clear n0_ n1_ n2_; (try clear hb); (try clear hb2); (try clear hk); (try clear hi)))
              repeat (go_quiet (first | (go_at_call 18; (with_reducible refine (words_One.calls k1 a0 t196 _ ?side1 A18.out).mono ?_); (case side1 => first | exact HT.out | exact tabs_below HT.out (by repeat (first | (with_reducible first | exact HB.out | apply below_alloc | apply pw_below_drewN | apply below_drew1) | exact HB.out))); rintro e w23 ⟨rfl, hb⟩; have n0_ := Aside0.mk (Kd.R_below (by (with_reducible repeat (first | apply Kd.R_alloc | apply Kd.R_drewN | apply Kd.R_drew)); exact HO_3.out) hb); have n1_ := Aside0.mk (Kd.R_below (by (with_reducible repeat (first | apply Kd.R_alloc | apply Kd.R_drewN | apply Kd.R_drew)); exact HO_4.out) hb); have n2_ := Aside0.mk (below_step (by repeat (first | (with_reducible first | exact HB.out | apply below_alloc | apply pw_below_drewN | apply below_drew1) | exact HB.out)) hb); clear HO_3; clear HO_4; clear HB; have HO_3 := n0_; have HO_4 := n1_; have HB := n2_; clear n0_ n1_ n2_; (try clear hb); (try clear hb2); (try clear hk); (try clear hi)) | (go_at_call 19; (with_reducible refine (fascineref05_One.calls k1 a0 t197 _ ?side1 A19.out).mono ?_); (case side1 => first | exact HT.out | exact tabs_below HT.out (by repeat (first | (with_reducible first | exact HB.out | apply below_alloc | apply pw_below_drewN | apply below_drew1) | exact HB.out))); rintro e w24 ⟨rfl, hb⟩; have n0_ := Aside0.mk (Kd.R_below (by (with_reducible repeat (first | apply Kd.R_alloc | apply Kd.R_drewN | apply Kd.R_drew)); exact HO_3.out) hb); have n1_ := Aside0.mk (Kd.R_below (by (with_reducible repeat (first | apply Kd.R_alloc | apply Kd.R_drewN | apply Kd.R_drew)); exact HO_4.out) hb); have n2_ := Aside0.mk (below_step (by repeat (first | (with_reducible first | exact HB.out | apply below_alloc | apply pw_below_drewN | apply below_drew1) | exact HB.out)) hb); clear HO_3; clear HO_4; clear HB; have HO_3 := n0_; have HO_4 := n1_; have HB := n2_; clear n0_ n1_ n2_; (try clear hb); (try clear hb2); (try clear hk); (try clear hi)) | (go_at_call 20; (with_reducible refine (words_Pair.calls k1 a0 t198 _ ?side1 A21.out).mono ?_); (case side1 => first | exact HT.out | exact tabs_below HT.out (by repeat (first | (with_reducible first | exact HB.out | apply below_alloc | apply pw_below_drewN | apply below_drew1) | exact HB.out))); rintro e w25 ⟨rfl, hb⟩; have n0_ := Aside0.mk (Kd.R_below (by (with_reducible repeat (first | apply Kd.R_alloc | apply Kd.R_drewN | apply Kd.R_drew)); exact HO_3.out) hb); have n1_ := Aside0.mk (Kd.R_below (by (with_reducible repeat (first | apply Kd.R_alloc | apply Kd.R_drewN | apply Kd.R_drew)); exact HO_4.out) hb); have n2_ := Aside0.mk (below_step (by repeat (first | (with_reducible first | exact HB.out | apply below_alloc | apply pw_below_drewN | apply below_drew1) | exact HB.out)) hb); clear HO_3; clear HO_4; clear HB; have HO_3 := n0_; have HO_4 := n1_; have HB := n2_; clear n0_ n1_ n2_; (try clear hb); (try clear hb2); (try clear hk); (try clear hi)) | (go_at_call 21; (with_reducible refine (fascineref05_Pair.calls k1 a0 t199 _ ?side1 A22.out).mono ?_); (case side1 => first | exact HT.out | exact tabs_below HT.out (by repeat (first | (with_reducible first | exact HB.out | apply below_alloc | apply pw_below_drewN | apply below_drew1) | exact HB.out))); rintro e w26 ⟨rfl, hb⟩; have n0_ := Aside0.mk (Kd.R_below (by (with_reducible repeat (first | apply Kd.R_alloc | apply Kd.R_drewN | apply Kd.R_drew)); exact HO_3.out) hb); have n1_ := Aside0.mk (Kd.R_below (by (with_reducible repeat (first | apply Kd.R_alloc | apply Kd.R_drewN | apply Kd.R_drew)); exact HO_4.out) hb); have n2_ := Aside0.mk (below_step (by repeat (first | (with_reducible first | exact HB.out | apply below_alloc | apply pw_below_drewN | apply below_drew1) | exact HB.out)) hb); clear HO_3; clear HO_4; clear HB; have HO_3 := n0_; have HO_4 := n1_; have HB := n2_; clear n0_ n1_ n2_; (try clear hb); (try clear hb2); (try clear hk); (try clear hi))); try go_wp2_with (first | (go_at_call 18; (with_reducible refine (words_One.calls k1 a0 t196 _ ?side1 A18.out).mono ?_); (case side1 => first | exact HT.out | exact tabs_below HT.out (by repeat (first | (with_reducible first | exact HB.out | apply below_alloc | apply pw_below_drewN | apply below_drew1) | exact HB.out))); rintro e w23 ⟨rfl, hb⟩; have n0_ := Aside0.mk (Kd.R_below (by (with_reducible repeat (first | apply Kd.R_alloc | apply Kd.R_drewN | apply Kd.R_drew)); exact HO_3.out) hb); have n1_ := Aside0.mk (Kd.R_below (by (with_reducible repeat (first | apply Kd.R_alloc | apply Kd.R_drewN | apply Kd.R_drew)); exact HO_4.out) hb); have n2_ := Aside0.mk (below_step (by repeat (first | (with_reducible first | exact HB.out | apply below_alloc | apply pw_below_drewN | apply below_drew1) | exact HB.out)) hb); clear HO_3; clear HO_4; clear HB; have HO_3 := n0_; have HO_4 := n1_; have HB := n2_; clear n0_ n1_ n2_; (try clear hb); (try clear hb2); (try clear hk); (try clear hi)) | (go_at_call 19; (with_reducible refine (fascineref05_One.calls k1 a0 t197 _ ?side1 A19.out).mono ?_); (case side1 => first | exact HT.out | exact tabs_below HT.out (by repeat (first | (with_reducible first | exact HB.out | apply below_alloc | apply pw_below_drewN | apply below_drew1) | exact HB.out))); rintro e w24 ⟨rfl, hb⟩; have n0_ := Aside0.mk (Kd.R_below (by (with_reducible repeat (first | apply Kd.R_alloc | apply Kd.R_drewN | apply Kd.R_drew)); exact HO_3.out) hb); have n1_ := Aside0.mk (Kd.R_below (by (with_reducible repeat (first | apply Kd.R_alloc | apply Kd.R_drewN | apply Kd.R_drew)); exact HO_4.out) hb); have n2_ := Aside0.mk (below_step (by repeat (first | (with_reducible first | exact HB.out | apply below_alloc | apply pw_below_drewN | apply below_drew1) | exact HB.out)) hb); clear HO_3; clear HO_4; clear HB; have HO_3 := n0_; have HO_4 := n1_; have HB := n2_; clear n0_ n1_ n2_; (try clear hb); (try clear hb2); (try clear hk); (try clear hi)) | (go_at_call 20; (with_reducible refine (words_Pair.calls k1 a0 t198 _ ?side1 A21.out).mono ?_); (case side1 => first | exact HT.out | exact tabs_below HT.out (by repeat (first | (with_reducible first | exact HB.out | apply below_alloc | apply pw_below_drewN | apply below_drew1) | exact HB.out))); rintro e w25 ⟨rfl, hb⟩; have n0_ := Aside0.mk (Kd.R_below (by (with_reducible repeat (first | apply Kd.R_alloc | apply Kd.R_drewN | apply Kd.R_drew)); exact HO_3.out) hb); have n1_ := Aside0.mk (Kd.R_below (by (with_reducible repeat (first | apply Kd.R_alloc | apply Kd.R_drewN | apply Kd.R_drew)); exact HO_4.out) hb); have n2_ := Aside0.mk (below_step (by repeat (first | (with_reducible first | exact HB.out | apply below_alloc | apply pw_below_drewN | apply below_drew1) | exact HB.out)) hb); clear HO_3; clear HO_4; clear HB; have HO_3 := n0_; have HO_4 := n1_; have HB := n2_; clear n0_ n1_ n2_; (try clear hb); (try clear hb2); (try clear hk); (try clear hi)) | (go_at_call 21; (with_reducible refine (fascineref05_Pair.calls k1 a0 t199 _ ?side1 A22.out).mono ?_); (case side1 => first | exact HT.out | exact tabs_below HT.out (by repeat (first | (with_reducible first | exact HB.out | apply below_alloc | apply pw_below_drewN | apply below_drew1) | exact HB.out))); rintro e w26 ⟨rfl, hb⟩; have n0_ := Aside0.mk (Kd.R_below (by (with_reducible repeat (first | apply Kd.R_alloc | apply Kd.R_drewN | apply Kd.R_drew)); exact HO_3.out) hb); have n1_ := Aside0.mk (Kd.R_below (by (with_reducible repeat (first | apply Kd.R_alloc | apply Kd.R_drewN | apply Kd.R_drew)); exact HO_4.out) hb); have n2_ := Aside0.mk (below_step (by repeat (first | (with_reducible first | exact HB.out | apply below_alloc | apply pw_below_drewN | apply below_drew1) | exact HB.out)) hb); clear HO_3; clear HO_4; clear HB; have HO_3 := n0_; have HO_4 := n1_; have HB := n2_; clear n0_ n1_ n2_; (try clear hb); (try clear hb2); (try clear hk); (try clear hi))))
              go_ret
              exact ⟨by first | rfl | (simp [errW_none, errW_some] <;> rfl) | (simp [*, errW_none, errW_some] <;> rfl), by repeat (first | (with_reducible first | exact HB.out | apply below_alloc | apply pw_below_drewN | apply below_drew1) | exact HB.out)⟩
            · rw [if_neg c20] at H
              have c20b0 : (t196 == t197) = false := (by first | exact Bool.eq_false_iff.mpr c20 | simpa using c20)
              (try (have c20b1 : decide (t196 = t197) = false := by simpa using c20))
              (try (have c20b2 : (t196 == t197) = false := by simpa using c20))
              (try (have c20b3 : ¬ (t196 = t197) := by simpa using c20))
              clear c20
              exact absurd (HR_.out.symm.trans (Option.some.inj H).symm) (by decide)
    · rw [if_neg c6] at H
      have c6b0 : ((t184.length : Int) == (t187.length : Int)) = false := beq_eq_false_iff_ne.mpr c6
      have c6b1 : ((t184.length : Int) != (t187.length : Int)) = true := bne_iff_ne.mpr c6
      have c6b2 : (t184.length == t187.length) = false := by first | simpa using c6 | (simp at c6 ⊢; omega)
      exact absurd (HR_.out.symm.trans (Option.some.inj H).symm) (by decide)
  · replace c3 := Bool.eq_false_iff.mpr c3
    subst c3
    have H1 : (some false) = some r := by rw [if_neg (show ¬ (false = true) by decide)] at H; exact H
    clear H
    have H := H1
    clear H1
    exact absurd (HR_.out.symm.trans (Option.some.inj H).symm) (by decide)

/-- THE ONE PURE STATEMENT of fascinelaw05_WordsTold: yours. -/
def fascinelaw05_WordsTold.Pure : Prop := ∀ (a0 : ByteArray), a0.size ≤ 140737488351232 → ∃ k, fascinelaw05_WordsTold.f k a0 = some true
theorem fascinelaw05_WordsTold.walk (P : fascinelaw05_WordsTold.Pure) (a0 : ByteArray) (w : World) (hT : tabs w) (w0 : a0.size ≤ 140737488351232) :
    Calls Tryd.prog 6 #[.string a0] w fun e w' => e = .returned (.bool true) ∧ Below w.heap.size w w' := by
  obtain ⟨k, h⟩ := P a0 w0
  refine (fascinelaw05_WordsTold.calls k a0 true w hT h rfl).mono ?_
  rintro e w' ⟨rfl, hd⟩
  exact ⟨rfl, hd⟩

end Go.Proofs.YtpkjfpapjcmhdaaDoor.PWordsTold
