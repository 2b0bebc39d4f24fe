-- WRITTEN BY A PROGRAM OF THIS SESSION (wip/patch_print.py: the kit's printer with rules of this session's own); Lean checks it.
import Derived.Test.YtpigloohccpfiaaDoorPHttpPiecesx0
import Derived.Test.YtpigloohccpfiaaDoorPHttpPiecesx4
namespace Go.Proofs.YtpigloohccpfiaaDoor.PHttpPieces
open Go.RowKit Go.Proofs.YtpigloohccpfiaaDoorW.PrintWords Go.Proofs.YtpigloohccpfiaaDoorW.PrintLast Go.Proofs.YtpigloohccpfiaaDoorW.PrintMore
open Go.Proofs.YtpigloohccpfiaaDoor.G
attribute [local go_sem] max2_int min2_int max_two min_two max_three min_three max_four min_four   -- for this text's walks alone
set_option linter.unusedVariables false
set_option linter.unusedSimpArgs false

/-! ### fascinelaw12_HttpPieces: function 4 -/
def fascinelaw12_HttpPieces.j0 : Nat → ByteArray → ByteArray → Bool → Int → Bool → Option (Bool)
  | 0, _, _, _, _, _ => none
  | k + 1, x0, x1, x2, x3, x31 => if x31 = true then ((fascinelaw12_awake.f k).bind fun t174 => (some t174)) else ((fascinelaw12_request.f k x0 x2).bind fun t175 => (if (t175.size : Int) = 0 then (none) else (if 0 ≤ (Int.tmod (wrap64 (x3)) (t175.size : Int)) then (if (Int.tmod (wrap64 (x3)) (t175.size : Int)) ≤ (t175.size : Int) then ((http_Read.f k (t175.extract 0 ((Int.tmod (wrap64 (x3)) (t175.size : Int)) : Int).toNat)).bind fun bt176 => ((fascinelaw12_request.f k x1 false).bind fun t183 => (if t175.size + t183.size ≤ 9223372036854775807 then ((http_Read.f k (t175 ++ t183)).bind fun bt184 => ((fascinelaw12_request.f k x1 false).bind fun t191 => ((http_Read.f k t191).bind fun bt192 => (if bt176.2.2.2.2.1 = 0 then (if bt176.2.2.2.2.2 = 0 then (if bt184.2.2.2.2.2 = 0 then (if bt184.2.2.2.2.1 = (t175.size : Int) then (if bt184.2.2.1.toList = x0.toList then (if (bt184.2.2.2.1 == x2) = true then (if bt184.2.1.toList = ([47, 100, 111, 99, 115] : List UInt8) then (if bt192.2.2.2.2.2 = 0 then ((fascinelaw12_request.f k x1 false).bind fun t199 => (if bt192.2.2.2.2.1 = (t199.size : Int) then (some (bt192.2.2.1.toList == x1.toList)) else (some false))) else (some false)) else (some false)) else (some false)) else (some false)) else (some false)) else (some false)) else (some false)) else (some false))))) else (none)))) else (none)) else (none))))
def fascinelaw12_HttpPieces.f (k : Nat) (a0 : ByteArray) (a1 : ByteArray) (a2 : Bool) (a3 : Int) : Option (Bool) := (fascinelaw12_awake.f k).bind fun t173 => (if t173 = true then (if (a0.size : Int) > 8192 then (fascinelaw12_HttpPieces.j0 k a0 a1 a2 a3 true) else (fascinelaw12_HttpPieces.j0 k a0 a1 a2 a3 (decide ((a1.size : Int) > 8192)))) else (fascinelaw12_HttpPieces.j0 k a0 a1 a2 a3 true))
theorem fascinelaw12_HttpPieces.mono_l : ∀ k, (∀ y0 y1 y2 y3 y4, LeO (fascinelaw12_HttpPieces.j0 k y0 y1 y2 y3 y4) (fascinelaw12_HttpPieces.j0 (k + 1) y0 y1 y2 y3 y4))
  | 0 => fun _ _ _ _ _ r h => by simp [fascinelaw12_HttpPieces.j0] at h
  | k + 1 => by
    have ih0 := fascinelaw12_HttpPieces.mono_l k
    · intro y0 y1 y2 y3 y4
      unfold fascinelaw12_HttpPieces.j0
      repeat' first
      | (with_reducible exact ih0 _ _ _ _ _)
      | (with_reducible exact fascinelaw12_awake.mono _)
      | (with_reducible exact fascinelaw12_request.mono _ _ _)
      | (with_reducible exact http_Read.mono _ _)
      | (with_reducible exact LeO.refl _)
      | (with_reducible exact LeO.none _)
      | (with_reducible refine LeO.ite ?_ ?_)
      | (with_reducible refine LeO.bind ?_ (fun _ => ?_))
      | exact ih0 _ _ _ _ _
      | exact fascinelaw12_awake.mono _
      | exact fascinelaw12_request.mono _ _ _
      | exact http_Read.mono _ _
      | exact LeO.none _
      | refine LeO.ite ?_ ?_
      | refine LeO.bind ?_ (fun _ => ?_)
theorem fascinelaw12_HttpPieces.mono : ∀ a0 a1 a2 a3 k, LeO (fascinelaw12_HttpPieces.f k a0 a1 a2 a3) (fascinelaw12_HttpPieces.f (k + 1) a0 a1 a2 a3) := by
  intro a0 a1 a2 a3 k
  have ih0 := fascinelaw12_HttpPieces.mono_l k
  unfold fascinelaw12_HttpPieces.f
  repeat' first
      | (with_reducible exact ih0 _ _ _ _ _)
      | (with_reducible exact fascinelaw12_awake.mono _)
      | (with_reducible exact fascinelaw12_request.mono _ _ _)
      | (with_reducible exact http_Read.mono _ _)
      | (with_reducible exact LeO.refl _)
      | (with_reducible exact LeO.none _)
      | (with_reducible refine LeO.ite ?_ ?_)
      | (with_reducible refine LeO.bind ?_ (fun _ => ?_))
      | exact ih0 _ _ _ _ _
      | exact fascinelaw12_awake.mono _
      | exact fascinelaw12_request.mono _ _ _
      | exact http_Read.mono _ _
      | exact LeO.none _
      | refine LeO.ite ?_ ?_
      | refine LeO.bind ?_ (fun _ => ?_)
set_option maxHeartbeats 8000000 in
set_option maxRecDepth 100000 in
theorem fascinelaw12_HttpPieces.calls (k : Nat) (a0 : ByteArray) (a1 : ByteArray) (a2 : Bool) (a3 : Int) (r : Bool) (w : World) (hT : tabs w) (h : fascinelaw12_HttpPieces.f k a0 a1 a2 a3 = some r) (hr_ : r = true) :
    Calls Tryd.prog 4 #[.string a0, .string a1, .bool a2, .int .u16 a3] w fun e w' => e = .returned (.bool r) ∧ Below w.heap.size w w' := by
  have HR_ := Aside0.mk hr_
  clear hr_
  have hu24 := Tryd.underlying24
  have HT := Aside0.mk hT
  clear hT
  have HB := Aside0.mk (Below.refl w.heap.size w)
  have H : ((fascinelaw12_awake.f k).bind fun t173 => (if t173 = true then (if (a0.size : Int) > 8192 then (fascinelaw12_HttpPieces.j0 k a0 a1 a2 a3 true) else (fascinelaw12_HttpPieces.j0 k a0 a1 a2 a3 (decide ((a1.size : Int) > 8192)))) else (fascinelaw12_HttpPieces.j0 k a0 a1 a2 a3 true))) = some r := h
  clear h
  have HC5 := Aside0.mk H
  clear H
  go_enter Tryd.func4, Tryd.ntmps4
  go_upto_region 1 with (fail)
  go_cut [31] (fun v31 wc => ∃ (kq : Nat) (x31_4 : Bool), v31 = .bool x31_4 ∧ Aside0 (fascinelaw12_HttpPieces.j0 kq a0 a1 a2 a3 x31_4 = some r) ∧ Aside0 (kq ≤ k) ∧ Aside0 (Below w.heap.size w wc))
  case first =>
    have H := HC5.out
    clear HC5
    replace H := Option.bind_eq_some_iff.mp H
    obtain ⟨t173, A60, H⟩ := H
    replace H : (if t173 = true then (if (a0.size : Int) > 8192 then (fascinelaw12_HttpPieces.j0 k a0 a1 a2 a3 true) else (fascinelaw12_HttpPieces.j0 k a0 a1 a2 a3 (decide ((a1.size : Int) > 8192)))) else (fascinelaw12_HttpPieces.j0 k a0 a1 a2 a3 true)) = some r := H
    have A6 := Aside0.mk A60
    clear A60
    by_cases c7 : t173 = true
    · subst c7
      have H1 : (if (a0.size : Int) > 8192 then (fascinelaw12_HttpPieces.j0 k a0 a1 a2 a3 true) else (fascinelaw12_HttpPieces.j0 k a0 a1 a2 a3 (decide ((a1.size : Int) > 8192)))) = some r := by rw [if_pos rfl] at H; exact H
      clear H
      have H := H1
      clear H1
      by_cases c8 : (a0.size : Int) > 8192
      · rw [if_pos c8] at H
        have c8b0 : decide (8192 < (a0.size : Int)) = true := decide_eq_true c8
        have c8b1 : decide (8192 < a0.size) = true := decide_eq_true (by omega)
        clear c8
        (first | rw [c8b0] | (simp only [i64_w, i32_w]; rw [c8b0]) | skip)
        have H' := Aside0.mk H
        clear H
        go_wp2_with (first | ((with_reducible refine gate_callee (f := 9) rfl ?_); refine goesL_ (some 20) rfl rfl Tryd.func9 (by kernel_rfl) rfl #[] rfl (by (try simp only [List.map_toArray, List.map_cons, List.map_nil]); first | done | rfl | (simp only [List.length_drop, List.length_take]; rfl)) ?_; (with_reducible refine (fascinelaw12_awake.calls k  true _ ?side1 A6.out).mono ?_); (case side1 => first | exact HT.out | exact tabs_below HT.out (by repeat (first | (with_reducible first | exact HB.out | apply below_alloc | apply pw_below_drewN | apply below_drew1) | exact HB.out))); rintro e w9 ⟨rfl, hb⟩; refine ⟨_, rfl, ?_⟩; have n0_ := Aside0.mk (below_step (by repeat (first | (with_reducible first | exact HB.out | apply below_alloc | apply pw_below_drewN | apply below_drew1) | exact HB.out)) hb); clear HB; have HB := n0_; clear n0_; (try clear hb); (try clear hb2); (try clear hk); (try clear hi)))
        go_meet
        case rel => exact ⟨_, (true), (by first | rfl | (simp; done) | (simp [*]; done)), H', ⟨by first | omega | exact Nat.le_refl _⟩, ⟨by repeat (first | (with_reducible first | exact HB.out | apply below_alloc | apply pw_below_drewN | apply below_drew1) | exact HB.out)⟩⟩
      · rw [if_neg c8] at H
        have c8b0 : decide (8192 < (a0.size : Int)) = false := decide_eq_false c8
        have c8b1 : decide (8192 < a0.size) = false := decide_eq_false (by omega)
        clear c8
        (first | rw [c8b0] | (simp only [i64_w, i32_w]; rw [c8b0]) | skip)
        have H' := Aside0.mk H
        clear H
        go_wp2_with (first | ((with_reducible refine gate_callee (f := 9) rfl ?_); refine goesL_ (some 20) rfl rfl Tryd.func9 (by kernel_rfl) rfl #[] rfl (by (try simp only [List.map_toArray, List.map_cons, List.map_nil]); first | done | rfl | (simp only [List.length_drop, List.length_take]; rfl)) ?_; (with_reducible refine (fascinelaw12_awake.calls k  true _ ?side1 A6.out).mono ?_); (case side1 => first | exact HT.out | exact tabs_below HT.out (by repeat (first | (with_reducible first | exact HB.out | apply below_alloc | apply pw_below_drewN | apply below_drew1) | exact HB.out))); rintro e w10 ⟨rfl, hb⟩; refine ⟨_, rfl, ?_⟩; have n0_ := Aside0.mk (below_step (by repeat (first | (with_reducible first | exact HB.out | apply below_alloc | apply pw_below_drewN | apply below_drew1) | exact HB.out)) hb); clear HB; have HB := n0_; clear n0_; (try clear hb); (try clear hb2); (try clear hk); (try clear hi)))
        go_meet
        case rel => exact ⟨_, (decide ((a1.size : Int) > 8192)), (by first | rfl | (simp; done) | (simp [*]; done)), H', ⟨by first | omega | exact Nat.le_refl _⟩, ⟨by repeat (first | (with_reducible first | exact HB.out | apply below_alloc | apply pw_below_drewN | apply below_drew1) | exact HB.out)⟩⟩
    · replace c7 := Bool.eq_false_iff.mpr c7
      subst c7
      have H1 : (fascinelaw12_HttpPieces.j0 k a0 a1 a2 a3 true) = some r := by rw [if_neg (show ¬ (false = true) by decide)] at H; exact H
      clear H
      have H := H1
      clear H1
      have H' := Aside0.mk H
      clear H
      go_wp2_with (first | ((with_reducible refine gate_callee (f := 9) rfl ?_); refine goesL_ (some 20) rfl rfl Tryd.func9 (by kernel_rfl) rfl #[] rfl (by (try simp only [List.map_toArray, List.map_cons, List.map_nil]); first | done | rfl | (simp only [List.length_drop, List.length_take]; rfl)) ?_; (with_reducible refine (fascinelaw12_awake.calls k  false _ ?side1 A6.out).mono ?_); (case side1 => first | exact HT.out | exact tabs_below HT.out (by repeat (first | (with_reducible first | exact HB.out | apply below_alloc | apply pw_below_drewN | apply below_drew1) | exact HB.out))); rintro e w11 ⟨rfl, hb⟩; refine ⟨_, rfl, ?_⟩; have n0_ := Aside0.mk (below_step (by repeat (first | (with_reducible first | exact HB.out | apply below_alloc | apply pw_below_drewN | apply below_drew1) | exact HB.out)) hb); clear HB; have HB := n0_; clear n0_; (try clear hb); (try clear hb2); (try clear hk); (try clear hi)))
      go_meet
      case rel => exact ⟨_, (true), (by first | rfl | (simp; done) | (simp [*]; done)), H', ⟨by first | omega | exact Nat.le_refl _⟩, ⟨by repeat (first | (with_reducible first | exact HB.out | apply below_alloc | apply pw_below_drewN | apply below_drew1) | exact HB.out)⟩⟩
  case rest =>
    clear HC5
    try clear p2
    try clear c4
    try clear c7
    try clear c8
    try clear c8b0
    try clear c8b1
    try clear c9
    obtain ⟨kq, x31_4, rfl, HA, HJ4, HB⟩ := hcut
    cases kq with
    | zero => exact absurd HA.out (by simp [fascinelaw12_HttpPieces.j0])
    | succ kj4 =>
      have H := HA.out
      clear HA
      simp only [fascinelaw12_HttpPieces.j0] at H
      by_cases c12 : x31_4 = true
      · subst c12
        have H1 : ((fascinelaw12_awake.f kj4).bind fun t174 => (some t174)) = some r := by rw [if_pos rfl] at H; exact H
        clear H
        have H := H1
        clear H1
        replace H := Option.bind_eq_some_iff.mp H
        obtain ⟨t174, A130, H⟩ := H
        replace H : (some t174) = some r := H
        have A13 := Aside0.mk A130
        clear A130
        obtain rfl := Option.some.inj H
        go_wp2_with (first | ((with_reducible refine gate_callee (f := 9) rfl ?_); refine goesL_ (some 32) rfl rfl Tryd.func9 (by kernel_rfl) rfl #[] rfl (by (try simp only [List.map_toArray, List.map_cons, List.map_nil]); first | done | rfl | (simp only [List.length_drop, List.length_take]; rfl)) ?_; (with_reducible refine (fascinelaw12_awake.calls kj4  t174 _ ?side1 A13.out).mono ?_); (case side1 => first | exact HT.out | exact tabs_below HT.out (by repeat (first | (with_reducible first | exact HB.out | apply below_alloc | apply pw_below_drewN | apply below_drew1) | exact HB.out))); rintro e w14 ⟨rfl, hb⟩; refine ⟨_, rfl, ?_⟩; have n0_ := Aside0.mk (below_step (by repeat (first | (with_reducible first | exact HB.out | apply below_alloc | apply pw_below_drewN | apply below_drew1) | exact HB.out)) hb); clear HB; have HB := n0_; clear n0_; (try clear hb); (try clear hb2); (try clear hk); (try clear hi)))
        go_ret
        exact ⟨by first | rfl | (simp [errW_none, errW_some] <;> rfl) | (simp [*, errW_none, errW_some] <;> rfl), by repeat (first | (with_reducible first | exact HB.out | apply below_alloc | apply pw_below_drewN | apply below_drew1) | exact HB.out)⟩
      · replace c12 := Bool.eq_false_iff.mpr c12
        subst c12
        have H1 : ((fascinelaw12_request.f kj4 a0 a2).bind fun t175 => (if (t175.size : Int) = 0 then (none) else (if 0 ≤ (Int.tmod (wrap64 (a3)) (t175.size : Int)) then (if (Int.tmod (wrap64 (a3)) (t175.size : Int)) ≤ (t175.size : Int) then ((http_Read.f kj4 (t175.extract 0 ((Int.tmod (wrap64 (a3)) (t175.size : Int)) : Int).toNat)).bind fun bt176 => ((fascinelaw12_request.f kj4 a1 false).bind fun t183 => (if t175.size + t183.size ≤ 9223372036854775807 then ((http_Read.f kj4 (t175 ++ t183)).bind fun bt184 => ((fascinelaw12_request.f kj4 a1 false).bind fun t191 => ((http_Read.f kj4 t191).bind fun bt192 => (if bt176.2.2.2.2.1 = 0 then (if bt176.2.2.2.2.2 = 0 then (if bt184.2.2.2.2.2 = 0 then (if bt184.2.2.2.2.1 = (t175.size : Int) then (if bt184.2.2.1.toList = a0.toList then (if (bt184.2.2.2.1 == a2) = true then (if bt184.2.1.toList = ([47, 100, 111, 99, 115] : List UInt8) then (if bt192.2.2.2.2.2 = 0 then ((fascinelaw12_request.f kj4 a1 false).bind fun t199 => (if bt192.2.2.2.2.1 = (t199.size : Int) then (some (bt192.2.2.1.toList == a1.toList)) else (some false))) else (some false)) else (some false)) else (some false)) else (some false)) else (some false)) else (some false)) else (some false)) else (some false))))) else (none)))) else (none)) else (none)))) = some r := by rw [if_neg (show ¬ (false = true) by decide)] at H; exact H
        clear H
        have H := H1
        clear H1
        replace H := Option.bind_eq_some_iff.mp H
        obtain ⟨t175, A150, H⟩ := H
        replace H : (if (t175.size : Int) = 0 then (none) else (if 0 ≤ (Int.tmod (wrap64 (a3)) (t175.size : Int)) then (if (Int.tmod (wrap64 (a3)) (t175.size : Int)) ≤ (t175.size : Int) then ((http_Read.f kj4 (t175.extract 0 ((Int.tmod (wrap64 (a3)) (t175.size : Int)) : Int).toNat)).bind fun bt176 => ((fascinelaw12_request.f kj4 a1 false).bind fun t183 => (if t175.size + t183.size ≤ 9223372036854775807 then ((http_Read.f kj4 (t175 ++ t183)).bind fun bt184 => ((fascinelaw12_request.f kj4 a1 false).bind fun t191 => ((http_Read.f kj4 t191).bind fun bt192 => (if bt176.2.2.2.2.1 = 0 then (if bt176.2.2.2.2.2 = 0 then (if bt184.2.2.2.2.2 = 0 then (if bt184.2.2.2.2.1 = (t175.size : Int) then (if bt184.2.2.1.toList = a0.toList then (if (bt184.2.2.2.1 == a2) = true then (if bt184.2.1.toList = ([47, 100, 111, 99, 115] : List UInt8) then (if bt192.2.2.2.2.2 = 0 then ((fascinelaw12_request.f kj4 a1 false).bind fun t199 => (if bt192.2.2.2.2.1 = (t199.size : Int) then (some (bt192.2.2.1.toList == a1.toList)) else (some false))) else (some false)) else (some false)) else (some false)) else (some false)) else (some false)) else (some false)) else (some false)) else (some false))))) else (none)))) else (none)) else (none))) = some r := H
        have A15 := Aside0.mk A150
        clear A150
        by_cases c16 : (t175.size : Int) = 0
        · rw [if_pos c16] at H
          exact absurd H (by simp)
        · rw [if_neg c16] at H
          have c16b0 : ((t175.size : Int) == 0) = false := beq_eq_false_iff_ne.mpr c16
          have c16b1 : ((t175.size : Int) != 0) = true := bne_iff_ne.mpr c16
          obtain ⟨ji17, hji17⟩ : ∃ j_ : Int, (Int.tmod (wrap64 (a3)) (t175.size : Int)) = j_ := ⟨_, rfl⟩
          replace H : (if 0 ≤ (ji17) then (if (ji17) ≤ (t175.size : Int) then ((http_Read.f kj4 (t175.extract 0 ((ji17) : Int).toNat)).bind fun bt176 => ((fascinelaw12_request.f kj4 a1 false).bind fun t183 => (if t175.size + t183.size ≤ 9223372036854775807 then ((http_Read.f kj4 (t175 ++ t183)).bind fun bt184 => ((fascinelaw12_request.f kj4 a1 false).bind fun t191 => ((http_Read.f kj4 t191).bind fun bt192 => (if bt176.2.2.2.2.1 = 0 then (if bt176.2.2.2.2.2 = 0 then (if bt184.2.2.2.2.2 = 0 then (if bt184.2.2.2.2.1 = (t175.size : Int) then (if bt184.2.2.1.toList = a0.toList then (if (bt184.2.2.2.1 == a2) = true then (if bt184.2.1.toList = ([47, 100, 111, 99, 115] : List UInt8) then (if bt192.2.2.2.2.2 = 0 then ((fascinelaw12_request.f kj4 a1 false).bind fun t199 => (if bt192.2.2.2.2.1 = (t199.size : Int) then (some (bt192.2.2.1.toList == a1.toList)) else (some false))) else (some false)) else (some false)) else (some false)) else (some false)) else (some false)) else (some false)) else (some false)) else (some false))))) else (none)))) else (none)) else (none)) = some r := by first | (rw [hji17] at H; exact H) | (simp only [hji17] at H ⊢; exact H)
          (try rw [hji17] at A15)
          by_cases c18 : 0 ≤ (ji17)
          · rw [if_pos c18] at H
            have c18b0 := eq_true c18
            have c18b1 : decide (0 ≤ (ji17)) = true := decide_eq_true c18
            clear c18
            by_cases c19 : (ji17) ≤ (t175.size : Int)
            · rw [if_pos c19] at H
              have c19b0 := eq_true c19
              have c19b1 : decide ((ji17) ≤ (t175.size : Int)) = true := decide_eq_true c19
              clear c19
              replace H := Option.bind_eq_some_iff.mp H
              obtain ⟨⟨t176, t177, t178, t179, t180, t181⟩, A200, H⟩ := H
              replace H : ((fascinelaw12_request.f kj4 a1 false).bind fun t183 => (if t175.size + t183.size ≤ 9223372036854775807 then ((http_Read.f kj4 (t175 ++ t183)).bind fun bt184 => ((fascinelaw12_request.f kj4 a1 false).bind fun t191 => ((http_Read.f kj4 t191).bind fun bt192 => (if t180 = 0 then (if t181 = 0 then (if bt184.2.2.2.2.2 = 0 then (if bt184.2.2.2.2.1 = (t175.size : Int) then (if bt184.2.2.1.toList = a0.toList then (if (bt184.2.2.2.1 == a2) = true then (if bt184.2.1.toList = ([47, 100, 111, 99, 115] : List UInt8) then (if bt192.2.2.2.2.2 = 0 then ((fascinelaw12_request.f kj4 a1 false).bind fun t199 => (if bt192.2.2.2.2.1 = (t199.size : Int) then (some (bt192.2.2.1.toList == a1.toList)) else (some false))) else (some false)) else (some false)) else (some false)) else (some false)) else (some false)) else (some false)) else (some false)) else (some false))))) else (none))) = some r := H
              have A20 := Aside0.mk A200
              clear A200
              replace H := Option.bind_eq_some_iff.mp H
              obtain ⟨t183, A210, H⟩ := H
              replace H : (if t175.size + t183.size ≤ 9223372036854775807 then ((http_Read.f kj4 (t175 ++ t183)).bind fun bt184 => ((fascinelaw12_request.f kj4 a1 false).bind fun t191 => ((http_Read.f kj4 t191).bind fun bt192 => (if t180 = 0 then (if t181 = 0 then (if bt184.2.2.2.2.2 = 0 then (if bt184.2.2.2.2.1 = (t175.size : Int) then (if bt184.2.2.1.toList = a0.toList then (if (bt184.2.2.2.1 == a2) = true then (if bt184.2.1.toList = ([47, 100, 111, 99, 115] : List UInt8) then (if bt192.2.2.2.2.2 = 0 then ((fascinelaw12_request.f kj4 a1 false).bind fun t199 => (if bt192.2.2.2.2.1 = (t199.size : Int) then (some (bt192.2.2.1.toList == a1.toList)) else (some false))) else (some false)) else (some false)) else (some false)) else (some false)) else (some false)) else (some false)) else (some false)) else (some false))))) else (none)) = some r := H
              have A21 := Aside0.mk A210
              clear A210
              by_cases c22 : t175.size + t183.size ≤ 9223372036854775807
              · rw [if_pos c22] at H
                have c22b0 := eq_true c22
                have c22b1 : decide (t175.size + t183.size ≤ 9223372036854775807) = true := decide_eq_true c22
                try have c22b2 : (9223372036854775807 < t175.size + t183.size) = False := eq_false (Nat.not_lt.2 c22)
                replace H := Option.bind_eq_some_iff.mp H
                obtain ⟨⟨t184, t185, t186, t187, t188, t189⟩, A230, H⟩ := H
                replace H : ((fascinelaw12_request.f kj4 a1 false).bind fun t191 => ((http_Read.f kj4 t191).bind fun bt192 => (if t180 = 0 then (if t181 = 0 then (if t189 = 0 then (if t188 = (t175.size : Int) then (if t186.toList = a0.toList then (if (t187 == a2) = true then (if t185.toList = ([47, 100, 111, 99, 115] : List UInt8) then (if bt192.2.2.2.2.2 = 0 then ((fascinelaw12_request.f kj4 a1 false).bind fun t199 => (if bt192.2.2.2.2.1 = (t199.size : Int) then (some (bt192.2.2.1.toList == a1.toList)) else (some false))) else (some false)) else (some false)) else (some false)) else (some false)) else (some false)) else (some false)) else (some false)) else (some false)))) = some r := H
                have A23 := Aside0.mk A230
                clear A230
                replace H := Option.bind_eq_some_iff.mp H
                obtain ⟨t191, A240, H⟩ := H
                replace H : ((http_Read.f kj4 t191).bind fun bt192 => (if t180 = 0 then (if t181 = 0 then (if t189 = 0 then (if t188 = (t175.size : Int) then (if t186.toList = a0.toList then (if (t187 == a2) = true then (if t185.toList = ([47, 100, 111, 99, 115] : List UInt8) then (if bt192.2.2.2.2.2 = 0 then ((fascinelaw12_request.f kj4 a1 false).bind fun t199 => (if bt192.2.2.2.2.1 = (t199.size : Int) then (some (bt192.2.2.1.toList == a1.toList)) else (some false))) else (some false)) else (some false)) else (some false)) else (some false)) else (some false)) else (some false)) else (some false)) else (some false))) = some r := H
                have A24 := Aside0.mk A240
                clear A240
                replace H := Option.bind_eq_some_iff.mp H
                obtain ⟨⟨t192, t193, t194, t195, t196, t197⟩, A250, H⟩ := H
                replace H : (if t180 = 0 then (if t181 = 0 then (if t189 = 0 then (if t188 = (t175.size : Int) then (if t186.toList = a0.toList then (if (t187 == a2) = true then (if t185.toList = ([47, 100, 111, 99, 115] : List UInt8) then (if t197 = 0 then ((fascinelaw12_request.f kj4 a1 false).bind fun t199 => (if t196 = (t199.size : Int) then (some (t194.toList == a1.toList)) else (some false))) else (some false)) else (some false)) else (some false)) else (some false)) else (some false)) else (some false)) else (some false)) else (some false)) = some r := H
                have A25 := Aside0.mk A250
                clear A250
                by_cases c26 : t180 = 0
                · rw [if_pos c26] at H
                  have c26b0 : (t180 == 0) = true := beq_iff_eq.mpr c26
                  have c26b1 : (t180 != 0) = false := bne_eq_false_iff_eq.mpr c26
                  clear c26
                  by_cases c27 : t181 = 0
                  · rw [if_pos c27] at H
                    have c27b0 : (t181 == 0) = true := beq_iff_eq.mpr c27
                    have c27b1 : (t181 != 0) = false := bne_eq_false_iff_eq.mpr c27
                    clear c27
                    by_cases c28 : t189 = 0
                    · rw [if_pos c28] at H
                      have c28b0 : (t189 == 0) = true := beq_iff_eq.mpr c28
                      have c28b1 : (t189 != 0) = false := bne_eq_false_iff_eq.mpr c28
                      clear c28
                      by_cases c29 : t188 = (t175.size : Int)
                      · rw [if_pos c29] at H
                        have c29b0 : (t188 == (t175.size : Int)) = true := beq_iff_eq.mpr c29
                        have c29b1 : (t188 != (t175.size : Int)) = false := bne_eq_false_iff_eq.mpr c29
                        clear c29
                        by_cases c30 : t186.toList = a0.toList
                        · rw [if_pos c30] at H
                          have c30b0 : (t186.toList == a0.toList) = true := beq_iff_eq.mpr c30
                          have c30b1 : (t186.toList != a0.toList) = false := bne_eq_false_iff_eq.mpr c30
                          clear c30
                          by_cases c31 : (t187 == a2) = true
                          · rw [if_pos c31] at H
                            have c31b0 : (t187 == a2) = true := c31
                            (try (have c31b1 : decide (t187 = a2) = true := by simpa using c31))
                            (try (have c31b2 : (t187 == a2) = true := by simpa using c31))
                            clear c31
                            by_cases c32 : t185.toList = ([47, 100, 111, 99, 115] : List UInt8)
                            · rw [if_pos c32] at H
                              have c32b0 : (t185.toList == ([47, 100, 111, 99, 115] : List UInt8)) = true := beq_iff_eq.mpr c32
                              have c32b1 : (t185.toList != ([47, 100, 111, 99, 115] : List UInt8)) = false := bne_eq_false_iff_eq.mpr c32
                              clear c32
                              by_cases c33 : t197 = 0
                              · rw [if_pos c33] at H
                                have c33b0 : (t197 == 0) = true := beq_iff_eq.mpr c33
                                have c33b1 : (t197 != 0) = false := bne_eq_false_iff_eq.mpr c33
                                clear c33
                                replace H := Option.bind_eq_some_iff.mp H
                                obtain ⟨t199, A340, H⟩ := H
                                replace H : (if t196 = (t199.size : Int) then (some (t194.toList == a1.toList)) else (some false)) = some r := H
                                have A34 := Aside0.mk A340
                                clear A340
                                by_cases c35 : t196 = (t199.size : Int)
                                · rw [if_pos c35] at H
                                  have c35b0 : (t196 == (t199.size : Int)) = true := beq_iff_eq.mpr c35
                                  have c35b1 : (t196 != (t199.size : Int)) = false := bne_eq_false_iff_eq.mpr c35
                                  clear c35
                                  obtain rfl := Option.some.inj H
                                  go_wp2_with (first | ((with_reducible refine gate_callee (f := 12) rfl ?_); refine goesL_ (some 35) rfl rfl Tryd.func12 (by kernel_rfl) rfl #[.string a0, .bool a2] rfl (by (try simp only [List.map_toArray, List.map_cons, List.map_nil]); first | done | rfl | (simp only [List.length_drop, List.length_take]; rfl)) ?_; (with_reducible refine (fascinelaw12_request.calls kj4 a0 a2 t175 _ A15.out).mono ?_); rintro e w36 ⟨rfl, hb⟩; refine ⟨_, rfl, ?_⟩; have n0_ := Aside0.mk (below_step (by repeat (first | (with_reducible first | exact HB.out | apply below_alloc | apply pw_below_drewN | apply below_drew1) | exact HB.out)) hb); clear HB; have HB := n0_; clear n0_; (try clear hb); (try clear hb2); (try clear hk); (try clear hi)) | ((with_reducible refine gate_callee (f := 10) rfl ?_); refine goesL_ (some 45) rfl rfl Tryd.func10 (by kernel_rfl) rfl #[.string (t175.extract 0 ((ji17) : Int).toNat)] rfl (by (try simp only [List.map_toArray, List.map_cons, List.map_nil]); first | done | (simp only [hji17]; rfl) | rfl | (simp only [List.length_drop, List.length_take]; rfl)) ?_; (with_reducible refine (http_Read.calls kj4 (t175.extract 0 ((ji17) : Int).toNat) t176 t177 t178 t179 t180 t181 _ ?side1 A20.out).mono ?_); (case side1 => first | exact HT.out | exact tabs_below HT.out (by repeat (first | (with_reducible first | exact HB.out | apply below_alloc | apply pw_below_drewN | apply below_drew1) | exact HB.out))); rintro e w37 ⟨rfl, hb⟩; refine ⟨_, rfl, ?_⟩; have n0_ := Aside0.mk (below_step (by repeat (first | (with_reducible first | exact HB.out | apply below_alloc | apply pw_below_drewN | apply below_drew1) | exact HB.out)) hb); clear HB; have HB := n0_; clear n0_; (try clear hb); (try clear hb2); (try clear hk); (try clear hi)) | ((with_reducible refine gate_dst (N := 11) rfl ?_); (try (refine gate_guard (by rfl) ?_; dsimp only)); refine box_event ?hg (N := 11) ?hd (cs := #[.string (⟨#[]⟩ : ByteArray), .string (⟨#[]⟩ : ByteArray), .string (⟨#[]⟩ : ByteArray), .bool false]) (t := 24) ?hr ?_; (case hd => rfl); (case hg => rfl); (case hr => first | (go_simp; done) | (go_simp; rfl)); intro gb182 hg w38 hbox hb; have n0_ := Aside0.mk (below_step (by repeat (first | (with_reducible first | exact HB.out | apply below_alloc | apply pw_below_drewN | apply below_drew1) | exact HB.out)) hb); have n1_ := Aside0.mk (hbox); have n2_ := Aside0.mk ((by rw [hg]; exact (below_size (by repeat (first | (with_reducible first | exact HB.out | apply below_alloc | apply pw_below_drewN | apply below_drew1) | exact HB.out))) : w.heap.size ≤ gb182)); have n3_ := Aside0.mk ((by rw [hg]; exact (below_size (by repeat (first | (with_reducible first | exact HB.out | apply below_alloc | apply pw_below_drewN | apply below_drew1) | exact HB.out))) : w.heap.size ≤ gb182)); clear HB; have HB := n0_; have BK182 := n1_; have GW182 := n2_; have GE182 := n3_; clear n0_ n1_ n2_ n3_; clear hb hbox hg; have hcz39_0 : w38.cell? ⟨gb182, 0, none⟩ = some (.string (⟨#[]⟩ : ByteArray)) := (blk_cell BK182.out 0).trans rfl; have hcz39_1 : w38.cell? ⟨gb182, 1, none⟩ = some (.string (⟨#[]⟩ : ByteArray)) := (blk_cell BK182.out 1).trans rfl; have hcz39_2 : w38.cell? ⟨gb182, 2, none⟩ = some (.string (⟨#[]⟩ : ByteArray)) := (blk_cell BK182.out 2).trans rfl; have hcz39_3 : w38.cell? ⟨gb182, 3, none⟩ = some (.bool false) := (blk_cell BK182.out 3).trans rfl; have hfz39_0 := blk_frozen BK182.out 0; have hfz39_1 := blk_frozen BK182.out 1; have hfz39_2 := blk_frozen BK182.out 2; have hfz39_3 := blk_frozen BK182.out 3) | ((with_reducible refine gate_callee (f := 12) rfl ?_); refine goesL_ (some 52) rfl rfl Tryd.func12 (by kernel_rfl) rfl #[.string a1, .bool false] rfl (by (try simp only [List.map_toArray, List.map_cons, List.map_nil]); first | done | rfl | (simp only [List.length_drop, List.length_take]; rfl)) ?_; (with_reducible refine (fascinelaw12_request.calls kj4 a1 false t183 _ A21.out).mono ?_); rintro e w40 ⟨rfl, hb⟩; refine ⟨_, rfl, ?_⟩; have n0_ := Aside0.mk (blk_below (g := gb182) (o := .cells #[.string t176, .string t177, .string t178, .bool t179] 24 (0, 0)) (by (with_reducible repeat (first | refine blk_drewN ?_ _ | refine blk_drew ?_ | refine blk_alloc ?_ _)); refine blk_put (cs := #[.string t176, .string t177, .string t178, .bool false]) ?_ 3 _ rfl; (with_reducible repeat (first | refine blk_drewN ?_ _ | refine blk_drew ?_ | refine blk_alloc ?_ _)); refine blk_put (cs := #[.string t176, .string t177, .string (⟨#[]⟩ : ByteArray), .bool false]) ?_ 2 _ rfl; (with_reducible repeat (first | refine blk_drewN ?_ _ | refine blk_drew ?_ | refine blk_alloc ?_ _)); refine blk_put (cs := #[.string t176, .string (⟨#[]⟩ : ByteArray), .string (⟨#[]⟩ : ByteArray), .bool false]) ?_ 1 _ rfl; (with_reducible repeat (first | refine blk_drewN ?_ _ | refine blk_drew ?_ | refine blk_alloc ?_ _)); refine blk_put (cs := #[.string (⟨#[]⟩ : ByteArray), .string (⟨#[]⟩ : ByteArray), .string (⟨#[]⟩ : ByteArray), .bool false]) ?_ 0 _ rfl; (with_reducible repeat (first | refine blk_drewN ?_ _ | refine blk_drew ?_ | refine blk_alloc ?_ _)); exact BK182.out) hb); have n1_ := Aside0.mk (below_step (by repeat (first | (with_reducible first | exact HB.out | apply below_alloc | apply pw_below_drewN | apply below_drew1 | refine below_set ?_ GE182.out) | exact HB.out)) hb); clear BK182; clear HB; have BK182 := n0_; have HB := n1_; clear n0_ n1_; (try clear hb); (try clear hb2); (try clear hk); (try clear hi)) | ((with_reducible refine gate_callee (f := 10) rfl ?_); refine goesL_ (some 54) rfl rfl Tryd.func10 (by kernel_rfl) rfl #[.string (t175 ++ t183)] rfl (by (try simp only [List.map_toArray, List.map_cons, List.map_nil]); first | done | rfl | (simp only [List.length_drop, List.length_take]; rfl)) ?_; (with_reducible refine (http_Read.calls kj4 (t175 ++ t183) t184 t185 t186 t187 t188 t189 _ ?side1 A23.out).mono ?_); (case side1 => first | exact HT.out | exact tabs_below HT.out (by repeat (first | (with_reducible first | exact HB.out | apply below_alloc | apply pw_below_drewN | apply below_drew1 | refine below_set ?_ GE182.out) | exact HB.out))); rintro e w41 ⟨rfl, hb⟩; refine ⟨_, rfl, ?_⟩; have n0_ := Aside0.mk (blk_below (g := gb182) (o := .cells #[.string t176, .string t177, .string t178, .bool t179] 24 (0, 0)) (by (with_reducible repeat (first | refine blk_drewN ?_ _ | refine blk_drew ?_ | refine blk_alloc ?_ _)); exact BK182.out) hb); have n1_ := Aside0.mk (below_step (by repeat (first | (with_reducible first | exact HB.out | apply below_alloc | apply pw_below_drewN | apply below_drew1 | refine below_set ?_ GE182.out) | exact HB.out)) hb); clear BK182; clear HB; have BK182 := n0_; have HB := n1_; clear n0_ n1_; (try clear hb); (try clear hb2); (try clear hk); (try clear hi)) | ((with_reducible refine gate_dst (N := 14) rfl ?_); (try (refine gate_guard (by rfl) ?_; dsimp only)); refine box_event ?hg (N := 14) ?hd (cs := #[.string (⟨#[]⟩ : ByteArray), .string (⟨#[]⟩ : ByteArray), .string (⟨#[]⟩ : ByteArray), .bool false]) (t := 24) ?hr ?_; (case hd => rfl); (case hg => rfl); (case hr => first | (go_simp; done) | (go_simp; rfl)); intro gb190 hg w42 hbox hb; have n0_ := Aside0.mk (blk_below (g := gb182) (o := .cells #[.string t176, .string t177, .string t178, .bool t179] 24 (0, 0)) (by (with_reducible repeat (first | refine blk_drewN ?_ _ | refine blk_drew ?_ | refine blk_alloc ?_ _)); exact BK182.out) hb); have n1_ := Aside0.mk (below_step (by repeat (first | (with_reducible first | exact HB.out | apply below_alloc | apply pw_below_drewN | apply below_drew1 | refine below_set ?_ GE182.out) | exact HB.out)) hb); have n2_ := Aside0.mk (hbox); have n3_ := Aside0.mk ((by rw [hg]; exact (below_size (by repeat (first | (with_reducible first | exact HB.out | apply below_alloc | apply pw_below_drewN | apply below_drew1 | refine below_set ?_ GE182.out) | exact HB.out))) : w.heap.size ≤ gb190)); have n4_ := Aside0.mk ((by rw [hg]; exact (below_size (by repeat (first | (with_reducible first | exact HB.out | apply below_alloc | apply pw_below_drewN | apply below_drew1 | refine below_set ?_ GE182.out) | exact HB.out))) : w.heap.size ≤ gb190)); have n5_ := Aside0.mk ((by rw [hg]; exact Nat.ne_of_lt (blk_lt (g := gb182) (o := .cells #[.string t176, .string t177, .string t178, .bool t179] 24 (0, 0)) (by (with_reducible repeat (first | refine blk_drewN ?_ _ | refine blk_drew ?_ | refine blk_alloc ?_ _)); exact BK182.out)) : gb182 ≠ gb190)); have n6_ := Aside0.mk ((by rw [hg]; exact Nat.ne_of_gt (blk_lt (g := gb182) (o := .cells #[.string t176, .string t177, .string t178, .bool t179] 24 (0, 0)) (by (with_reducible repeat (first | refine blk_drewN ?_ _ | refine blk_drew ?_ | refine blk_alloc ?_ _)); exact BK182.out)) : gb190 ≠ gb182)); clear BK182; clear HB; have BK182 := n0_; have HB := n1_; have BK190 := n2_; have GW190 := n3_; have GE190 := n4_; have NB182_190 := n5_; have NB190_182 := n6_; clear n0_ n1_ n2_ n3_ n4_ n5_ n6_; clear hb hbox hg; have hnb43 := NB190_182.out; have hnc43 := NB182_190.out; have hcz44_0 : w42.cell? ⟨gb190, 0, none⟩ = some (.string (⟨#[]⟩ : ByteArray)) := (blk_cell BK190.out 0).trans rfl; have hcz44_1 : w42.cell? ⟨gb190, 1, none⟩ = some (.string (⟨#[]⟩ : ByteArray)) := (blk_cell BK190.out 1).trans rfl; have hcz44_2 : w42.cell? ⟨gb190, 2, none⟩ = some (.string (⟨#[]⟩ : ByteArray)) := (blk_cell BK190.out 2).trans rfl; have hcz44_3 : w42.cell? ⟨gb190, 3, none⟩ = some (.bool false) := (blk_cell BK190.out 3).trans rfl; have hfz44_0 := blk_frozen BK190.out 0; have hfz44_1 := blk_frozen BK190.out 1; have hfz44_2 := blk_frozen BK190.out 2; have hfz44_3 := blk_frozen BK190.out 3) | ((with_reducible refine gate_callee (f := 12) rfl ?_); refine goesL_ (some 60) rfl rfl Tryd.func12 (by kernel_rfl) rfl #[.string a1, .bool false] rfl (by (try simp only [List.map_toArray, List.map_cons, List.map_nil]); first | done | rfl | (simp only [List.length_drop, List.length_take]; rfl)) ?_; (with_reducible refine (fascinelaw12_request.calls kj4 a1 false t191 _ A24.out).mono ?_); rintro e w45 ⟨rfl, hb⟩; refine ⟨_, rfl, ?_⟩; have n0_ := Aside0.mk (blk_below (g := gb182) (o := .cells #[.string t176, .string t177, .string t178, .bool t179] 24 (0, 0)) (by (with_reducible repeat (first | refine blk_drewN ?_ _ | refine blk_drew ?_ | refine blk_alloc ?_ _)); refine blk_far ?_ NB182_190.out _; (with_reducible repeat (first | refine blk_drewN ?_ _ | refine blk_drew ?_ | refine blk_alloc ?_ _)); refine blk_far ?_ NB182_190.out _; (with_reducible repeat (first | refine blk_drewN ?_ _ | refine blk_drew ?_ | refine blk_alloc ?_ _)); refine blk_far ?_ NB182_190.out _; (with_reducible repeat (first | refine blk_drewN ?_ _ | refine blk_drew ?_ | refine blk_alloc ?_ _)); refine blk_far ?_ NB182_190.out _; (with_reducible repeat (first | refine blk_drewN ?_ _ | refine blk_drew ?_ | refine blk_alloc ?_ _)); exact BK182.out) hb); have n1_ := Aside0.mk (blk_below (g := gb190) (o := .cells #[.string t184, .string t185, .string t186, .bool t187] 24 (0, 0)) (by (with_reducible repeat (first | refine blk_drewN ?_ _ | refine blk_drew ?_ | refine blk_alloc ?_ _)); refine blk_put (cs := #[.string t184, .string t185, .string t186, .bool false]) ?_ 3 _ rfl; (with_reducible repeat (first | refine blk_drewN ?_ _ | refine blk_drew ?_ | refine blk_alloc ?_ _)); refine blk_put (cs := #[.string t184, .string t185, .string (⟨#[]⟩ : ByteArray), .bool false]) ?_ 2 _ rfl; (with_reducible repeat (first | refine blk_drewN ?_ _ | refine blk_drew ?_ | refine blk_alloc ?_ _)); refine blk_put (cs := #[.string t184, .string (⟨#[]⟩ : ByteArray), .string (⟨#[]⟩ : ByteArray), .bool false]) ?_ 1 _ rfl; (with_reducible repeat (first | refine blk_drewN ?_ _ | refine blk_drew ?_ | refine blk_alloc ?_ _)); refine blk_put (cs := #[.string (⟨#[]⟩ : ByteArray), .string (⟨#[]⟩ : ByteArray), .string (⟨#[]⟩ : ByteArray), .bool false]) ?_ 0 _ rfl; (with_reducible repeat (first | refine blk_drewN ?_ _ | refine blk_drew ?_ | refine blk_alloc ?_ _)); exact BK190.out) hb); have n2_ := Aside0.mk (below_step (by repeat (first | (with_reducible first | exact HB.out | apply below_alloc | apply pw_below_drewN | apply below_drew1 | refine below_set ?_ GE182.out | refine below_set ?_ GE190.out) | exact HB.out)) hb); clear BK182; clear BK190; clear HB; have BK182 := n0_; have BK190 := n1_; have HB := n2_; clear n0_ n1_ n2_; (try clear hb); (try clear hb2); (try clear hk); (try clear hi)) | ((with_reducible refine gate_callee (f := 10) rfl ?_); refine goesL_ (some 61) rfl rfl Tryd.func10 (by kernel_rfl) rfl #[.string t191] rfl (by (try simp only [List.map_toArray, List.map_cons, List.map_nil]); first | done | rfl | (simp only [List.length_drop, List.length_take]; rfl)) ?_; (with_reducible refine (http_Read.calls kj4 t191 t192 t193 t194 t195 t196 t197 _ ?side1 A25.out).mono ?_); (case side1 => first | exact HT.out | exact tabs_below HT.out (by repeat (first | (with_reducible first | exact HB.out | apply below_alloc | apply pw_below_drewN | apply below_drew1 | refine below_set ?_ GE182.out | refine below_set ?_ GE190.out) | exact HB.out))); rintro e w46 ⟨rfl, hb⟩; refine ⟨_, rfl, ?_⟩; have n0_ := Aside0.mk (blk_below (g := gb182) (o := .cells #[.string t176, .string t177, .string t178, .bool t179] 24 (0, 0)) (by (with_reducible repeat (first | refine blk_drewN ?_ _ | refine blk_drew ?_ | refine blk_alloc ?_ _)); exact BK182.out) hb); have n1_ := Aside0.mk (blk_below (g := gb190) (o := .cells #[.string t184, .string t185, .string t186, .bool t187] 24 (0, 0)) (by (with_reducible repeat (first | refine blk_drewN ?_ _ | refine blk_drew ?_ | refine blk_alloc ?_ _)); exact BK190.out) hb); have n2_ := Aside0.mk (below_step (by repeat (first | (with_reducible first | exact HB.out | apply below_alloc | apply pw_below_drewN | apply below_drew1 | refine below_set ?_ GE182.out | refine below_set ?_ GE190.out) | exact HB.out)) hb); clear BK182; clear BK190; clear HB; have BK182 := n0_; have BK190 := n1_; have HB := n2_; clear n0_ n1_ n2_; (try clear hb); (try clear hb2); (try clear hk); (try clear hi)) | ((with_reducible refine gate_dst (N := 17) rfl ?_); (try (refine gate_guard (by rfl) ?_; dsimp only)); refine box_event ?hg (N := 17) ?hd (cs := #[.string (⟨#[]⟩ : ByteArray), .string (⟨#[]⟩ : ByteArray), .string (⟨#[]⟩ : ByteArray), .bool false]) (t := 24) ?hr ?_; (case hd => rfl); (case hg => rfl); (case hr => first | (go_simp; done) | (go_simp; rfl)); intro gb198 hg w47 hbox hb; have n0_ := Aside0.mk (blk_below (g := gb182) (o := .cells #[.string t176, .string t177, .string t178, .bool t179] 24 (0, 0)) (by (with_reducible repeat (first | refine blk_drewN ?_ _ | refine blk_drew ?_ | refine blk_alloc ?_ _)); exact BK182.out) hb); have n1_ := Aside0.mk (blk_below (g := gb190) (o := .cells #[.string t184, .string t185, .string t186, .bool t187] 24 (0, 0)) (by (with_reducible repeat (first | refine blk_drewN ?_ _ | refine blk_drew ?_ | refine blk_alloc ?_ _)); exact BK190.out) hb); have n2_ := Aside0.mk (below_step (by repeat (first | (with_reducible first | exact HB.out | apply below_alloc | apply pw_below_drewN | apply below_drew1 | refine below_set ?_ GE182.out | refine below_set ?_ GE190.out) | exact HB.out)) hb); have n3_ := Aside0.mk (hbox); have n4_ := Aside0.mk ((by rw [hg]; exact (below_size (by repeat (first | (with_reducible first | exact HB.out | apply below_alloc | apply pw_below_drewN | apply below_drew1 | refine below_set ?_ GE182.out | refine below_set ?_ GE190.out) | exact HB.out))) : w.heap.size ≤ gb198)); have n5_ := Aside0.mk ((by rw [hg]; exact (below_size (by repeat (first | (with_reducible first | exact HB.out | apply below_alloc | apply pw_below_drewN | apply below_drew1 | refine below_set ?_ GE182.out | refine below_set ?_ GE190.out) | exact HB.out))) : w.heap.size ≤ gb198)); have n6_ := Aside0.mk ((by rw [hg]; exact Nat.ne_of_lt (blk_lt (g := gb182) (o := .cells #[.string t176, .string t177, .string t178, .bool t179] 24 (0, 0)) (by (with_reducible repeat (first | refine blk_drewN ?_ _ | refine blk_drew ?_ | refine blk_alloc ?_ _)); exact BK182.out)) : gb182 ≠ gb198)); have n7_ := Aside0.mk ((by rw [hg]; exact Nat.ne_of_gt (blk_lt (g := gb182) (o := .cells #[.string t176, .string t177, .string t178, .bool t179] 24 (0, 0)) (by (with_reducible repeat (first | refine blk_drewN ?_ _ | refine blk_drew ?_ | refine blk_alloc ?_ _)); exact BK182.out)) : gb198 ≠ gb182)); have n8_ := Aside0.mk ((by rw [hg]; exact Nat.ne_of_lt (blk_lt (g := gb190) (o := .cells #[.string t184, .string t185, .string t186, .bool t187] 24 (0, 0)) (by (with_reducible repeat (first | refine blk_drewN ?_ _ | refine blk_drew ?_ | refine blk_alloc ?_ _)); exact BK190.out)) : gb190 ≠ gb198)); have n9_ := Aside0.mk ((by rw [hg]; exact Nat.ne_of_gt (blk_lt (g := gb190) (o := .cells #[.string t184, .string t185, .string t186, .bool t187] 24 (0, 0)) (by (with_reducible repeat (first | refine blk_drewN ?_ _ | refine blk_drew ?_ | refine blk_alloc ?_ _)); exact BK190.out)) : gb198 ≠ gb190)); clear BK182; clear BK190; clear HB; have BK182 := n0_; have BK190 := n1_; have HB := n2_; have BK198 := n3_; have GW198 := n4_; have GE198 := n5_; have NB182_198 := n6_; have NB198_182 := n7_; have NB190_198 := n8_; have NB198_190 := n9_; clear n0_ n1_ n2_ n3_ n4_ n5_ n6_ n7_ n8_ n9_; clear hb hbox hg; have hnb48 := NB198_182.out; have hnc48 := NB182_198.out; have hnb49 := NB198_190.out; have hnc49 := NB190_198.out; have hcz50_0 : w47.cell? ⟨gb198, 0, none⟩ = some (.string (⟨#[]⟩ : ByteArray)) := (blk_cell BK198.out 0).trans rfl; have hcz50_1 : w47.cell? ⟨gb198, 1, none⟩ = some (.string (⟨#[]⟩ : ByteArray)) := (blk_cell BK198.out 1).trans rfl; have hcz50_2 : w47.cell? ⟨gb198, 2, none⟩ = some (.string (⟨#[]⟩ : ByteArray)) := (blk_cell BK198.out 2).trans rfl; have hcz50_3 : w47.cell? ⟨gb198, 3, none⟩ = some (.bool false) := (blk_cell BK198.out 3).trans rfl; have hfz50_0 := blk_frozen BK198.out 0; have hfz50_1 := blk_frozen BK198.out 1; have hfz50_2 := blk_frozen BK198.out 2; have hfz50_3 := blk_frozen BK198.out 3; have hcz51_0 : w47.cell? ⟨gb190, 0, none⟩ = some (.string t184) := (blk_cell BK190.out 0).trans rfl; have hcz51_1 : w47.cell? ⟨gb190, 1, none⟩ = some (.string t185) := (blk_cell BK190.out 1).trans rfl; have hcz51_2 : w47.cell? ⟨gb190, 2, none⟩ = some (.string t186) := (blk_cell BK190.out 2).trans rfl; have hcz51_3 : w47.cell? ⟨gb190, 3, none⟩ = some (.bool t187) := (blk_cell BK190.out 3).trans rfl; have hfz51_0 := blk_frozen BK190.out 0; have hfz51_1 := blk_frozen BK190.out 1; have hfz51_2 := blk_frozen BK190.out 2; have hfz51_3 := blk_frozen BK190.out 3) | (go_at_call 12; (with_reducible refine (fascinelaw12_request.calls kj4 a1 false t199 _ A34.out).mono ?_); rintro e w52 ⟨rfl, hb⟩; have n0_ := Aside0.mk (blk_below (g := gb182) (o := .cells #[.string t176, .string t177, .string t178, .bool t179] 24 (0, 0)) (by (with_reducible repeat (first | refine blk_drewN ?_ _ | refine blk_drew ?_ | refine blk_alloc ?_ _)); refine blk_far ?_ NB182_198.out _; (with_reducible repeat (first | refine blk_drewN ?_ _ | refine blk_drew ?_ | refine blk_alloc ?_ _)); refine blk_far ?_ NB182_198.out _; (with_reducible repeat (first | refine blk_drewN ?_ _ | refine blk_drew ?_ | refine blk_alloc ?_ _)); refine blk_far ?_ NB182_198.out _; (with_reducible repeat (first | refine blk_drewN ?_ _ | refine blk_drew ?_ | refine blk_alloc ?_ _)); refine blk_far ?_ NB182_198.out _; (with_reducible repeat (first | refine blk_drewN ?_ _ | refine blk_drew ?_ | refine blk_alloc ?_ _)); exact BK182.out) hb); have n1_ := Aside0.mk (blk_below (g := gb190) (o := .cells #[.string t184, .string t185, .string t186, .bool t187] 24 (0, 0)) (by (with_reducible repeat (first | refine blk_drewN ?_ _ | refine blk_drew ?_ | refine blk_alloc ?_ _)); refine blk_far ?_ NB190_198.out _; (with_reducible repeat (first | refine blk_drewN ?_ _ | refine blk_drew ?_ | refine blk_alloc ?_ _)); refine blk_far ?_ NB190_198.out _; (with_reducible repeat (first | refine blk_drewN ?_ _ | refine blk_drew ?_ | refine blk_alloc ?_ _)); refine blk_far ?_ NB190_198.out _; (with_reducible repeat (first | refine blk_drewN ?_ _ | refine blk_drew ?_ | refine blk_alloc ?_ _)); refine blk_far ?_ NB190_198.out _; (with_reducible repeat (first | refine blk_drewN ?_ _ | refine blk_drew ?_ | refine blk_alloc ?_ _)); exact BK190.out) hb); have n2_ := Aside0.mk (blk_below (g := gb198) (o := .cells #[.string t192, .string t193, .string t194, .bool t195] 24 (0, 0)) (by (with_reducible repeat (first | refine blk_drewN ?_ _ | refine blk_drew ?_ | refine blk_alloc ?_ _)); refine blk_put (cs := #[.string t192, .string t193, .string t194, .bool false]) ?_ 3 _ rfl; (with_reducible repeat (first | refine blk_drewN ?_ _ | refine blk_drew ?_ | refine blk_alloc ?_ _)); refine blk_put (cs := #[.string t192, .string t193, .string (⟨#[]⟩ : ByteArray), .bool false]) ?_ 2 _ rfl; (with_reducible repeat (first | refine blk_drewN ?_ _ | refine blk_drew ?_ | refine blk_alloc ?_ _)); refine blk_put (cs := #[.string t192, .string (⟨#[]⟩ : ByteArray), .string (⟨#[]⟩ : ByteArray), .bool false]) ?_ 1 _ rfl; (with_reducible repeat (first | refine blk_drewN ?_ _ | refine blk_drew ?_ | refine blk_alloc ?_ _)); refine blk_put (cs := #[.string (⟨#[]⟩ : ByteArray), .string (⟨#[]⟩ : ByteArray), .string (⟨#[]⟩ : ByteArray), .bool false]) ?_ 0 _ rfl; (with_reducible repeat (first | refine blk_drewN ?_ _ | refine blk_drew ?_ | refine blk_alloc ?_ _)); exact BK198.out) hb); have n3_ := Aside0.mk (below_step (by repeat (first | (with_reducible first | exact HB.out | apply below_alloc | apply pw_below_drewN | apply below_drew1 | refine below_set ?_ GE182.out | refine below_set ?_ GE190.out | refine below_set ?_ GE198.out) | exact HB.out)) hb); clear BK182; clear BK190; clear BK198; clear HB; have BK182 := n0_; have BK190 := n1_; have BK198 := n2_; have HB := n3_; clear n0_ n1_ n2_ n3_; (try clear hb); (try clear hb2); (try clear hk); (try clear hi); have hcz53_0 : w52.cell? ⟨gb198, 0, none⟩ = some (.string t192) := (blk_cell BK198.out 0).trans rfl; have hcz53_1 : w52.cell? ⟨gb198, 1, none⟩ = some (.string t193) := (blk_cell BK198.out 1).trans rfl; have hcz53_2 : w52.cell? ⟨gb198, 2, none⟩ = some (.string t194) := (blk_cell BK198.out 2).trans rfl; have hcz53_3 : w52.cell? ⟨gb198, 3, none⟩ = some (.bool t195) := (blk_cell BK198.out 3).trans rfl; have hfz53_0 := blk_frozen BK198.out 0; have hfz53_1 := blk_frozen BK198.out 1; have hfz53_2 := blk_frozen BK198.out 2; have hfz53_3 := blk_frozen BK198.out 3))
                                  go_ret
                                  exact ⟨by first | rfl | (simp [errW_none, errW_some] <;> rfl) | (simp only [← hji17]; first | rfl | (simp [errW_none, errW_some] <;> rfl)) | (simp [*, errW_none, errW_some] <;> rfl), by repeat (first | (with_reducible first | exact HB.out | apply below_alloc | apply pw_below_drewN | apply below_drew1 | refine below_set ?_ GE182.out | refine below_set ?_ GE190.out | refine below_set ?_ GE198.out) | exact HB.out)⟩
                                · rw [if_neg c35] at H
                                  have c35b0 : (t196 == (t199.size : Int)) = false := beq_eq_false_iff_ne.mpr c35
                                  have c35b1 : (t196 != (t199.size : Int)) = true := bne_iff_ne.mpr c35
                                  exact absurd (HR_.out.symm.trans (Option.some.inj H).symm) (by decide)
                              · rw [if_neg c33] at H
                                have c33b0 : (t197 == 0) = false := beq_eq_false_iff_ne.mpr c33
                                have c33b1 : (t197 != 0) = true := bne_iff_ne.mpr c33
                                exact absurd (HR_.out.symm.trans (Option.some.inj H).symm) (by decide)
                            · rw [if_neg c32] at H
                              have c32b0 : (t185.toList == ([47, 100, 111, 99, 115] : List UInt8)) = false := beq_eq_false_iff_ne.mpr c32
                              have c32b1 : (t185.toList != ([47, 100, 111, 99, 115] : List UInt8)) = true := bne_iff_ne.mpr c32
                              exact absurd (HR_.out.symm.trans (Option.some.inj H).symm) (by decide)
                          · rw [if_neg c31] at H
                            have c31b0 : (t187 == a2) = false := (by first | exact Bool.eq_false_iff.mpr c31 | simpa using c31)
                            (try (have c31b1 : decide (t187 = a2) = false := by simpa using c31))
                            (try (have c31b2 : (t187 == a2) = false := by simpa using c31))
                            (try (have c31b3 : ¬ (t187 = a2) := by simpa using c31))
                            clear c31
                            exact absurd (HR_.out.symm.trans (Option.some.inj H).symm) (by decide)
                        · rw [if_neg c30] at H
                          have c30b0 : (t186.toList == a0.toList) = false := beq_eq_false_iff_ne.mpr c30
                          have c30b1 : (t186.toList != a0.toList) = true := bne_iff_ne.mpr c30
                          exact absurd (HR_.out.symm.trans (Option.some.inj H).symm) (by decide)
                      · rw [if_neg c29] at H
                        have c29b0 : (t188 == (t175.size : Int)) = false := beq_eq_false_iff_ne.mpr c29
                        have c29b1 : (t188 != (t175.size : Int)) = true := bne_iff_ne.mpr c29
                        exact absurd (HR_.out.symm.trans (Option.some.inj H).symm) (by decide)
                    · rw [if_neg c28] at H
                      have c28b0 : (t189 == 0) = false := beq_eq_false_iff_ne.mpr c28
                      have c28b1 : (t189 != 0) = true := bne_iff_ne.mpr c28
                      exact absurd (HR_.out.symm.trans (Option.some.inj H).symm) (by decide)
                  · rw [if_neg c27] at H
                    have c27b0 : (t181 == 0) = false := beq_eq_false_iff_ne.mpr c27
                    have c27b1 : (t181 != 0) = true := bne_iff_ne.mpr c27
                    exact absurd (HR_.out.symm.trans (Option.some.inj H).symm) (by decide)
                · rw [if_neg c26] at H
                  have c26b0 : (t180 == 0) = false := beq_eq_false_iff_ne.mpr c26
                  have c26b1 : (t180 != 0) = true := bne_iff_ne.mpr c26
                  exact absurd (HR_.out.symm.trans (Option.some.inj H).symm) (by decide)
              · rw [if_neg c22] at H
                exact absurd H (by simp)
            · rw [if_neg c19] at H
              exact absurd H (by simp)
          · rw [if_neg c18] at H
            exact absurd H (by simp)

/-- THE ONE PURE STATEMENT of fascinelaw12_HttpPieces: yours. -/
def fascinelaw12_HttpPieces.Pure : Prop := ∀ (a0 : ByteArray) (a1 : ByteArray) (a2 : Bool) (a3 : Int), a0.size ≤ 140737488351232 → a1.size ≤ 140737488351232 → (Lit.int .u16 a3).wf = true → ∃ k, fascinelaw12_HttpPieces.f k a0 a1 a2 a3 = some true
theorem fascinelaw12_HttpPieces.walk (P : fascinelaw12_HttpPieces.Pure) (a0 : ByteArray) (a1 : ByteArray) (a2 : Bool) (a3 : Int) (w : World) (hT : tabs w) (w0 : a0.size ≤ 140737488351232) (w1 : a1.size ≤ 140737488351232) (w3 : (Lit.int .u16 a3).wf = true) :
    Calls Tryd.prog 4 #[.string a0, .string a1, .bool a2, .int .u16 a3] w fun e w' => e = .returned (.bool true) ∧ Below w.heap.size w w' := by
  obtain ⟨k, h⟩ := P a0 a1 a2 a3 w0 w1 w3
  refine (fascinelaw12_HttpPieces.calls k a0 a1 a2 a3 true w hT h rfl).mono ?_
  rintro e w' ⟨rfl, hd⟩
  exact ⟨rfl, hd⟩

end Go.Proofs.YtpigloohccpfiaaDoor.PHttpPieces
