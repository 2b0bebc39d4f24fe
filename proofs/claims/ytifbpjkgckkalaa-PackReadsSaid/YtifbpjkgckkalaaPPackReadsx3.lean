-- WRITTEN BY A PROGRAM OF THIS SESSION (wip/patch_print.py: the kit's printer with rules of this session's own); Lean checks it.
import Derived.Test.YtifbpjkgckkalaaPPackReadsx0
import Derived.Test.YtifbpjkgckkalaaPPackReadsx1
import Derived.Test.YtifbpjkgckkalaaPPackReadsx2
namespace Go.Proofs.Ytifbpjkgckkalaa.PPackReads
open Go.RowKit Go.Proofs.YtifbpjkgckkalaaW.PrintWords Go.Proofs.YtifbpjkgckkalaaW.PrintLast Go.Proofs.YtifbpjkgckkalaaW.PrintMore
attribute [local go_sem] max2_int min2_int max_two min_two max_three min_three max_four min_four   -- for this text's walks alone
set_option linter.unusedVariables false
set_option linter.unusedSimpArgs false

/-! ### fascinelaw01_PackReads: function 6 -/
def fascinelaw01_PackReads.f (k : Nat) (l0 : List Int) (a1 : Int) (a2 : Int) : Option (Bool) := (fascinelaw01_awake.f k).bind fun t137 => (if t137 = true then ((pack_ReadUvarint.f k l0 a1).bind fun bt138 => ((fascineref01_ReadUvarint.f k l0 a1).bind fun bt141 => ((pack_ReadText.f k l0 a1 a2).bind fun bt144 => ((fascineref01_ReadText.f k l0 a1 a2).bind fun bt147 => (if bt138.1 = bt141.1 then (if bt138.2.1 = bt141.2.1 then (if bt138.2.2 = bt141.2.2 then (if bt144.1.toList = bt147.1.toList then (if bt144.2.1 = bt147.2.1 then (some (bt144.2.2 == bt147.2.2)) else (some false)) else (some false)) else (some false)) else (some false)) else (some false)))))) else (some false))
theorem fascinelaw01_PackReads.mono : ∀ a0 a1 a2 k, LeO (fascinelaw01_PackReads.f k a0 a1 a2) (fascinelaw01_PackReads.f (k + 1) a0 a1 a2) := by
  intro a0 a1 a2 k
  unfold fascinelaw01_PackReads.f
  repeat' first
      | (with_reducible exact fascinelaw01_awake.mono _)
      | (with_reducible exact fascineref01_ReadText.mono _ _ _ _)
      | (with_reducible exact fascineref01_ReadUvarint.mono _ _ _)
      | (with_reducible exact pack_ReadText.mono _ _ _ _)
      | (with_reducible exact pack_ReadUvarint.mono _ _ _)
      | (with_reducible exact LeO.refl _)
      | (with_reducible exact LeO.none _)
      | (with_reducible refine LeO.ite ?_ ?_)
      | (with_reducible refine LeO.bind ?_ (fun _ => ?_))
      | exact fascinelaw01_awake.mono _
      | exact fascineref01_ReadText.mono _ _ _ _
      | exact fascineref01_ReadUvarint.mono _ _ _
      | exact pack_ReadText.mono _ _ _ _
      | exact pack_ReadUvarint.mono _ _ _
      | exact LeO.none _
      | refine LeO.ite ?_ ?_
      | refine LeO.bind ?_ (fun _ => ?_)
set_option maxHeartbeats 8000000 in
set_option maxRecDepth 100000 in
theorem fascinelaw01_PackReads.calls (k : Nat) (A0 : Option Addr) (c0 : Nat) (l0 : List Int) (a1 : Int) (a2 : Int) (r : Bool) (w : World) (hr0 : Kd.C (Kd.int .u8) w A0 l0.length l0) (hc0 : l0.length ≤ c0) (h : fascinelaw01_PackReads.f k l0 a1 a2 = some r) (hr_ : r = true) :
    Calls Try.prog 6 #[.slice A0 l0.length c0, .int .i64 a1, .int .i64 a2] w fun e w' => e = .returned (.bool r) ∧ Below w.heap.size w w' := by
  have HR_ := Aside0.mk hr_
  clear hr_
  have HR0 := Aside0.mk hr0
  have HC0 := Aside0.mk hc0
  clear hr0 hc0
  have HB := Aside0.mk (Below.refl w.heap.size w)
  have H : ((fascinelaw01_awake.f k).bind fun t137 => (if t137 = true then ((pack_ReadUvarint.f k l0 a1).bind fun bt138 => ((fascineref01_ReadUvarint.f k l0 a1).bind fun bt141 => ((pack_ReadText.f k l0 a1 a2).bind fun bt144 => ((fascineref01_ReadText.f k l0 a1 a2).bind fun bt147 => (if bt138.1 = bt141.1 then (if bt138.2.1 = bt141.2.1 then (if bt138.2.2 = bt141.2.2 then (if bt144.1.toList = bt147.1.toList then (if bt144.2.1 = bt147.2.1 then (some (bt144.2.2 == bt147.2.2)) else (some false)) else (some false)) else (some false)) else (some false)) else (some false)))))) else (some false))) = some r := h
  clear h
  replace H := Option.bind_eq_some_iff.mp H
  obtain ⟨t137, A40, H⟩ := H
  replace H : (if t137 = true then ((pack_ReadUvarint.f k l0 a1).bind fun bt138 => ((fascineref01_ReadUvarint.f k l0 a1).bind fun bt141 => ((pack_ReadText.f k l0 a1 a2).bind fun bt144 => ((fascineref01_ReadText.f k l0 a1 a2).bind fun bt147 => (if bt138.1 = bt141.1 then (if bt138.2.1 = bt141.2.1 then (if bt138.2.2 = bt141.2.2 then (if bt144.1.toList = bt147.1.toList then (if bt144.2.1 = bt147.2.1 then (some (bt144.2.2 == bt147.2.2)) else (some false)) else (some false)) else (some false)) else (some false)) else (some false)))))) else (some false)) = some r := H
  have A4 := Aside0.mk A40
  clear A40
  by_cases c5 : t137 = true
  · subst c5
    have H1 : ((pack_ReadUvarint.f k l0 a1).bind fun bt138 => ((fascineref01_ReadUvarint.f k l0 a1).bind fun bt141 => ((pack_ReadText.f k l0 a1 a2).bind fun bt144 => ((fascineref01_ReadText.f k l0 a1 a2).bind fun bt147 => (if bt138.1 = bt141.1 then (if bt138.2.1 = bt141.2.1 then (if bt138.2.2 = bt141.2.2 then (if bt144.1.toList = bt147.1.toList then (if bt144.2.1 = bt147.2.1 then (some (bt144.2.2 == bt147.2.2)) else (some false)) else (some false)) else (some false)) else (some false)) else (some false)))))) = some r := by rw [if_pos rfl] at H; exact H
    clear H
    have H := H1
    clear H1
    replace H := Option.bind_eq_some_iff.mp H
    obtain ⟨⟨t138, t139, t140⟩, A60, H⟩ := H
    replace H : ((fascineref01_ReadUvarint.f k l0 a1).bind fun bt141 => ((pack_ReadText.f k l0 a1 a2).bind fun bt144 => ((fascineref01_ReadText.f k l0 a1 a2).bind fun bt147 => (if t138 = bt141.1 then (if t139 = bt141.2.1 then (if t140 = bt141.2.2 then (if bt144.1.toList = bt147.1.toList then (if bt144.2.1 = bt147.2.1 then (some (bt144.2.2 == bt147.2.2)) else (some false)) else (some false)) else (some false)) else (some false)) else (some false))))) = some r := H
    have A6 := Aside0.mk A60
    clear A60
    replace H := Option.bind_eq_some_iff.mp H
    obtain ⟨⟨t141, t142, t143⟩, A70, H⟩ := H
    replace H : ((pack_ReadText.f k l0 a1 a2).bind fun bt144 => ((fascineref01_ReadText.f k l0 a1 a2).bind fun bt147 => (if t138 = t141 then (if t139 = t142 then (if t140 = t143 then (if bt144.1.toList = bt147.1.toList then (if bt144.2.1 = bt147.2.1 then (some (bt144.2.2 == bt147.2.2)) else (some false)) else (some false)) else (some false)) else (some false)) else (some false)))) = some r := H
    have A7 := Aside0.mk A70
    clear A70
    replace H := Option.bind_eq_some_iff.mp H
    obtain ⟨⟨t144, t145, t146⟩, A80, H⟩ := H
    replace H : ((fascineref01_ReadText.f k l0 a1 a2).bind fun bt147 => (if t138 = t141 then (if t139 = t142 then (if t140 = t143 then (if t144.toList = bt147.1.toList then (if t145 = bt147.2.1 then (some (t146 == bt147.2.2)) else (some false)) else (some false)) else (some false)) else (some false)) else (some false))) = some r := H
    have A8 := Aside0.mk A80
    clear A80
    replace H := Option.bind_eq_some_iff.mp H
    obtain ⟨⟨t147, t148, t149⟩, A90, H⟩ := H
    replace H : (if t138 = t141 then (if t139 = t142 then (if t140 = t143 then (if t144.toList = t147.toList then (if t145 = t148 then (some (t146 == t149)) else (some false)) else (some false)) else (some false)) else (some false)) else (some false)) = some r := H
    have A9 := Aside0.mk A90
    clear A90
    by_cases c10 : t138 = t141
    · rw [if_pos c10] at H
      have c10b0 : (t138 == t141) = true := beq_iff_eq.mpr c10
      have c10b1 : (t138 != t141) = false := bne_eq_false_iff_eq.mpr c10
      clear c10
      by_cases c11 : t139 = t142
      · rw [if_pos c11] at H
        have c11b0 : (t139 == t142) = true := beq_iff_eq.mpr c11
        have c11b1 : (t139 != t142) = false := bne_eq_false_iff_eq.mpr c11
        clear c11
        by_cases c12 : t140 = t143
        · rw [if_pos c12] at H
          have c12b0 : (t140 == t143) = true := beq_iff_eq.mpr c12
          have c12b1 : (t140 != t143) = false := bne_eq_false_iff_eq.mpr c12
          clear c12
          by_cases c13 : t144.toList = t147.toList
          · rw [if_pos c13] at H
            have c13b0 : (t144.toList == t147.toList) = true := beq_iff_eq.mpr c13
            have c13b1 : (t144.toList != t147.toList) = false := bne_eq_false_iff_eq.mpr c13
            clear c13
            by_cases c14 : t145 = t148
            · rw [if_pos c14] at H
              have c14b0 : (t145 == t148) = true := beq_iff_eq.mpr c14
              have c14b1 : (t145 != t148) = false := bne_eq_false_iff_eq.mpr c14
              clear c14
              obtain rfl := Option.some.inj H
              go_enter Try.func6, Try.ntmps6
              go_wp2_with (first | ((with_reducible refine gate_callee (f := 20) rfl ?_); refine goesL_ (some 19) rfl rfl Try.func20 (by kernel_rfl) rfl #[] rfl (by (try simp only [List.map_toArray, List.map_cons, List.map_nil]); first | done | rfl | (simp only [List.length_drop, List.length_take]; rfl)) ?_; (with_reducible refine (fascinelaw01_awake.calls k  true _ A4.out).mono ?_); rintro e w15 ⟨rfl, hb⟩; refine ⟨_, rfl, ?_⟩; have n0_ := Aside0.mk (below_step (by repeat (first | (with_reducible first | exact HB.out | apply below_alloc | apply pw_below_drewN | apply below_drew1) | exact HB.out)) hb); clear HB; have HB := n0_; clear n0_; (try clear hb); (try clear hb2); (try clear hk); (try clear hi)) | ((with_reducible refine gate_callee (f := 22) rfl ?_); refine goesL_ (some 28) rfl rfl Try.func22 (by kernel_rfl) rfl #[.slice A0 l0.length c0, .int .i64 a1] rfl (by (try simp only [List.map_toArray, List.map_cons, List.map_nil]); first | done | rfl | (simp only [List.length_drop, List.length_take]; rfl)) ?_; (with_reducible refine (pack_ReadUvarint.calls k _ _ l0 a1 t138 t139 t140 _ ?side1 ?side2 A6.out).mono ?_); (case side1 => repeat (first | exact (Kd.C_below HR0.out HB.out) | (with_reducible refine Kd.C_alloc ?_ _) | (with_reducible refine Kd.C_drewN ?_ _) | (with_reducible refine Kd.C_drew ?_))); (case side2 => exact HC0.out); rintro e w' ⟨rfl, ⟨nd, rfl⟩⟩; refine ⟨_, rfl, ?_⟩) | ((with_reducible refine gate_callee (f := 29) rfl ?_); refine goesL_ (some 35) rfl rfl Try.func29 (by kernel_rfl) rfl #[.slice A0 l0.length c0, .int .i64 a1] rfl (by (try simp only [List.map_toArray, List.map_cons, List.map_nil]); first | done | rfl | (simp only [List.length_drop, List.length_take]; rfl)) ?_; (with_reducible refine (fascineref01_ReadUvarint.calls k _ _ l0 a1 t141 t142 t143 _ ?side1 ?side2 A7.out).mono ?_); (case side1 => repeat (first | exact (Kd.C_below HR0.out (by repeat (first | (with_reducible first | exact HB.out | apply below_alloc | apply pw_below_drewN | apply below_drew1) | exact HB.out))) | (with_reducible refine Kd.C_alloc ?_ _) | (with_reducible refine Kd.C_drewN ?_ _) | (with_reducible refine Kd.C_drew ?_))); (case side2 => exact HC0.out); rintro e w16 ⟨rfl, hb⟩; refine ⟨_, rfl, ?_⟩; have n0_ := Aside0.mk (below_step (by repeat (first | (with_reducible first | exact HB.out | apply below_alloc | apply pw_below_drewN | apply below_drew1) | exact HB.out)) hb); clear HB; have HB := n0_; clear n0_; (try clear hb); (try clear hb2); (try clear hk); (try clear hi)) | ((with_reducible refine gate_callee (f := 30) rfl ?_); refine goesL_ (some 43) rfl rfl Try.func30 (by kernel_rfl) rfl #[.slice A0 l0.length c0, .int .i64 a1, .int .i64 a2] rfl (by (try simp only [List.map_toArray, List.map_cons, List.map_nil]); first | done | rfl | (simp only [List.length_drop, List.length_take]; rfl)) ?_; (with_reducible refine (pack_ReadText.calls k _ _ l0 a1 a2 t144 t145 t146 _ ?side1 ?side2 A8.out).mono ?_); (case side1 => repeat (first | exact (Kd.C_below HR0.out HB.out) | (with_reducible refine Kd.C_alloc ?_ _) | (with_reducible refine Kd.C_drewN ?_ _) | (with_reducible refine Kd.C_drew ?_))); (case side2 => exact HC0.out); rintro e w' ⟨rfl, ⟨nd, rfl⟩⟩; refine ⟨_, rfl, ?_⟩) | ((with_reducible refine gate_callee (f := 31) rfl ?_); refine goesL_ (some 51) rfl rfl Try.func31 (by kernel_rfl) rfl #[.slice A0 l0.length c0, .int .i64 a1, .int .i64 a2] rfl (by (try simp only [List.map_toArray, List.map_cons, List.map_nil]); first | done | rfl | (simp only [List.length_drop, List.length_take]; rfl)) ?_; (with_reducible refine (fascineref01_ReadText.calls k _ _ l0 a1 a2 t147 t148 t149 _ ?side1 ?side2 A9.out).mono ?_); (case side1 => repeat (first | exact (Kd.C_below HR0.out (by repeat (first | (with_reducible first | exact HB.out | apply below_alloc | apply pw_below_drewN | apply below_drew1) | exact HB.out))) | (with_reducible refine Kd.C_alloc ?_ _) | (with_reducible refine Kd.C_drewN ?_ _) | (with_reducible refine Kd.C_drew ?_))); (case side2 => exact HC0.out); rintro e w17 ⟨rfl, hb⟩; refine ⟨_, rfl, ?_⟩; have n0_ := Aside0.mk (below_step (by repeat (first | (with_reducible first | exact HB.out | apply below_alloc | apply pw_below_drewN | apply below_drew1) | exact HB.out)) hb); clear HB; have HB := n0_; clear n0_; (try clear hb); (try clear hb2); (try clear hk); (try clear hi)))
              go_ret
              exact ⟨by first | rfl | (simp [errW_none, errW_some] <;> rfl) | (simp [*, errW_none, errW_some] <;> rfl), by repeat (first | (with_reducible first | exact HB.out | apply below_alloc | apply pw_below_drewN | apply below_drew1) | exact HB.out)⟩
            · rw [if_neg c14] at H
              have c14b0 : (t145 == t148) = false := beq_eq_false_iff_ne.mpr c14
              have c14b1 : (t145 != t148) = true := bne_iff_ne.mpr c14
              exact absurd (HR_.out.symm.trans (Option.some.inj H).symm) (by decide)
          · rw [if_neg c13] at H
            have c13b0 : (t144.toList == t147.toList) = false := beq_eq_false_iff_ne.mpr c13
            have c13b1 : (t144.toList != t147.toList) = true := bne_iff_ne.mpr c13
            exact absurd (HR_.out.symm.trans (Option.some.inj H).symm) (by decide)
        · rw [if_neg c12] at H
          have c12b0 : (t140 == t143) = false := beq_eq_false_iff_ne.mpr c12
          have c12b1 : (t140 != t143) = true := bne_iff_ne.mpr c12
          exact absurd (HR_.out.symm.trans (Option.some.inj H).symm) (by decide)
      · rw [if_neg c11] at H
        have c11b0 : (t139 == t142) = false := beq_eq_false_iff_ne.mpr c11
        have c11b1 : (t139 != t142) = true := bne_iff_ne.mpr c11
        exact absurd (HR_.out.symm.trans (Option.some.inj H).symm) (by decide)
    · rw [if_neg c10] at H
      have c10b0 : (t138 == t141) = false := beq_eq_false_iff_ne.mpr c10
      have c10b1 : (t138 != t141) = true := bne_iff_ne.mpr c10
      exact absurd (HR_.out.symm.trans (Option.some.inj H).symm) (by decide)
  · replace c5 := Bool.eq_false_iff.mpr c5
    subst c5
    have H1 : (some false) = some r := by rw [if_neg (show ¬ (false = true) by decide)] at H; exact H
    clear H
    have H := H1
    clear H1
    exact absurd (HR_.out.symm.trans (Option.some.inj H).symm) (by decide)

/-- THE ONE PURE STATEMENT of fascinelaw01_PackReads: yours. -/
def fascinelaw01_PackReads.Pure : Prop := ∀ (l0 : List Int) (a1 : Int) (a2 : Int), l0.length ≤ maxLen → l0.length * 1 ≤ 140737488351232 → (∀ x ∈ l0, (Lit.int .u8 x).wf = true) → (Lit.int .i64 a1).wf = true → (Lit.int .i64 a2).wf = true → ∃ k, fascinelaw01_PackReads.f k l0 a1 a2 = some true
theorem fascinelaw01_PackReads.walk (P : fascinelaw01_PackReads.Pure) (a0 : Option Addr) (len0 cap0 : Nat) (z0 : List Int) (a1 : Int) (a2 : Int) (w : World) (w0 : (a0 = none ∧ len0 = 0 ∧ cap0 = 0 ∧ z0 = []) ∨ ∃ x, a0 = some x ∧ len0 ≤ cap0 ∧ cap0 ≤ maxLen ∧ z0.length = cap0 ∧ (∀ i, i < z0.length → w.cell? (x.add i) = some (.int .u8 (z0.getD i 0))) ∧ ∀ n ∈ z0, (Lit.int .u8 n).wf = true) (y0 : len0 * 1 ≤ 140737488351232) (w1 : (Lit.int .i64 a1).wf = true) (w2 : (Lit.int .i64 a2).wf = true) :
    Calls Try.prog 6 #[.slice a0 len0 cap0, .int .i64 a1, .int .i64 a2] w fun e w' => e = .returned (.bool true) ∧ Below w.heap.size w w' := by
  obtain ⟨l0, rfl, hr0, hm0, hw0, hc0⟩ := ReadsInt.ofRowC w0
  obtain ⟨k, h⟩ := P l0 a1 a2 hm0 y0 hw0 w1 w2
  refine (fascinelaw01_PackReads.calls k _ _ l0 a1 a2 true w (Kd.C_of_reads (d := (0 : Int)) (h1 := fun _ => rfl) hr0) hc0 h rfl).mono ?_
  rintro e w' ⟨rfl, hd⟩
  exact ⟨rfl, hd⟩

end Go.Proofs.Ytifbpjkgckkalaa.PPackReads
