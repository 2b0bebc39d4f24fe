-- WRITTEN BY A PROGRAM OF THIS SESSION (wip/patch_print.py: the kit's printer with rules of this session's own); Lean checks it.
import Derived.Test.YtpigloohccpfiaaDoorPHttpAnswersx0
import Derived.Test.YtpigloohccpfiaaDoorPHttpAnswersx4
import Derived.Test.YtpigloohccpfiaaDoorPHttpAnswersx5
import Derived.Test.YtpigloohccpfiaaDoorPHttpAnswersx7
namespace Go.Proofs.YtpigloohccpfiaaDoor.PHttpAnswers
open Go.RowKit Go.Proofs.YtpigloohccpfiaaDoorW.PrintWords Go.Proofs.YtpigloohccpfiaaDoorW.PrintLast Go.Proofs.YtpigloohccpfiaaDoorW.PrintMore
open Go.Proofs.YtpigloohccpfiaaDoor.G
attribute [local go_sem] max2_int min2_int max_two min_two max_three min_three max_four min_four   -- for this text's walks alone
set_option linter.unusedVariables false
set_option linter.unusedSimpArgs false

/-! ### fascinelaw12_HttpAnswers: function 8 -/
def fascinelaw12_HttpAnswers.j0 : Nat → ByteArray → Bool → Option (Bool)
  | 0, _, _ => none
  | k + 1, x0, x15 => if x15 = true then ((fascinelaw12_awake.f k).bind fun t210 => (some t210)) else ((http_Answer.f k x0).bind fun bt211 => ((fascineref12_Answer.f k x0).bind fun bt214 => (if bt211.1 = bt214.1 then (if bt211.2.1.toList = bt214.2.1.toList then (some (bt211.2.2 == bt214.2.2)) else (some false)) else (some false))))
def fascinelaw12_HttpAnswers.f (k : Nat) (a0 : ByteArray) : Option (Bool) := (fascinelaw12_awake.f k).bind fun t209 => (if t209 = true then (fascinelaw12_HttpAnswers.j0 k a0 (decide ((a0.size : Int) > 100000))) else (fascinelaw12_HttpAnswers.j0 k a0 true))
theorem fascinelaw12_HttpAnswers.mono_l : ∀ k, (∀ y0 y1, LeO (fascinelaw12_HttpAnswers.j0 k y0 y1) (fascinelaw12_HttpAnswers.j0 (k + 1) y0 y1))
  | 0 => fun _ _ r h => by simp [fascinelaw12_HttpAnswers.j0] at h
  | k + 1 => by
    have ih0 := fascinelaw12_HttpAnswers.mono_l k
    · intro y0 y1
      unfold fascinelaw12_HttpAnswers.j0
      repeat' first
      | (with_reducible exact ih0 _ _)
      | (with_reducible exact fascinelaw12_awake.mono _)
      | (with_reducible exact fascineref12_Answer.mono _ _)
      | (with_reducible exact http_Answer.mono _ _)
      | (with_reducible exact LeO.refl _)
      | (with_reducible exact LeO.none _)
      | (with_reducible refine LeO.ite ?_ ?_)
      | (with_reducible refine LeO.bind ?_ (fun _ => ?_))
      | exact ih0 _ _
      | exact fascinelaw12_awake.mono _
      | exact fascineref12_Answer.mono _ _
      | exact http_Answer.mono _ _
      | exact LeO.none _
      | refine LeO.ite ?_ ?_
      | refine LeO.bind ?_ (fun _ => ?_)
theorem fascinelaw12_HttpAnswers.mono : ∀ a0 k, LeO (fascinelaw12_HttpAnswers.f k a0) (fascinelaw12_HttpAnswers.f (k + 1) a0) := by
  intro a0 k
  have ih0 := fascinelaw12_HttpAnswers.mono_l k
  unfold fascinelaw12_HttpAnswers.f
  repeat' first
      | (with_reducible exact ih0 _ _)
      | (with_reducible exact fascinelaw12_awake.mono _)
      | (with_reducible exact fascineref12_Answer.mono _ _)
      | (with_reducible exact http_Answer.mono _ _)
      | (with_reducible exact LeO.refl _)
      | (with_reducible exact LeO.none _)
      | (with_reducible refine LeO.ite ?_ ?_)
      | (with_reducible refine LeO.bind ?_ (fun _ => ?_))
      | exact ih0 _ _
      | exact fascinelaw12_awake.mono _
      | exact fascineref12_Answer.mono _ _
      | exact http_Answer.mono _ _
      | exact LeO.none _
      | refine LeO.ite ?_ ?_
      | refine LeO.bind ?_ (fun _ => ?_)
set_option maxHeartbeats 8000000 in
set_option maxRecDepth 100000 in
theorem fascinelaw12_HttpAnswers.calls (k : Nat) (a0 : ByteArray) (r : Bool) (w : World) (hT : tabs w) (h : fascinelaw12_HttpAnswers.f k a0 = some r) (hr_ : r = true) :
    Calls Tryd.prog 8 #[.string a0] w fun e w' => e = .returned (.bool r) ∧ Below w.heap.size w w' := by
  have HR_ := Aside0.mk hr_
  clear hr_
  have HT := Aside0.mk hT
  clear hT
  have HB := Aside0.mk (Below.refl w.heap.size w)
  have H : ((fascinelaw12_awake.f k).bind fun t209 => (if t209 = true then (fascinelaw12_HttpAnswers.j0 k a0 (decide ((a0.size : Int) > 100000))) else (fascinelaw12_HttpAnswers.j0 k a0 true))) = some r := h
  clear h
  have HC2 := Aside0.mk H
  clear H
  go_enter Tryd.func8, Tryd.ntmps8
  go_upto_region 1 with (fail)
  go_cut [15] (fun v15 wc => ∃ (kq : Nat) (x15_1 : Bool), v15 = .bool x15_1 ∧ Aside0 (fascinelaw12_HttpAnswers.j0 kq a0 x15_1 = some r) ∧ Aside0 (kq ≤ k) ∧ Aside0 (Below w.heap.size w wc))
  case first =>
    have H := HC2.out
    clear HC2
    replace H := Option.bind_eq_some_iff.mp H
    obtain ⟨t209, A30, H⟩ := H
    replace H : (if t209 = true then (fascinelaw12_HttpAnswers.j0 k a0 (decide ((a0.size : Int) > 100000))) else (fascinelaw12_HttpAnswers.j0 k a0 true)) = some r := H
    have A3 := Aside0.mk A30
    clear A30
    by_cases c4 : t209 = true
    · subst c4
      have H1 : (fascinelaw12_HttpAnswers.j0 k a0 (decide ((a0.size : Int) > 100000))) = some r := by rw [if_pos rfl] at H; exact H
      clear H
      have H := H1
      clear H1
      have H' := Aside0.mk H
      clear H
      go_wp2_with (first | ((with_reducible refine gate_callee (f := 9) rfl ?_); refine goesL_ (some 9) rfl rfl Tryd.func9 (by kernel_rfl) rfl #[] rfl (by (try simp only [List.map_toArray, List.map_cons, List.map_nil]); first | done | rfl | (simp only [List.length_drop, List.length_take]; rfl)) ?_; (with_reducible refine (fascinelaw12_awake.calls k  true _ ?side1 A3.out).mono ?_); (case side1 => first | exact HT.out | exact tabs_below HT.out (by repeat (first | (with_reducible first | exact HB.out | apply below_alloc | apply pw_below_drewN | apply below_drew1) | exact HB.out))); rintro e w5 ⟨rfl, hb⟩; refine ⟨_, rfl, ?_⟩; have n0_ := Aside0.mk (below_step (by repeat (first | (with_reducible first | exact HB.out | apply below_alloc | apply pw_below_drewN | apply below_drew1) | exact HB.out)) hb); clear HB; have HB := n0_; clear n0_; (try clear hb); (try clear hb2); (try clear hk); (try clear hi)))
      go_meet
      case rel => exact ⟨_, (decide ((a0.size : Int) > 100000)), (by first | rfl | (simp; done) | (simp [*]; done)), H', ⟨by first | omega | exact Nat.le_refl _⟩, ⟨by repeat (first | (with_reducible first | exact HB.out | apply below_alloc | apply pw_below_drewN | apply below_drew1) | exact HB.out)⟩⟩
    · replace c4 := Bool.eq_false_iff.mpr c4
      subst c4
      have H1 : (fascinelaw12_HttpAnswers.j0 k a0 true) = some r := by rw [if_neg (show ¬ (false = true) by decide)] at H; exact H
      clear H
      have H := H1
      clear H1
      have H' := Aside0.mk H
      clear H
      go_wp2_with (first | ((with_reducible refine gate_callee (f := 9) rfl ?_); refine goesL_ (some 9) rfl rfl Tryd.func9 (by kernel_rfl) rfl #[] rfl (by (try simp only [List.map_toArray, List.map_cons, List.map_nil]); first | done | rfl | (simp only [List.length_drop, List.length_take]; rfl)) ?_; (with_reducible refine (fascinelaw12_awake.calls k  false _ ?side1 A3.out).mono ?_); (case side1 => first | exact HT.out | exact tabs_below HT.out (by repeat (first | (with_reducible first | exact HB.out | apply below_alloc | apply pw_below_drewN | apply below_drew1) | exact HB.out))); rintro e w6 ⟨rfl, hb⟩; refine ⟨_, rfl, ?_⟩; have n0_ := Aside0.mk (below_step (by repeat (first | (with_reducible first | exact HB.out | apply below_alloc | apply pw_below_drewN | apply below_drew1) | exact HB.out)) hb); clear HB; have HB := n0_; clear n0_; (try clear hb); (try clear hb2); (try clear hk); (try clear hi)))
      go_meet
      case rel => exact ⟨_, (true), (by first | rfl | (simp; done) | (simp [*]; done)), H', ⟨by first | omega | exact Nat.le_refl _⟩, ⟨by repeat (first | (with_reducible first | exact HB.out | apply below_alloc | apply pw_below_drewN | apply below_drew1) | exact HB.out)⟩⟩
  case rest =>
    clear HC2
    try clear p2
    try clear c4
    obtain ⟨kq, x15_1, rfl, HA, HJ1, HB⟩ := hcut
    cases kq with
    | zero => exact absurd HA.out (by simp [fascinelaw12_HttpAnswers.j0])
    | succ kj1 =>
      have H := HA.out
      clear HA
      simp only [fascinelaw12_HttpAnswers.j0] at H
      by_cases c7 : x15_1 = true
      · subst c7
        have H1 : ((fascinelaw12_awake.f kj1).bind fun t210 => (some t210)) = some r := by rw [if_pos rfl] at H; exact H
        clear H
        have H := H1
        clear H1
        replace H := Option.bind_eq_some_iff.mp H
        obtain ⟨t210, A80, H⟩ := H
        replace H : (some t210) = some r := H
        have A8 := Aside0.mk A80
        clear A80
        obtain rfl := Option.some.inj H
        go_wp2_with (first | ((with_reducible refine gate_callee (f := 9) rfl ?_); refine goesL_ (some 16) rfl rfl Tryd.func9 (by kernel_rfl) rfl #[] rfl (by (try simp only [List.map_toArray, List.map_cons, List.map_nil]); first | done | rfl | (simp only [List.length_drop, List.length_take]; rfl)) ?_; (with_reducible refine (fascinelaw12_awake.calls kj1  t210 _ ?side1 A8.out).mono ?_); (case side1 => first | exact HT.out | exact tabs_below HT.out (by repeat (first | (with_reducible first | exact HB.out | apply below_alloc | apply pw_below_drewN | apply below_drew1) | exact HB.out))); rintro e w9 ⟨rfl, hb⟩; refine ⟨_, rfl, ?_⟩; have n0_ := Aside0.mk (below_step (by repeat (first | (with_reducible first | exact HB.out | apply below_alloc | apply pw_below_drewN | apply below_drew1) | exact HB.out)) hb); clear HB; have HB := n0_; clear n0_; (try clear hb); (try clear hb2); (try clear hk); (try clear hi)))
        go_ret
        exact ⟨by first | rfl | (simp [errW_none, errW_some] <;> rfl) | (simp [*, errW_none, errW_some] <;> rfl), by repeat (first | (with_reducible first | exact HB.out | apply below_alloc | apply pw_below_drewN | apply below_drew1) | exact HB.out)⟩
      · replace c7 := Bool.eq_false_iff.mpr c7
        subst c7
        have H1 : ((http_Answer.f kj1 a0).bind fun bt211 => ((fascineref12_Answer.f kj1 a0).bind fun bt214 => (if bt211.1 = bt214.1 then (if bt211.2.1.toList = bt214.2.1.toList then (some (bt211.2.2 == bt214.2.2)) else (some false)) else (some false)))) = some r := by rw [if_neg (show ¬ (false = true) by decide)] at H; exact H
        clear H
        have H := H1
        clear H1
        replace H := Option.bind_eq_some_iff.mp H
        obtain ⟨⟨t211, t212, t213⟩, A100, H⟩ := H
        replace H : ((fascineref12_Answer.f kj1 a0).bind fun bt214 => (if t211 = bt214.1 then (if t212.toList = bt214.2.1.toList then (some (t213 == bt214.2.2)) else (some false)) else (some false))) = some r := H
        have A10 := Aside0.mk A100
        clear A100
        replace H := Option.bind_eq_some_iff.mp H
        obtain ⟨⟨t214, t215, t216⟩, A110, H⟩ := H
        replace H : (if t211 = t214 then (if t212.toList = t215.toList then (some (t213 == t216)) else (some false)) else (some false)) = some r := H
        have A11 := Aside0.mk A110
        clear A110
        by_cases c12 : t211 = t214
        · rw [if_pos c12] at H
          have c12b0 : (t211 == t214) = true := beq_iff_eq.mpr c12
          have c12b1 : (t211 != t214) = false := bne_eq_false_iff_eq.mpr c12
          clear c12
          by_cases c13 : t212.toList = t215.toList
          · rw [if_pos c13] at H
            have c13b0 : (t212.toList == t215.toList) = true := beq_iff_eq.mpr c13
            have c13b1 : (t212.toList != t215.toList) = false := bne_eq_false_iff_eq.mpr c13
            clear c13
            obtain rfl := Option.some.inj H
            go_wp2_with (first | ((with_reducible refine gate_callee (f := 16) rfl ?_); refine goesL_ (some 19) rfl rfl Tryd.func16 (by kernel_rfl) rfl #[.string a0] rfl (by (try simp only [List.map_toArray, List.map_cons, List.map_nil]); first | done | rfl | (simp only [List.length_drop, List.length_take]; rfl)) ?_; (with_reducible refine (http_Answer.calls kj1 a0 t211 t212 t213 _ ?side1 A10.out).mono ?_); (case side1 => first | exact HT.out | exact tabs_below HT.out (by repeat (first | (with_reducible first | exact HB.out | apply below_alloc | apply pw_below_drewN | apply below_drew1) | exact HB.out))); rintro e w14 ⟨rfl, hb⟩; refine ⟨_, rfl, ?_⟩; have n0_ := Aside0.mk (below_step (by repeat (first | (with_reducible first | exact HB.out | apply below_alloc | apply pw_below_drewN | apply below_drew1) | exact HB.out)) hb); clear HB; have HB := n0_; clear n0_; (try clear hb); (try clear hb2); (try clear hk); (try clear hi)) | ((with_reducible refine gate_callee (f := 17) rfl ?_); refine goesL_ (some 25) rfl rfl Tryd.func17 (by kernel_rfl) rfl #[.string a0] rfl (by (try simp only [List.map_toArray, List.map_cons, List.map_nil]); first | done | rfl | (simp only [List.length_drop, List.length_take]; rfl)) ?_; (with_reducible refine (fascineref12_Answer.calls kj1 a0 t214 t215 t216 _ A11.out).mono ?_); rintro e w15 ⟨rfl, hb⟩; refine ⟨_, rfl, ?_⟩; have n0_ := Aside0.mk (below_step (by repeat (first | (with_reducible first | exact HB.out | apply below_alloc | apply pw_below_drewN | apply below_drew1) | exact HB.out)) hb); clear HB; have HB := n0_; clear n0_; (try clear hb); (try clear hb2); (try clear hk); (try clear hi)))
            go_ret
            exact ⟨by first | rfl | (simp [errW_none, errW_some] <;> rfl) | (simp [*, errW_none, errW_some] <;> rfl), by repeat (first | (with_reducible first | exact HB.out | apply below_alloc | apply pw_below_drewN | apply below_drew1) | exact HB.out)⟩
          · rw [if_neg c13] at H
            have c13b0 : (t212.toList == t215.toList) = false := beq_eq_false_iff_ne.mpr c13
            have c13b1 : (t212.toList != t215.toList) = true := bne_iff_ne.mpr c13
            exact absurd (HR_.out.symm.trans (Option.some.inj H).symm) (by decide)
        · rw [if_neg c12] at H
          have c12b0 : (t211 == t214) = false := beq_eq_false_iff_ne.mpr c12
          have c12b1 : (t211 != t214) = true := bne_iff_ne.mpr c12
          exact absurd (HR_.out.symm.trans (Option.some.inj H).symm) (by decide)

/-- THE ONE PURE STATEMENT of fascinelaw12_HttpAnswers: yours. -/
def fascinelaw12_HttpAnswers.Pure : Prop := ∀ (a0 : ByteArray), a0.size ≤ 140737488351232 → ∃ k, fascinelaw12_HttpAnswers.f k a0 = some true
theorem fascinelaw12_HttpAnswers.walk (P : fascinelaw12_HttpAnswers.Pure) (a0 : ByteArray) (w : World) (hT : tabs w) (w0 : a0.size ≤ 140737488351232) :
    Calls Tryd.prog 8 #[.string a0] w fun e w' => e = .returned (.bool true) ∧ Below w.heap.size w w' := by
  obtain ⟨k, h⟩ := P a0 w0
  refine (fascinelaw12_HttpAnswers.calls k a0 true w hT h rfl).mono ?_
  rintro e w' ⟨rfl, hd⟩
  exact ⟨rfl, hd⟩

end Go.Proofs.YtpigloohccpfiaaDoor.PHttpAnswers
