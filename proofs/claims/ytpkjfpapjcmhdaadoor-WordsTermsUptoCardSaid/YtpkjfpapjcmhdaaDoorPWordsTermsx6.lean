-- WRITTEN BY A PROGRAM OF THIS SESSION (wip/patch_print.py: the kit's printer with rules of this session's own); Lean checks it.
import Derived.Laws.Cover1
import Derived.Test.YtpkjfpapjcmhdaaDoorPWordsTermsx0
import Derived.Test.YtpkjfpapjcmhdaaDoorPWordsTermsx2
import Derived.Test.YtpkjfpapjcmhdaaDoorPWordsTermsx3
import Derived.Test.YtpkjfpapjcmhdaaDoorPWordsTermsx5
namespace Go.Proofs.YtpkjfpapjcmhdaaDoor.PWordsTerms
open Go.RowKit Go.Proofs.YtpkjfpapjcmhdaaDoorW.PrintWords Go.Proofs.YtpkjfpapjcmhdaaDoorW.PrintLast Go.Proofs.YtpkjfpapjcmhdaaDoorW.PrintMore
open Go.Proofs.YtpkjfpapjcmhdaaDoor.G
attribute [local go_sem] max2_int min2_int max_two min_two max_three min_three max_four min_four   -- for this text's walks alone
set_option linter.unusedVariables false
set_option linter.unusedSimpArgs false

/-! ### fascinelaw05_WordsTerms: function 3 -/
def fascinelaw05_WordsTerms.l0 : Nat → List ByteArray → List ByteArray → Int → Option (Bool)
  | 0, _, _, _ => none
  | k + 1, x3, x4, x5 => if x5 < (x3.length : Int) then (if 0 ≤ x5 then (if x5 < (x4.length : Int) then (if (rdOf ByteArray.empty x3 x5).toList = (rdOf ByteArray.empty x4 x5).toList then (if x5 > 0 then (if 0 ≤ (wrap64 (x5 - 1)) then (if (wrap64 (x5 - 1)) < (x3.length : Int) then (if (Op.bytesLess ((rdOf ByteArray.empty x3 x5).toList) ((rdOf ByteArray.empty x3 (wrap64 (x5 - 1))).toList) || ((rdOf ByteArray.empty x3 x5).toList) == ((rdOf ByteArray.empty x3 (wrap64 (x5 - 1))).toList)) = true then (some false) else (fascinelaw05_WordsTerms.l0 k x3 x4 (wrap64 (x5 + 1)))) else (none)) else (none)) else (fascinelaw05_WordsTerms.l0 k x3 x4 (wrap64 (x5 + 1)))) else (some false)) else (none)) else (none)) else (some true)
def fascinelaw05_WordsTerms.f (k : Nat) (a0 : ByteArray) : Option (Bool) := (fascinelaw05_awake.f k).bind fun t224 => (if t224 = true then ((words_Terms.f k a0).bind fun t225 => ((fascineref05_Terms.f k a0).bind fun t228 => (if (t225.length : Int) = (t228.length : Int) then (fascinelaw05_WordsTerms.l0 k t225 t228 0) else (some false)))) else (some false))
theorem fascinelaw05_WordsTerms.mono_l : ∀ k, (∀ y0 y1 y2, LeO (fascinelaw05_WordsTerms.l0 k y0 y1 y2) (fascinelaw05_WordsTerms.l0 (k + 1) y0 y1 y2))
  | 0 => fun _ _ _ r h => by simp [fascinelaw05_WordsTerms.l0] at h
  | k + 1 => by
    have ih0 := fascinelaw05_WordsTerms.mono_l k
    · intro y0 y1 y2
      unfold fascinelaw05_WordsTerms.l0
      repeat' first
      | (with_reducible exact ih0 _ _ _)
      | (with_reducible exact fascinelaw05_awake.mono _)
      | (with_reducible exact fascineref05_Terms.mono _ _)
      | (with_reducible exact words_Terms.mono _ _)
      | (with_reducible exact LeO.refl _)
      | (with_reducible exact LeO.none _)
      | (with_reducible refine LeO.ite ?_ ?_)
      | (with_reducible refine LeO.bind ?_ (fun _ => ?_))
      | exact ih0 _ _ _
      | exact fascinelaw05_awake.mono _
      | exact fascineref05_Terms.mono _ _
      | exact words_Terms.mono _ _
      | exact LeO.none _
      | refine LeO.ite ?_ ?_
      | refine LeO.bind ?_ (fun _ => ?_)
theorem fascinelaw05_WordsTerms.mono : ∀ a0 k, LeO (fascinelaw05_WordsTerms.f k a0) (fascinelaw05_WordsTerms.f (k + 1) a0) := by
  intro a0 k
  have ih0 := fascinelaw05_WordsTerms.mono_l k
  unfold fascinelaw05_WordsTerms.f
  repeat' first
      | (with_reducible exact ih0 _ _ _)
      | (with_reducible exact fascinelaw05_awake.mono _)
      | (with_reducible exact fascineref05_Terms.mono _ _)
      | (with_reducible exact words_Terms.mono _ _)
      | (with_reducible exact LeO.refl _)
      | (with_reducible exact LeO.none _)
      | (with_reducible refine LeO.ite ?_ ?_)
      | (with_reducible refine LeO.bind ?_ (fun _ => ?_))
      | exact ih0 _ _ _
      | exact fascinelaw05_awake.mono _
      | exact fascineref05_Terms.mono _ _
      | exact words_Terms.mono _ _
      | exact LeO.none _
      | refine LeO.ite ?_ ?_
      | refine LeO.bind ?_ (fun _ => ?_)
set_option maxHeartbeats 8000000 in
set_option maxRecDepth 100000 in
theorem fascinelaw05_WordsTerms.calls (k : Nat) (a0 : ByteArray) (r : Bool) (w : World) (hT : tabs w) (h : fascinelaw05_WordsTerms.f k a0 = some r) (hr_ : r = true) :
    Calls Tryd.prog 3 #[.string a0] w fun e w' => e = .returned (.bool r) ∧ Below w.heap.size w w' := by
  have HR_ := Aside0.mk hr_
  clear hr_
  have HT := Aside0.mk hT
  clear hT
  have HB := Aside0.mk (Below.refl w.heap.size w)
  have H : ((fascinelaw05_awake.f k).bind fun t224 => (if t224 = true then ((words_Terms.f k a0).bind fun t225 => ((fascineref05_Terms.f k a0).bind fun t228 => (if (t225.length : Int) = (t228.length : Int) then (fascinelaw05_WordsTerms.l0 k t225 t228 0) else (some false)))) else (some false))) = some r := h
  clear h
  replace H := Option.bind_eq_some_iff.mp H
  obtain ⟨t224, A20, H⟩ := H
  replace H : (if t224 = true then ((words_Terms.f k a0).bind fun t225 => ((fascineref05_Terms.f k a0).bind fun t228 => (if (t225.length : Int) = (t228.length : Int) then (fascinelaw05_WordsTerms.l0 k t225 t228 0) else (some false)))) else (some false)) = some r := H
  have A2 := Aside0.mk A20
  clear A20
  by_cases c3 : t224 = true
  · subst c3
    have H1 : ((words_Terms.f k a0).bind fun t225 => ((fascineref05_Terms.f k a0).bind fun t228 => (if (t225.length : Int) = (t228.length : Int) then (fascinelaw05_WordsTerms.l0 k t225 t228 0) else (some false)))) = some r := by rw [if_pos rfl] at H; exact H
    clear H
    have H := H1
    clear H1
    replace H := Option.bind_eq_some_iff.mp H
    obtain ⟨t225, A40, H⟩ := H
    replace H : ((fascineref05_Terms.f k a0).bind fun t228 => (if (t225.length : Int) = (t228.length : Int) then (fascinelaw05_WordsTerms.l0 k t225 t228 0) else (some false))) = some r := H
    have A4 := Aside0.mk A40
    clear A40
    replace H := Option.bind_eq_some_iff.mp H
    obtain ⟨t228, A50, H⟩ := H
    replace H : (if (t225.length : Int) = (t228.length : Int) then (fascinelaw05_WordsTerms.l0 k t225 t228 0) else (some false)) = some r := H
    have A5 := Aside0.mk A50
    clear A50
    by_cases c6 : (t225.length : Int) = (t228.length : Int)
    · rw [if_pos c6] at H
      have c6b0 : ((t225.length : Int) == (t228.length : Int)) = true := beq_iff_eq.mpr c6
      have c6b1 : ((t225.length : Int) != (t228.length : Int)) = false := bne_eq_false_iff_eq.mpr c6
      have c6b2 : (t225.length == t228.length) = true := by first | simpa using c6 | (simp at c6 ⊢; omega)
      clear c6
      have H' := Aside0.mk H
      clear H
      go_enter Tryd.func3, Tryd.ntmps3
      go_wp2_with (first | (go_at_call 11; (with_reducible refine (fascinelaw05_awake.calls k  true _ ?side1 A2.out).mono ?_); (case side1 => first | exact HT.out | exact tabs_below HT.out (by repeat (first | (with_reducible first | exact HB.out | apply below_alloc | apply pw_below_drewN | apply below_drew1) | exact HB.out))); rintro e w7 ⟨rfl, hb⟩; have n0_ := Aside0.mk (below_step (by repeat (first | (with_reducible first | exact HB.out | apply below_alloc | apply pw_below_drewN | apply below_drew1) | exact HB.out)) hb); clear HB; have HB := n0_; clear n0_; (try clear hb); (try clear hb2); (try clear hk); (try clear hi)) | (go_at_call 12; (with_reducible refine (words_Terms.calls k a0 t225 _ ?side1 A4.out).mono ?_); (case side1 => first | exact HT.out | exact tabs_below HT.out (by repeat (first | (with_reducible first | exact HB.out | apply below_alloc | apply pw_below_drewN | apply below_drew1) | exact HB.out))); rintro e w8 ⟨v226, rfl, ho0, hb⟩; have n0_ := Aside0.mk (Kd.R_lower ho0 (below_size (by repeat (first | (with_reducible first | exact HB.out | apply below_alloc | apply pw_below_drewN | apply below_drew1) | exact HB.out)))); have n1_ := Aside0.mk (below_step (by repeat (first | (with_reducible first | exact HB.out | apply below_alloc | apply pw_below_drewN | apply below_drew1) | exact HB.out)) hb); clear HB; have HO227 := n0_; have HB := n1_; clear n0_ n1_; (try clear hb); (try clear hb2); (try clear hk); (try clear hi); (try clear ho0)) | (go_at_call 13; (with_reducible refine (fascineref05_Terms.calls k a0 t228 _ ?side1 A5.out).mono ?_); (case side1 => first | exact HT.out | exact tabs_below HT.out (by repeat (first | (with_reducible first | exact HB.out | apply below_alloc | apply pw_below_drewN | apply below_drew1) | exact HB.out))); rintro e w9 ⟨v229, rfl, ho0, hb⟩; have n0_ := Aside0.mk (Kd.R_below (by (with_reducible repeat (first | apply Kd.R_alloc | apply Kd.R_drewN | apply Kd.R_drew)); exact HO227.out) hb); have n1_ := Aside0.mk (Kd.V_lower (Kd.V_mono (ok' := fun k_ => some k_ ≠ (v226 : Value).ownBlock) ho0 (fun k_ hk_ => (Kd.fresh' (Kd.R_lt (by (with_reducible repeat (first | apply Kd.R_alloc | apply Kd.R_drewN | apply Kd.R_drew)); exact HO227.out)) k_ hk_))) (below_size (by repeat (first | (with_reducible first | exact HB.out | apply below_alloc | apply pw_below_drewN | apply below_drew1) | exact HB.out)))); have n2_ := Aside0.mk (below_step (by repeat (first | (with_reducible first | exact HB.out | apply below_alloc | apply pw_below_drewN | apply below_drew1) | exact HB.out)) hb); clear HO227; clear HB; have HO227 := n0_; have HO230 := n1_; have HB := n2_; clear n0_ n1_ n2_; (try clear hb); (try clear hb2); (try clear hk); (try clear hi); (try clear ho0); obtain ⟨Ao10, co10, eo10⟩ := Kd.R_slice HO227.out; subst eo10; obtain ⟨Ao11, co11, eo11⟩ := Kd.V_slice HO230.out; subst eo11))
      repeat (go_quiet (first | (go_at_call 11; (with_reducible refine (fascinelaw05_awake.calls k  true _ ?side1 A2.out).mono ?_); (case side1 => first | exact HT.out | exact tabs_below HT.out (by repeat (first | (with_reducible first | exact HB.out | apply below_alloc | apply pw_below_drewN | apply below_drew1) | exact HB.out))); rintro e w7 ⟨rfl, hb⟩; have n0_ := Aside0.mk (below_step (by repeat (first | (with_reducible first | exact HB.out | apply below_alloc | apply pw_below_drewN | apply below_drew1) | exact HB.out)) hb); clear HB; have HB := n0_; clear n0_; (try clear hb); (try clear hb2); (try clear hk); (try clear hi)) | (go_at_call 12; (with_reducible refine (words_Terms.calls k a0 t225 _ ?side1 A4.out).mono ?_); (case side1 => first | exact HT.out | exact tabs_below HT.out (by repeat (first | (with_reducible first | exact HB.out | apply below_alloc | apply pw_below_drewN | apply below_drew1) | exact HB.out))); rintro e w8 ⟨v226, rfl, ho0, hb⟩; have n0_ := Aside0.mk (Kd.R_lower ho0 (below_size (by repeat (first | (with_reducible first | exact HB.out | apply below_alloc | apply pw_below_drewN | apply below_drew1) | exact HB.out)))); have n1_ := Aside0.mk (below_step (by repeat (first | (with_reducible first | exact HB.out | apply below_alloc | apply pw_below_drewN | apply below_drew1) | exact HB.out)) hb); clear HB; have HO227 := n0_; have HB := n1_; clear n0_ n1_; (try clear hb); (try clear hb2); (try clear hk); (try clear hi); (try clear ho0)) | (go_at_call 13; (with_reducible refine (fascineref05_Terms.calls k a0 t228 _ ?side1 A5.out).mono ?_); (case side1 => first | exact HT.out | exact tabs_below HT.out (by repeat (first | (with_reducible first | exact HB.out | apply below_alloc | apply pw_below_drewN | apply below_drew1) | exact HB.out))); rintro e w9 ⟨v229, rfl, ho0, hb⟩; have n0_ := Aside0.mk (Kd.R_below (by (with_reducible repeat (first | apply Kd.R_alloc | apply Kd.R_drewN | apply Kd.R_drew)); exact HO227.out) hb); have n1_ := Aside0.mk (Kd.V_lower (Kd.V_mono (ok' := fun k_ => some k_ ≠ (v226 : Value).ownBlock) ho0 (fun k_ hk_ => (Kd.fresh' (Kd.R_lt (by (with_reducible repeat (first | apply Kd.R_alloc | apply Kd.R_drewN | apply Kd.R_drew)); exact HO227.out)) k_ hk_))) (below_size (by repeat (first | (with_reducible first | exact HB.out | apply below_alloc | apply pw_below_drewN | apply below_drew1) | exact HB.out)))); have n2_ := Aside0.mk (below_step (by repeat (first | (with_reducible first | exact HB.out | apply below_alloc | apply pw_below_drewN | apply below_drew1) | exact HB.out)) hb); clear HO227; clear HB; have HO227 := n0_; have HO230 := n1_; have HB := n2_; clear n0_ n1_ n2_; (try clear hb); (try clear hb2); (try clear hk); (try clear hi); (try clear ho0); obtain ⟨Ao10, co10, eo10⟩ := Kd.R_slice HO227.out; subst eo10; obtain ⟨Ao11, co11, eo11⟩ := Kd.V_slice HO230.out; subst eo11)); try go_wp2_with (first | (go_at_call 11; (with_reducible refine (fascinelaw05_awake.calls k  true _ ?side1 A2.out).mono ?_); (case side1 => first | exact HT.out | exact tabs_below HT.out (by repeat (first | (with_reducible first | exact HB.out | apply below_alloc | apply pw_below_drewN | apply below_drew1) | exact HB.out))); rintro e w7 ⟨rfl, hb⟩; have n0_ := Aside0.mk (below_step (by repeat (first | (with_reducible first | exact HB.out | apply below_alloc | apply pw_below_drewN | apply below_drew1) | exact HB.out)) hb); clear HB; have HB := n0_; clear n0_; (try clear hb); (try clear hb2); (try clear hk); (try clear hi)) | (go_at_call 12; (with_reducible refine (words_Terms.calls k a0 t225 _ ?side1 A4.out).mono ?_); (case side1 => first | exact HT.out | exact tabs_below HT.out (by repeat (first | (with_reducible first | exact HB.out | apply below_alloc | apply pw_below_drewN | apply below_drew1) | exact HB.out))); rintro e w8 ⟨v226, rfl, ho0, hb⟩; have n0_ := Aside0.mk (Kd.R_lower ho0 (below_size (by repeat (first | (with_reducible first | exact HB.out | apply below_alloc | apply pw_below_drewN | apply below_drew1) | exact HB.out)))); have n1_ := Aside0.mk (below_step (by repeat (first | (with_reducible first | exact HB.out | apply below_alloc | apply pw_below_drewN | apply below_drew1) | exact HB.out)) hb); clear HB; have HO227 := n0_; have HB := n1_; clear n0_ n1_; (try clear hb); (try clear hb2); (try clear hk); (try clear hi); (try clear ho0)) | (go_at_call 13; (with_reducible refine (fascineref05_Terms.calls k a0 t228 _ ?side1 A5.out).mono ?_); (case side1 => first | exact HT.out | exact tabs_below HT.out (by repeat (first | (with_reducible first | exact HB.out | apply below_alloc | apply pw_below_drewN | apply below_drew1) | exact HB.out))); rintro e w9 ⟨v229, rfl, ho0, hb⟩; have n0_ := Aside0.mk (Kd.R_below (by (with_reducible repeat (first | apply Kd.R_alloc | apply Kd.R_drewN | apply Kd.R_drew)); exact HO227.out) hb); have n1_ := Aside0.mk (Kd.V_lower (Kd.V_mono (ok' := fun k_ => some k_ ≠ (v226 : Value).ownBlock) ho0 (fun k_ hk_ => (Kd.fresh' (Kd.R_lt (by (with_reducible repeat (first | apply Kd.R_alloc | apply Kd.R_drewN | apply Kd.R_drew)); exact HO227.out)) k_ hk_))) (below_size (by repeat (first | (with_reducible first | exact HB.out | apply below_alloc | apply pw_below_drewN | apply below_drew1) | exact HB.out)))); have n2_ := Aside0.mk (below_step (by repeat (first | (with_reducible first | exact HB.out | apply below_alloc | apply pw_below_drewN | apply below_drew1) | exact HB.out)) hb); clear HO227; clear HB; have HO227 := n0_; have HO230 := n1_; have HB := n2_; clear n0_ n1_ n2_; (try clear hb); (try clear hb2); (try clear hk); (try clear hi); (try clear ho0); obtain ⟨Ao10, co10, eo10⟩ := Kd.R_slice HO227.out; subst eo10; obtain ⟨Ao11, co11, eo11⟩ := Kd.V_slice HO230.out; subst eo11)))
      go_loopg [5] k (fun kq v5 w' => ∃ (x5_1 : Int), v5 = .int .i64 x5_1 ∧ Aside0 (fascinelaw05_WordsTerms.l0 kq t225 t228 x5_1 = some r) ∧ Aside0 (kq ≤ k) ∧ Aside0 (Kd.R Kd.string 9 w' w.heap.size (fun _ => True) (.slice Ao10 t225.length co10) t225) ∧ Aside0 (Kd.V Kd.string 9 w' w.heap.size (fun k_ => some k_ ≠ ((.slice Ao10 t225.length co10) : Value).ownBlock) (.slice Ao11 t228.length co11) t228) ∧ Aside0 (Below w.heap.size w w'))
      case atStart => exact ⟨(0), (by first | rfl | (simp; done) | (simp [*]; done)), H', ⟨Nat.le_refl _⟩, ⟨by (with_reducible repeat (first | apply Kd.R_alloc | apply Kd.R_drewN | apply Kd.R_drew)); exact HO227.out⟩, ⟨by (with_reducible repeat (first | apply Kd.V_alloc | apply Kd.V_drewN | apply Kd.V_drew)); exact HO230.out⟩, ⟨by repeat (first | (with_reducible first | exact HB.out | apply below_alloc | apply pw_below_drewN | apply below_drew1) | exact HB.out)⟩⟩
      case round =>
        clear H'
        try clear p2
        try clear c3
        try clear c6
        try clear c6b0
        try clear c6b1
        try clear c6b2
        obtain ⟨x5_1, rfl, HA, HK1, HO_3, HO_4, HB⟩ := hrel
        cases gk with
        | zero => exact absurd HA.out (by simp [fascinelaw05_WordsTerms.l0])
        | succ k1 =>
          have H := HA.out
          clear HA
          simp only [fascinelaw05_WordsTerms.l0] at H
          by_cases c12 : x5_1 < (t225.length : Int)
          · rw [if_pos c12] at H
            have c12b0 : decide (x5_1 < (t225.length : Int)) = true := decide_eq_true c12
            clear c12
            by_cases c13 : 0 ≤ x5_1
            · rw [if_pos c13] at H
              have c13b0 : decide (0 ≤ x5_1) = true := decide_eq_true c13
              clear c13
              by_cases c14 : x5_1 < (t228.length : Int)
              · rw [if_pos c14] at H
                have c14b0 : decide (x5_1 < (t228.length : Int)) = true := decide_eq_true c14
                clear c14
                by_cases c15 : (rdOf ByteArray.empty t225 x5_1).toList = (rdOf ByteArray.empty t228 x5_1).toList
                · rw [if_pos c15] at H
                  have c15b0 : ((rdOf ByteArray.empty t225 x5_1).toList == (rdOf ByteArray.empty t228 x5_1).toList) = true := beq_iff_eq.mpr c15
                  have c15b1 : ((rdOf ByteArray.empty t225 x5_1).toList != (rdOf ByteArray.empty t228 x5_1).toList) = false := bne_eq_false_iff_eq.mpr c15
                  clear c15
                  by_cases c16 : x5_1 > 0
                  · rw [if_pos c16] at H
                    have c16b0 : decide (0 < x5_1) = true := decide_eq_true c16
                    clear c16
                    obtain ⟨ji17, hji17⟩ : ∃ j_ : Int, (wrap64 (x5_1 - 1)) = j_ := ⟨_, rfl⟩
                    replace H : (if 0 ≤ (ji17) then (if (ji17) < (t225.length : Int) then (if (Op.bytesLess ((rdOf ByteArray.empty t225 x5_1).toList) ((rdOf ByteArray.empty t225 (ji17)).toList) || ((rdOf ByteArray.empty t225 x5_1).toList) == ((rdOf ByteArray.empty t225 (ji17)).toList)) = true then (some false) else (fascinelaw05_WordsTerms.l0 k1 t225 t228 (wrap64 (x5_1 + 1)))) else (none)) else (none)) = some r := by first | (rw [hji17] at H; exact H) | (simp only [hji17] at H ⊢; exact H)
                    have hji17w : (IntKind.i64.wrap (x5_1 - 1)) = ji17 := (i64_w _).trans hji17
                    by_cases c18 : 0 ≤ (ji17)
                    · rw [if_pos c18] at H
                      have c18b0 : decide (0 ≤ (ji17)) = true := decide_eq_true c18
                      clear c18
                      by_cases c19 : (ji17) < (t225.length : Int)
                      · rw [if_pos c19] at H
                        have c19b0 : decide ((ji17) < (t225.length : Int)) = true := decide_eq_true c19
                        clear c19
                        by_cases c20 : (Op.bytesLess ((rdOf ByteArray.empty t225 x5_1).toList) ((rdOf ByteArray.empty t225 (ji17)).toList) || ((rdOf ByteArray.empty t225 x5_1).toList) == ((rdOf ByteArray.empty t225 (ji17)).toList)) = true
                        · rw [if_pos c20] at H
                          have c20b0 : (Op.bytesLess ((rdOf ByteArray.empty t225 x5_1).toList) ((rdOf ByteArray.empty t225 (ji17)).toList) || ((rdOf ByteArray.empty t225 x5_1).toList) == ((rdOf ByteArray.empty t225 (ji17)).toList)) = true := c20
                          (try (have c20b1 : decide (Op.bytesLess ((rdOf ByteArray.empty t225 x5_1).toList) ((rdOf ByteArray.empty t225 (ji17)).toList) || ((rdOf ByteArray.empty t225 x5_1).toList) = ((rdOf ByteArray.empty t225 (ji17)).toList)) = true := by simpa using c20))
                          (try (have c20b2 : (Op.bytesLess ((rdOf ByteArray.empty t225 x5_1).toList) ((rdOf ByteArray.empty t225 (ji17)).toList) || ((rdOf ByteArray.empty t225 x5_1).toList) == ((rdOf ByteArray.empty t225 (ji17)).toList)) = true := by simpa using c20))
                          clear c20
                          exact absurd (HR_.out.symm.trans (Option.some.inj H).symm) (by decide)
                        · rw [if_neg c20] at H
                          have c20b0 : (Op.bytesLess ((rdOf ByteArray.empty t225 x5_1).toList) ((rdOf ByteArray.empty t225 (ji17)).toList) || ((rdOf ByteArray.empty t225 x5_1).toList) == ((rdOf ByteArray.empty t225 (ji17)).toList)) = false := (by first | exact Bool.eq_false_iff.mpr c20 | simpa using c20)
                          (try (have c20b1 : decide (Op.bytesLess ((rdOf ByteArray.empty t225 x5_1).toList) ((rdOf ByteArray.empty t225 (ji17)).toList) || ((rdOf ByteArray.empty t225 x5_1).toList) = ((rdOf ByteArray.empty t225 (ji17)).toList)) = false := by simpa using c20))
                          (try (have c20b2 : (Op.bytesLess ((rdOf ByteArray.empty t225 x5_1).toList) ((rdOf ByteArray.empty t225 (ji17)).toList) || ((rdOf ByteArray.empty t225 x5_1).toList) == ((rdOf ByteArray.empty t225 (ji17)).toList)) = false := by simpa using c20))
                          (try (have c20b3 : ¬ (Op.bytesLess ((rdOf ByteArray.empty t225 x5_1).toList) ((rdOf ByteArray.empty t225 (ji17)).toList) || ((rdOf ByteArray.empty t225 x5_1).toList) = ((rdOf ByteArray.empty t225 (ji17)).toList)) := by simpa using c20))
                          clear c20
                          have H' := Aside0.mk H
                          clear H
                          have p231 : 0 ≤ (x5_1 : Int) := of_decide_eq_true (by first | (with_reducible assumption) | assumption)
                          have q231 : x5_1 < (t225.length : Int) := of_decide_eq_true (by first | (with_reducible assumption) | assumption)
                          obtain ⟨ad231, e231, hx231_0⟩ := Kd.at_string (Kd.R_reads' HO_3.out).2.2 x5_1 p231 q231
                          cases e231
                          replace p231 := eq_true p231
                          replace q231 := eq_true q231
                          have p232 : 0 ≤ (x5_1 : Int) := of_decide_eq_true (by first | (with_reducible assumption) | assumption)
                          have q232 : x5_1 < (t228.length : Int) := of_decide_eq_true (by first | (with_reducible assumption) | assumption)
                          obtain ⟨ad232, e232, hx232_0⟩ := Kd.at_string (Kd.V_reads' HO_4.out).2.2 x5_1 p232 q232
                          cases e232
                          replace p232 := eq_true p232
                          replace q232 := eq_true q232
                          have p233 : 0 ≤ (x5_1 : Int) := of_decide_eq_true (by first | (with_reducible assumption) | assumption)
                          have q233 : x5_1 < (t225.length : Int) := of_decide_eq_true (by first | (with_reducible assumption) | assumption)
                          obtain ⟨ad233, e233, hx233_0⟩ := Kd.at_string (Kd.R_reads' HO_3.out).2.2 x5_1 p233 q233
                          obtain rfl : ad231 = ad233 := (by injection e233)
                          replace p233 := eq_true p233
                          replace q233 := eq_true q233
                          have p234 : 0 ≤ ((ji17) : Int) := of_decide_eq_true (by first | (with_reducible assumption) | assumption)
                          have q234 : (ji17) < (t225.length : Int) := of_decide_eq_true (by first | (with_reducible assumption) | assumption)
                          obtain ⟨ad234, e234, hx234_0⟩ := Kd.at_string (Kd.R_reads' HO_3.out).2.2 (ji17) p234 q234
                          obtain rfl : ad231 = ad234 := (by injection e234)
                          replace p234 := eq_true p234
                          replace q234 := eq_true q234
                          go_wp2
                          repeat (go_quiet (fail); try go_wp2)
                          go_roundg k1
                          case measure => have := HK1.out; omega
                          case rel => exact ⟨(wrap64 (x5_1 + 1)), (by first | rfl | (simp; done) | (simp [*]; done)), H', ⟨by have := HK1.out; omega⟩, ⟨by (with_reducible repeat (first | apply Kd.R_alloc | apply Kd.R_drewN | apply Kd.R_drew)); exact HO_3.out⟩, ⟨by (with_reducible repeat (first | apply Kd.V_alloc | apply Kd.V_drewN | apply Kd.V_drew)); exact HO_4.out⟩, ⟨by repeat (first | (with_reducible first | exact HB.out | apply below_alloc | apply pw_below_drewN | apply below_drew1) | exact HB.out)⟩⟩
                      · rw [if_neg c19] at H
                        exact absurd H (by simp)
                    · rw [if_neg c18] at H
                      exact absurd H (by simp)
                  · rw [if_neg c16] at H
                    have c16b0 : decide (0 < x5_1) = false := decide_eq_false c16
                    clear c16
                    have H' := Aside0.mk H
                    clear H
                    have p231 : 0 ≤ (x5_1 : Int) := of_decide_eq_true (by first | (with_reducible assumption) | assumption)
                    have q231 : x5_1 < (t225.length : Int) := of_decide_eq_true (by first | (with_reducible assumption) | assumption)
                    obtain ⟨ad231, e231, hx231_0⟩ := Kd.at_string (Kd.R_reads' HO_3.out).2.2 x5_1 p231 q231
                    cases e231
                    replace p231 := eq_true p231
                    replace q231 := eq_true q231
                    have p232 : 0 ≤ (x5_1 : Int) := of_decide_eq_true (by first | (with_reducible assumption) | assumption)
                    have q232 : x5_1 < (t228.length : Int) := of_decide_eq_true (by first | (with_reducible assumption) | assumption)
                    obtain ⟨ad232, e232, hx232_0⟩ := Kd.at_string (Kd.V_reads' HO_4.out).2.2 x5_1 p232 q232
                    cases e232
                    replace p232 := eq_true p232
                    replace q232 := eq_true q232
                    go_wp2
                    repeat (go_quiet (fail); try go_wp2)
                    go_roundg k1
                    case measure => have := HK1.out; omega
                    case rel => exact ⟨(wrap64 (x5_1 + 1)), (by first | rfl | (simp; done) | (simp [*]; done)), H', ⟨by have := HK1.out; omega⟩, ⟨by (with_reducible repeat (first | apply Kd.R_alloc | apply Kd.R_drewN | apply Kd.R_drew)); exact HO_3.out⟩, ⟨by (with_reducible repeat (first | apply Kd.V_alloc | apply Kd.V_drewN | apply Kd.V_drew)); exact HO_4.out⟩, ⟨by repeat (first | (with_reducible first | exact HB.out | apply below_alloc | apply pw_below_drewN | apply below_drew1) | exact HB.out)⟩⟩
                · rw [if_neg c15] at H
                  have c15b0 : ((rdOf ByteArray.empty t225 x5_1).toList == (rdOf ByteArray.empty t228 x5_1).toList) = false := beq_eq_false_iff_ne.mpr c15
                  have c15b1 : ((rdOf ByteArray.empty t225 x5_1).toList != (rdOf ByteArray.empty t228 x5_1).toList) = true := bne_iff_ne.mpr c15
                  exact absurd (HR_.out.symm.trans (Option.some.inj H).symm) (by decide)
              · rw [if_neg c14] at H
                exact absurd H (by simp)
            · rw [if_neg c13] at H
              exact absurd H (by simp)
          · rw [if_neg c12] at H
            have c12b0 : decide (x5_1 < (t225.length : Int)) = false := decide_eq_false c12
            clear c12
            obtain rfl := Option.some.inj H
            go_wp2
            repeat (go_quiet (fail); try go_wp2)
            go_ret
            exact ⟨by first | rfl | (simp [errW_none, errW_some] <;> rfl) | (simp [*, errW_none, errW_some] <;> rfl), by repeat (first | (with_reducible first | exact HB.out | apply below_alloc | apply pw_below_drewN | apply below_drew1) | exact HB.out)⟩
    · rw [if_neg c6] at H
      have c6b0 : ((t225.length : Int) == (t228.length : Int)) = false := beq_eq_false_iff_ne.mpr c6
      have c6b1 : ((t225.length : Int) != (t228.length : Int)) = true := bne_iff_ne.mpr c6
      have c6b2 : (t225.length == t228.length) = false := by first | simpa using c6 | (simp at c6 ⊢; omega)
      exact absurd (HR_.out.symm.trans (Option.some.inj H).symm) (by decide)
  · replace c3 := Bool.eq_false_iff.mpr c3
    subst c3
    have H1 : (some false) = some r := by rw [if_neg (show ¬ (false = true) by decide)] at H; exact H
    clear H
    have H := H1
    clear H1
    exact absurd (HR_.out.symm.trans (Option.some.inj H).symm) (by decide)

/-- THE ONE PURE STATEMENT of fascinelaw05_WordsTerms: yours. -/
def fascinelaw05_WordsTerms.Pure : Prop := ∀ (a0 : ByteArray), a0.size ≤ 140737488351232 → ∃ k, fascinelaw05_WordsTerms.f k a0 = some true
theorem fascinelaw05_WordsTerms.walk (P : fascinelaw05_WordsTerms.Pure) (a0 : ByteArray) (w : World) (hT : tabs w) (w0 : a0.size ≤ 140737488351232) :
    Calls Tryd.prog 3 #[.string a0] w fun e w' => e = .returned (.bool true) ∧ Below w.heap.size w w' := by
  obtain ⟨k, h⟩ := P a0 w0
  refine (fascinelaw05_WordsTerms.calls k a0 true w hT h rfl).mono ?_
  rintro e w' ⟨rfl, hd⟩
  exact ⟨rfl, hd⟩

end Go.Proofs.YtpkjfpapjcmhdaaDoor.PWordsTerms
