-- WRITTEN BY A PROGRAM OF THIS SESSION (wip/patch_print.py: the kit's printer with rules of this session's own); Lean checks it.
import Derived.Laws.Cover1
import Derived.Test.YtpkjfpapjcmhdaaDoorPWordsJoinx0
import Derived.Test.YtpkjfpapjcmhdaaDoorPWordsJoinx1
import Derived.Test.YtpkjfpapjcmhdaaDoorPWordsJoinx2
import Derived.Test.YtpkjfpapjcmhdaaDoorPWordsJoinx3
namespace Go.Proofs.YtpkjfpapjcmhdaaDoor.PWordsJoin
open Go.RowKit Go.Proofs.YtpkjfpapjcmhdaaDoorW.PrintWords Go.Proofs.YtpkjfpapjcmhdaaDoorW.PrintLast Go.Proofs.YtpkjfpapjcmhdaaDoorW.PrintMore
open Go.Proofs.YtpkjfpapjcmhdaaDoor.G
attribute [local go_sem] max2_int min2_int max_two min_two max_three min_three max_four min_four   -- for this text's walks alone
set_option linter.unusedVariables false
set_option linter.unusedSimpArgs false

/-! ### fascinelaw05_WordsJoin: function 5 -/
mutual
def fascinelaw05_WordsJoin.l0 : Nat → ByteArray → ByteArray → List ByteArray → List ByteArray → List ByteArray → Int → Int → Option (Bool)
  | 0, _, _, _, _, _, _, _ => none
  | k + 1, x0, x1, x5, x6, x7, x8, x9 => if x9 < (x7.length : Int) then (if 0 ≤ x9 then ((fascinelaw05_in.f k x5 (rdOf ByteArray.empty x7 x9)).bind fun t190 => ((fascinelaw05_in.f k x6 (rdOf ByteArray.empty x7 x9)).bind fun t192 => (if t190 = true then (fascinelaw05_WordsJoin.j1 k x0 x1 x5 x6 x7 x8 x9 t190 t192 false) else (fascinelaw05_WordsJoin.j1 k x0 x1 x5 x6 x7 x8 x9 t190 t192 (!t192))))) else (none)) else (if (x7.length : Int) = (wrap64 ((wrap64 ((x5.length : Int) + (x6.length : Int))) - x8)) then ((fascineref05_Words.f k x0).bind fun t180 => ((fascineref05_Words.f k x1).bind fun t183 => (if x0.size + 1 ≤ 9223372036854775807 then (if x0.size + 1 + x1.size ≤ 9223372036854775807 then ((words_Words.f k ((x0 ++ (⟨#[32]⟩ : ByteArray)) ++ x1)).bind fun t186 => (some ((wrap64 ((t180.length : Int) + (t183.length : Int))) == (t186.length : Int)))) else (none)) else (none)))) else (some false))
def fascinelaw05_WordsJoin.j1 : Nat → ByteArray → ByteArray → List ByteArray → List ByteArray → List ByteArray → Int → Int → Bool → Bool → Bool → Option (Bool)
  | 0, _, _, _, _, _, _, _, _, _, _ => none
  | k + 1, x0, x1, x5, x6, x7, x8, x9, x10, x11, x46 => if x46 = true then (some false) else (if x10 = true then (if x11 = true then (fascinelaw05_WordsJoin.l0 k x0 x1 x5 x6 x7 (wrap64 (x8 + 1)) (wrap64 (x9 + 1))) else (fascinelaw05_WordsJoin.l0 k x0 x1 x5 x6 x7 x8 (wrap64 (x9 + 1)))) else (fascinelaw05_WordsJoin.l0 k x0 x1 x5 x6 x7 x8 (wrap64 (x9 + 1))))
end
def fascinelaw05_WordsJoin.f (k : Nat) (a0 : ByteArray) (a1 : ByteArray) : Option (Bool) := (fascinelaw05_awake.f k).bind fun t170 => (if t170 = true then ((words_Terms.f k a0).bind fun t171 => ((words_Terms.f k a1).bind fun t174 => (if a0.size + 1 ≤ 9223372036854775807 then (if a0.size + 1 + a1.size ≤ 9223372036854775807 then ((words_Terms.f k ((a0 ++ (⟨#[32]⟩ : ByteArray)) ++ a1)).bind fun t177 => (fascinelaw05_WordsJoin.l0 k a0 a1 t171 t174 t177 0 0)) else (none)) else (none)))) else (some false))
theorem fascinelaw05_WordsJoin.mono_l : ∀ k, (∀ y0 y1 y2 y3 y4 y5 y6, LeO (fascinelaw05_WordsJoin.l0 k y0 y1 y2 y3 y4 y5 y6) (fascinelaw05_WordsJoin.l0 (k + 1) y0 y1 y2 y3 y4 y5 y6)) ∧ (∀ y0 y1 y2 y3 y4 y5 y6 y7 y8 y9, LeO (fascinelaw05_WordsJoin.j1 k y0 y1 y2 y3 y4 y5 y6 y7 y8 y9) (fascinelaw05_WordsJoin.j1 (k + 1) y0 y1 y2 y3 y4 y5 y6 y7 y8 y9))
  | 0 => ⟨fun _ _ _ _ _ _ _ r h => by simp [fascinelaw05_WordsJoin.l0] at h, fun _ _ _ _ _ _ _ _ _ _ r h => by simp [fascinelaw05_WordsJoin.j1] at h⟩
  | k + 1 => by
    obtain ⟨ih0, ih1⟩ := fascinelaw05_WordsJoin.mono_l k
    refine ⟨?_, ?_⟩
    · intro y0 y1 y2 y3 y4 y5 y6
      unfold fascinelaw05_WordsJoin.l0
      repeat' first
      | (with_reducible exact ih0 _ _ _ _ _ _ _)
      | (with_reducible exact ih1 _ _ _ _ _ _ _ _ _ _)
      | (with_reducible exact fascinelaw05_awake.mono _)
      | (with_reducible exact fascinelaw05_in.mono _ _ _)
      | (with_reducible exact fascineref05_Words.mono _ _)
      | (with_reducible exact words_Terms.mono _ _)
      | (with_reducible exact words_Words.mono _ _)
      | (with_reducible exact LeO.refl _)
      | (with_reducible exact LeO.none _)
      | (with_reducible refine LeO.ite ?_ ?_)
      | (with_reducible refine LeO.bind ?_ (fun _ => ?_))
      | exact ih0 _ _ _ _ _ _ _
      | exact ih1 _ _ _ _ _ _ _ _ _ _
      | exact fascinelaw05_awake.mono _
      | exact fascinelaw05_in.mono _ _ _
      | exact fascineref05_Words.mono _ _
      | exact words_Terms.mono _ _
      | exact words_Words.mono _ _
      | exact LeO.none _
      | refine LeO.ite ?_ ?_
      | refine LeO.bind ?_ (fun _ => ?_)
    · intro y0 y1 y2 y3 y4 y5 y6 y7 y8 y9
      unfold fascinelaw05_WordsJoin.j1
      repeat' first
      | (with_reducible exact ih0 _ _ _ _ _ _ _)
      | (with_reducible exact ih1 _ _ _ _ _ _ _ _ _ _)
      | (with_reducible exact fascinelaw05_awake.mono _)
      | (with_reducible exact fascinelaw05_in.mono _ _ _)
      | (with_reducible exact fascineref05_Words.mono _ _)
      | (with_reducible exact words_Terms.mono _ _)
      | (with_reducible exact words_Words.mono _ _)
      | (with_reducible exact LeO.refl _)
      | (with_reducible exact LeO.none _)
      | (with_reducible refine LeO.ite ?_ ?_)
      | (with_reducible refine LeO.bind ?_ (fun _ => ?_))
      | exact ih0 _ _ _ _ _ _ _
      | exact ih1 _ _ _ _ _ _ _ _ _ _
      | exact fascinelaw05_awake.mono _
      | exact fascinelaw05_in.mono _ _ _
      | exact fascineref05_Words.mono _ _
      | exact words_Terms.mono _ _
      | exact words_Words.mono _ _
      | exact LeO.none _
      | refine LeO.ite ?_ ?_
      | refine LeO.bind ?_ (fun _ => ?_)
theorem fascinelaw05_WordsJoin.mono : ∀ a0 a1 k, LeO (fascinelaw05_WordsJoin.f k a0 a1) (fascinelaw05_WordsJoin.f (k + 1) a0 a1) := by
  intro a0 a1 k
  obtain ⟨ih0, ih1⟩ := fascinelaw05_WordsJoin.mono_l k
  unfold fascinelaw05_WordsJoin.f
  repeat' first
      | (with_reducible exact ih0 _ _ _ _ _ _ _)
      | (with_reducible exact ih1 _ _ _ _ _ _ _ _ _ _)
      | (with_reducible exact fascinelaw05_awake.mono _)
      | (with_reducible exact fascinelaw05_in.mono _ _ _)
      | (with_reducible exact fascineref05_Words.mono _ _)
      | (with_reducible exact words_Terms.mono _ _)
      | (with_reducible exact words_Words.mono _ _)
      | (with_reducible exact LeO.refl _)
      | (with_reducible exact LeO.none _)
      | (with_reducible refine LeO.ite ?_ ?_)
      | (with_reducible refine LeO.bind ?_ (fun _ => ?_))
      | exact ih0 _ _ _ _ _ _ _
      | exact ih1 _ _ _ _ _ _ _ _ _ _
      | exact fascinelaw05_awake.mono _
      | exact fascinelaw05_in.mono _ _ _
      | exact fascineref05_Words.mono _ _
      | exact words_Terms.mono _ _
      | exact words_Words.mono _ _
      | exact LeO.none _
      | refine LeO.ite ?_ ?_
      | refine LeO.bind ?_ (fun _ => ?_)
set_option maxHeartbeats 8000000 in
set_option maxRecDepth 100000 in
theorem fascinelaw05_WordsJoin.calls (k : Nat) (a0 : ByteArray) (a1 : ByteArray) (r : Bool) (w : World) (hT : tabs w) (h : fascinelaw05_WordsJoin.f k a0 a1 = some r) (hr_ : r = true) :
    Calls Tryd.prog 5 #[.string a0, .string a1] w fun e w' => e = .returned (.bool r) ∧ Below w.heap.size w w' := by
  have HR_ := Aside0.mk hr_
  clear hr_
  have HT := Aside0.mk hT
  clear hT
  have HB := Aside0.mk (Below.refl w.heap.size w)
  have H : ((fascinelaw05_awake.f k).bind fun t170 => (if t170 = true then ((words_Terms.f k a0).bind fun t171 => ((words_Terms.f k a1).bind fun t174 => (if a0.size + 1 ≤ 9223372036854775807 then (if a0.size + 1 + a1.size ≤ 9223372036854775807 then ((words_Terms.f k ((a0 ++ (⟨#[32]⟩ : ByteArray)) ++ a1)).bind fun t177 => (fascinelaw05_WordsJoin.l0 k a0 a1 t171 t174 t177 0 0)) else (none)) else (none)))) else (some false))) = some r := h
  clear h
  replace H := Option.bind_eq_some_iff.mp H
  obtain ⟨t170, A30, H⟩ := H
  replace H : (if t170 = true then ((words_Terms.f k a0).bind fun t171 => ((words_Terms.f k a1).bind fun t174 => (if a0.size + 1 ≤ 9223372036854775807 then (if a0.size + 1 + a1.size ≤ 9223372036854775807 then ((words_Terms.f k ((a0 ++ (⟨#[32]⟩ : ByteArray)) ++ a1)).bind fun t177 => (fascinelaw05_WordsJoin.l0 k a0 a1 t171 t174 t177 0 0)) else (none)) else (none)))) else (some false)) = some r := H
  have A3 := Aside0.mk A30
  clear A30
  by_cases c4 : t170 = true
  · subst c4
    have H1 : ((words_Terms.f k a0).bind fun t171 => ((words_Terms.f k a1).bind fun t174 => (if a0.size + 1 ≤ 9223372036854775807 then (if a0.size + 1 + a1.size ≤ 9223372036854775807 then ((words_Terms.f k ((a0 ++ (⟨#[32]⟩ : ByteArray)) ++ a1)).bind fun t177 => (fascinelaw05_WordsJoin.l0 k a0 a1 t171 t174 t177 0 0)) else (none)) else (none)))) = some r := by rw [if_pos rfl] at H; exact H
    clear H
    have H := H1
    clear H1
    replace H := Option.bind_eq_some_iff.mp H
    obtain ⟨t171, A50, H⟩ := H
    replace H : ((words_Terms.f k a1).bind fun t174 => (if a0.size + 1 ≤ 9223372036854775807 then (if a0.size + 1 + a1.size ≤ 9223372036854775807 then ((words_Terms.f k ((a0 ++ (⟨#[32]⟩ : ByteArray)) ++ a1)).bind fun t177 => (fascinelaw05_WordsJoin.l0 k a0 a1 t171 t174 t177 0 0)) else (none)) else (none))) = some r := H
    have A5 := Aside0.mk A50
    clear A50
    replace H := Option.bind_eq_some_iff.mp H
    obtain ⟨t174, A60, H⟩ := H
    replace H : (if a0.size + 1 ≤ 9223372036854775807 then (if a0.size + 1 + a1.size ≤ 9223372036854775807 then ((words_Terms.f k ((a0 ++ (⟨#[32]⟩ : ByteArray)) ++ a1)).bind fun t177 => (fascinelaw05_WordsJoin.l0 k a0 a1 t171 t174 t177 0 0)) else (none)) else (none)) = some r := H
    have A6 := Aside0.mk A60
    clear A60
    by_cases c7 : a0.size + 1 ≤ 9223372036854775807
    · rw [if_pos c7] at H
      have c7b0 := eq_true c7
      have c7b1 : decide (a0.size + 1 ≤ 9223372036854775807) = true := decide_eq_true c7
      try have c7b2 : (9223372036854775807 < a0.size + 1) = False := eq_false (Nat.not_lt.2 c7)
      by_cases c8 : a0.size + 1 + a1.size ≤ 9223372036854775807
      · rw [if_pos c8] at H
        have c8b0 := eq_true c8
        have c8b1 : decide (a0.size + 1 + a1.size ≤ 9223372036854775807) = true := decide_eq_true c8
        try have c8b2 : (9223372036854775807 < a0.size + 1 + a1.size) = False := eq_false (Nat.not_lt.2 c8)
        replace H := Option.bind_eq_some_iff.mp H
        obtain ⟨t177, A90, H⟩ := H
        replace H : (fascinelaw05_WordsJoin.l0 k a0 a1 t171 t174 t177 0 0) = some r := H
        have A9 := Aside0.mk A90
        clear A90
        have H' := Aside0.mk H
        clear H
        go_enter Tryd.func5, Tryd.ntmps5
        go_wp2_with (first | ((with_reducible refine gate_callee (f := 11) rfl ?_); refine goesL_ (some 12) rfl rfl Tryd.func11 (by kernel_rfl) rfl #[] rfl (by (try simp only [List.map_toArray, List.map_cons, List.map_nil]); first | done | rfl | (simp only [List.length_drop, List.length_take]; rfl)) ?_; (with_reducible refine (fascinelaw05_awake.calls k  true _ ?side1 A3.out).mono ?_); (case side1 => first | exact HT.out | exact tabs_below HT.out (by repeat (first | (with_reducible first | exact HB.out | apply below_alloc | apply pw_below_drewN | apply below_drew1) | exact HB.out))); rintro e w10 ⟨rfl, hb⟩; refine ⟨_, rfl, ?_⟩; have n0_ := Aside0.mk (below_step (by repeat (first | (with_reducible first | exact HB.out | apply below_alloc | apply pw_below_drewN | apply below_drew1) | exact HB.out)) hb); clear HB; have HB := n0_; clear n0_; (try clear hb); (try clear hb2); (try clear hk); (try clear hi)) | ((with_reducible refine gate_callee (f := 12) rfl ?_); refine goesL_ (some 15) rfl rfl Tryd.func12 (by kernel_rfl) rfl #[.string a0] rfl (by (try simp only [List.map_toArray, List.map_cons, List.map_nil]); first | done | rfl | (simp only [List.length_drop, List.length_take]; rfl)) ?_; (with_reducible refine (words_Terms.calls k a0 t171 _ ?side1 A5.out).mono ?_); (case side1 => first | exact HT.out | exact tabs_below HT.out (by repeat (first | (with_reducible first | exact HB.out | apply below_alloc | apply pw_below_drewN | apply below_drew1) | exact HB.out))); rintro e w11 ⟨v172, rfl, ho0, hb⟩; refine ⟨_, rfl, ?_⟩; have n0_ := Aside0.mk (Kd.R_lower ho0 (below_size (by repeat (first | (with_reducible first | exact HB.out | apply below_alloc | apply pw_below_drewN | apply below_drew1) | exact HB.out)))); have n1_ := Aside0.mk (below_step (by repeat (first | (with_reducible first | exact HB.out | apply below_alloc | apply pw_below_drewN | apply below_drew1) | exact HB.out)) hb); clear HB; have HO173 := n0_; have HB := n1_; clear n0_ n1_; (try clear hb); (try clear hb2); (try clear hk); (try clear hi); (try clear ho0)) | ((with_reducible refine gate_callee (f := 12) rfl ?_); refine goesL_ (some 17) rfl rfl Tryd.func12 (by kernel_rfl) rfl #[.string a1] rfl (by (try simp only [List.map_toArray, List.map_cons, List.map_nil]); first | done | rfl | (simp only [List.length_drop, List.length_take]; rfl)) ?_; (with_reducible refine (words_Terms.calls k a1 t174 _ ?side1 A6.out).mono ?_); (case side1 => first | exact HT.out | exact tabs_below HT.out (by repeat (first | (with_reducible first | exact HB.out | apply below_alloc | apply pw_below_drewN | apply below_drew1) | exact HB.out))); rintro e w12 ⟨v175, rfl, ho0, hb⟩; refine ⟨_, rfl, ?_⟩; have n0_ := Aside0.mk (Kd.R_elder' (by (with_reducible repeat (first | apply Kd.R_alloc | apply Kd.R_drewN | apply Kd.R_drew)); exact HO173.out) (Kd.R_base ho0) hb); have n1_ := Aside0.mk (Kd.R_lower (Kd.R_new' ho0 (Kd.R_lt (by (with_reducible repeat (first | apply Kd.R_alloc | apply Kd.R_drewN | apply Kd.R_drew)); exact HO173.out))) (below_size (by repeat (first | (with_reducible first | exact HB.out | apply below_alloc | apply pw_below_drewN | apply below_drew1) | exact HB.out)))); have n2_ := Aside0.mk (below_step (by repeat (first | (with_reducible first | exact HB.out | apply below_alloc | apply pw_below_drewN | apply below_drew1) | exact HB.out)) hb); clear HO173; clear HB; have HO173 := n0_; have HO176 := n1_; have HB := n2_; clear n0_ n1_ n2_; (try clear hb); (try clear hb2); (try clear hk); (try clear hi); (try clear ho0)) | ((with_reducible refine gate_callee (f := 12) rfl ?_); refine goesL_ (some 22) rfl rfl Tryd.func12 (by kernel_rfl) rfl #[.string ((a0 ++ (⟨#[32]⟩ : ByteArray)) ++ a1)] rfl (by (try simp only [List.map_toArray, List.map_cons, List.map_nil]); first | done | rfl | (simp only [List.length_drop, List.length_take]; rfl)) ?_; (with_reducible refine (words_Terms.calls k ((a0 ++ (⟨#[32]⟩ : ByteArray)) ++ a1) t177 _ ?side1 A9.out).mono ?_); (case side1 => first | exact HT.out | exact tabs_below HT.out (by repeat (first | (with_reducible first | exact HB.out | apply below_alloc | apply pw_below_drewN | apply below_drew1) | exact HB.out))); rintro e w13 ⟨v178, rfl, ho0, hb⟩; refine ⟨_, rfl, ?_⟩; have n0_ := Aside0.mk (Kd.R_elder' (by (with_reducible repeat (first | apply Kd.R_alloc | apply Kd.R_drewN | apply Kd.R_drew)); exact HO173.out) (Kd.R_base ho0) hb); have n1_ := Aside0.mk (Kd.R_elder' (by (with_reducible repeat (first | apply Kd.R_alloc | apply Kd.R_drewN | apply Kd.R_drew)); exact HO176.out) (Kd.R_base ho0) hb); have n2_ := Aside0.mk (Kd.R_lower (Kd.R_new' (Kd.R_new' ho0 (Kd.R_lt (by (with_reducible repeat (first | apply Kd.R_alloc | apply Kd.R_drewN | apply Kd.R_drew)); exact HO173.out))) (Kd.R_lt (by (with_reducible repeat (first | apply Kd.R_alloc | apply Kd.R_drewN | apply Kd.R_drew)); exact HO176.out))) (below_size (by repeat (first | (with_reducible first | exact HB.out | apply below_alloc | apply pw_below_drewN | apply below_drew1) | exact HB.out)))); have n3_ := Aside0.mk (below_step (by repeat (first | (with_reducible first | exact HB.out | apply below_alloc | apply pw_below_drewN | apply below_drew1) | exact HB.out)) hb); clear HO173; clear HO176; clear HB; have HO173 := n0_; have HO176 := n1_; have HO179 := n2_; have HB := n3_; clear n0_ n1_ n2_ n3_; (try clear hb); (try clear hb2); (try clear hk); (try clear hi); (try clear ho0)))
        go_loopg [8, 9] k (fun kq v8 v9 w' => ∃ (x8_1 : Int) (x9_1 : Int), v8 = .int .i64 x8_1 ∧ v9 = .int .i64 x9_1 ∧ Aside0 (fascinelaw05_WordsJoin.l0 kq a0 a1 t171 t174 t177 x8_1 x9_1 = some r) ∧ Aside0 (kq ≤ k) ∧ Aside0 (Kd.R Kd.string 9 w' w.heap.size (fun k_ => some k_ ≠ (v175 : Value).ownBlock ∧ some k_ ≠ (v178 : Value).ownBlock) v172 t171) ∧ Aside0 (Kd.R Kd.string 9 w' w.heap.size (fun k_ => some k_ ≠ (v172 : Value).ownBlock ∧ some k_ ≠ (v178 : Value).ownBlock) v175 t174) ∧ Aside0 (Kd.R Kd.string 9 w' w.heap.size (fun k_ => some k_ ≠ (v172 : Value).ownBlock ∧ some k_ ≠ (v175 : Value).ownBlock) v178 t177) ∧ Aside0 (Below w.heap.size w w'))
        case atStart => exact ⟨(0), (0), (by first | rfl | (simp; done) | (simp [*]; done)), (by first | rfl | (simp; done) | (simp [*]; done)), H', ⟨Nat.le_refl _⟩, ⟨by (with_reducible repeat (first | apply Kd.R_alloc | apply Kd.R_drewN | apply Kd.R_drew)); exact Kd.R_mono HO173.out (fun _ hk => ⟨hk.1.2, hk.2⟩)⟩, ⟨by (with_reducible repeat (first | apply Kd.R_alloc | apply Kd.R_drewN | apply Kd.R_drew)); exact Kd.R_mono HO176.out (fun _ hk => ⟨hk.1.2, hk.2⟩)⟩, ⟨by (with_reducible repeat (first | apply Kd.R_alloc | apply Kd.R_drewN | apply Kd.R_drew)); exact Kd.R_mono HO179.out (fun _ hk => ⟨hk.1.2, hk.2⟩)⟩, ⟨by repeat (first | (with_reducible first | exact HB.out | apply below_alloc | apply pw_below_drewN | apply below_drew1) | exact HB.out)⟩⟩
        case round =>
          clear H'
          try clear c1
          try clear p2
          try clear c4
          try clear c5
          try clear c7
          try clear c7b0
          try clear c7b1
          try clear c7b2
          try clear c8
          try clear c8b0
          try clear c8b1
          try clear c8b2
          try clear c11
          try clear c12
          obtain ⟨x8_1, x9_1, rfl, rfl, HA, HK1, HO_5, HO_6, HO_7, HB⟩ := hrel
          cases gk with
          | zero => exact absurd HA.out (by simp [fascinelaw05_WordsJoin.l0])
          | succ k1 =>
            have H := HA.out
            clear HA
            simp only [fascinelaw05_WordsJoin.l0] at H
            by_cases c14 : x9_1 < (t177.length : Int)
            · rw [if_pos c14] at H
              have c14b0 : decide (x9_1 < (t177.length : Int)) = true := decide_eq_true c14
              clear c14
              by_cases c15 : 0 ≤ x9_1
              · rw [if_pos c15] at H
                have c15b0 : decide (0 ≤ x9_1) = true := decide_eq_true c15
                clear c15
                replace H := Option.bind_eq_some_iff.mp H
                obtain ⟨t190, A160, H⟩ := H
                replace H : ((fascinelaw05_in.f k1 t174 (rdOf ByteArray.empty t177 x9_1)).bind fun t192 => (if t190 = true then (fascinelaw05_WordsJoin.j1 k1 a0 a1 t171 t174 t177 x8_1 x9_1 t190 t192 false) else (fascinelaw05_WordsJoin.j1 k1 a0 a1 t171 t174 t177 x8_1 x9_1 t190 t192 (!t192)))) = some r := H
                have A16 := Aside0.mk A160
                clear A160
                replace H := Option.bind_eq_some_iff.mp H
                obtain ⟨t192, A170, H⟩ := H
                replace H : (if t190 = true then (fascinelaw05_WordsJoin.j1 k1 a0 a1 t171 t174 t177 x8_1 x9_1 t190 t192 false) else (fascinelaw05_WordsJoin.j1 k1 a0 a1 t171 t174 t177 x8_1 x9_1 t190 t192 (!t192))) = some r := H
                have A17 := Aside0.mk A170
                clear A170
                have HC18 := Aside0.mk H
                clear H
                obtain ⟨Ao19, co19, eo19⟩ := Kd.R_slice HO_7.out
                subst eo19
                have p189 : 0 ≤ (x9_1 : Int) := of_decide_eq_true (by first | (with_reducible assumption) | assumption)
                have q189 : x9_1 < (t177.length : Int) := of_decide_eq_true (by first | (with_reducible assumption) | assumption)
                obtain ⟨ad189, e189, hx189_0⟩ := Kd.at_string (Kd.R_reads' HO_7.out).2.2 x9_1 p189 q189
                cases e189
                replace p189 := eq_true p189
                replace q189 := eq_true q189
                obtain ⟨Ao20, co20, eo20⟩ := Kd.R_slice HO_5.out
                subst eo20
                go_upto_region 12 with (first | ((with_reducible refine gate_callee (f := 15) rfl ?_); refine goesL_ (some 34) rfl rfl Tryd.func15 (by kernel_rfl) rfl #[.slice Ao20 t171.length co20, .string (rdOf ByteArray.empty t177 x9_1)] rfl (by (try simp only [List.map_toArray, List.map_cons, List.map_nil]); first | done | rfl | (simp only [List.length_drop, List.length_take]; rfl)) ?_; (with_reducible refine (fascinelaw05_in.calls k1 _ _ t171 (rdOf ByteArray.empty t177 x9_1) t190 _ ?side1 ?side2 A16.out).mono ?_); (case side1 => repeat (first | exact (Kd.R_reads' HO_5.out).2.2 | (with_reducible refine Kd.C_alloc ?_ _) | (with_reducible refine Kd.C_drewN ?_ _) | (with_reducible refine Kd.C_drew ?_))); (case side2 => exact (Kd.R_reads' HO_5.out).2.1); rintro e w' ⟨rfl, ⟨nd, rfl⟩⟩; refine ⟨_, rfl, ?_⟩; have p191 : 0 ≤ (x9_1 : Int) := of_decide_eq_true (by first | (with_reducible assumption) | assumption); have q191 : x9_1 < (t177.length : Int) := of_decide_eq_true (by first | (with_reducible assumption) | assumption); obtain ⟨ad191, e191, hx191_0⟩ := Kd.at_string (Kd.R_reads' HO_7.out).2.2 x9_1 p191 q191; obtain rfl : ad189 = ad191 := (by injection e191); replace p191 := eq_true p191; replace q191 := eq_true q191; obtain ⟨Ao21, co21, eo21⟩ := Kd.R_slice HO_6.out; subst eo21) | ((with_reducible refine gate_callee (f := 15) rfl ?_); refine goesL_ (some 40) rfl rfl Tryd.func15 (by kernel_rfl) rfl #[.slice Ao21 t174.length co21, .string (rdOf ByteArray.empty t177 x9_1)] rfl (by (try simp only [List.map_toArray, List.map_cons, List.map_nil]); first | done | rfl | (simp only [List.length_drop, List.length_take]; rfl)) ?_; (with_reducible refine (fascinelaw05_in.calls k1 _ _ t174 (rdOf ByteArray.empty t177 x9_1) t192 _ ?side1 ?side2 A17.out).mono ?_); (case side1 => repeat (first | exact (Kd.R_reads' HO_6.out).2.2 | (with_reducible refine Kd.C_alloc ?_ _) | (with_reducible refine Kd.C_drewN ?_ _) | (with_reducible refine Kd.C_drew ?_))); (case side2 => exact (Kd.R_reads' HO_6.out).2.1); rintro e w' ⟨rfl, ⟨nd, rfl⟩⟩; refine ⟨_, rfl, ?_⟩))
                (try simp only [Act.put, List.setIfInBounds_toArray, List.set_cons_zero, List.set_cons_succ])
                go_cut [46] (fun v46 wc => ∃ (kq : Nat) (x46_17 : Bool), v46 = .bool x46_17 ∧ Aside0 (fascinelaw05_WordsJoin.j1 kq a0 a1 t171 t174 t177 x8_1 x9_1 t190 t192 x46_17 = some r) ∧ Aside0 (kq ≤ k1) ∧ Aside0 (Kd.R Kd.string 9 wc w.heap.size (fun k_ => some k_ ≠ ((.slice Ao21 t174.length co21) : Value).ownBlock ∧ some k_ ≠ ((.slice (some ad189) t177.length co19) : Value).ownBlock) (.slice Ao20 t171.length co20) t171) ∧ Aside0 (Kd.R Kd.string 9 wc w.heap.size (fun k_ => some k_ ≠ ((.slice Ao20 t171.length co20) : Value).ownBlock ∧ some k_ ≠ ((.slice (some ad189) t177.length co19) : Value).ownBlock) (.slice Ao21 t174.length co21) t174) ∧ Aside0 (Kd.R Kd.string 9 wc w.heap.size (fun k_ => some k_ ≠ ((.slice Ao20 t171.length co20) : Value).ownBlock ∧ some k_ ≠ ((.slice Ao21 t174.length co21) : Value).ownBlock) (.slice (some ad189) t177.length co19) t177) ∧ Aside0 (Below w.heap.size w wc))
                case first =>
                  have H := HC18.out
                  clear HC18
                  by_cases c22 : t190 = true
                  · subst c22
                    have H1 : (fascinelaw05_WordsJoin.j1 k1 a0 a1 t171 t174 t177 x8_1 x9_1 true t192 false) = some r := by rw [if_pos rfl] at H; exact H
                    clear H
                    have H := H1
                    clear H1
                    have H' := Aside0.mk H
                    clear H
                    go_wp2
                    go_meet
                    case rel => exact ⟨_, (false), (by first | rfl | (simp; done) | (simp [*]; done)), H', ⟨by have := HK1.out; first | omega | exact Nat.le_refl _⟩, ⟨by (with_reducible repeat (first | apply Kd.R_alloc | apply Kd.R_drewN | apply Kd.R_drew)); exact HO_5.out⟩, ⟨by (with_reducible repeat (first | apply Kd.R_alloc | apply Kd.R_drewN | apply Kd.R_drew)); exact HO_6.out⟩, ⟨by (with_reducible repeat (first | apply Kd.R_alloc | apply Kd.R_drewN | apply Kd.R_drew)); exact HO_7.out⟩, ⟨by repeat (first | (with_reducible first | exact HB.out | apply below_alloc | apply pw_below_drewN | apply below_drew1) | exact HB.out)⟩⟩
                  · replace c22 := Bool.eq_false_iff.mpr c22
                    subst c22
                    have H1 : (fascinelaw05_WordsJoin.j1 k1 a0 a1 t171 t174 t177 x8_1 x9_1 false t192 (!t192)) = some r := by rw [if_neg (show ¬ (false = true) by decide)] at H; exact H
                    clear H
                    have H := H1
                    clear H1
                    have H' := Aside0.mk H
                    clear H
                    go_wp2
                    go_meet
                    case rel => exact ⟨_, (!t192), (by first | rfl | (simp; done) | (simp [*]; done)), H', ⟨by have := HK1.out; first | omega | exact Nat.le_refl _⟩, ⟨by (with_reducible repeat (first | apply Kd.R_alloc | apply Kd.R_drewN | apply Kd.R_drew)); exact HO_5.out⟩, ⟨by (with_reducible repeat (first | apply Kd.R_alloc | apply Kd.R_drewN | apply Kd.R_drew)); exact HO_6.out⟩, ⟨by (with_reducible repeat (first | apply Kd.R_alloc | apply Kd.R_drewN | apply Kd.R_drew)); exact HO_7.out⟩, ⟨by repeat (first | (with_reducible first | exact HB.out | apply below_alloc | apply pw_below_drewN | apply below_drew1) | exact HB.out)⟩⟩
                case rest =>
                  clear HC18
                  try clear c1
                  try clear p1
                  try clear q1
                  try clear hx1
                  try clear c2
                  try clear p2
                  try clear c4
                  try clear c5
                  try clear c7
                  try clear c7b0
                  try clear c7b1
                  try clear c7b2
                  try clear c8
                  try clear c8b0
                  try clear c8b1
                  try clear c8b2
                  try clear c11
                  try clear c12
                  try clear c14
                  try clear c14b0
                  try clear c15
                  try clear c15b0
                  try clear p18
                  try clear q18
                  try clear hx18
                  try clear p19
                  try clear q19
                  try clear hx19
                  try clear c22
                  try clear hx189_0
                  try clear hx191_0
                  try clear p189
                  try clear p191
                  try clear p2
                  try clear q189
                  try clear q191
                  obtain ⟨kq, x46_17, rfl, HA, HJ17, HO_5, HO_6, HO_7, HB⟩ := hcut
                  cases kq with
                  | zero => exact absurd HA.out (by simp [fascinelaw05_WordsJoin.j1])
                  | succ kj17 =>
                    have H := HA.out
                    clear HA
                    simp only [fascinelaw05_WordsJoin.j1] at H
                    by_cases c23 : x46_17 = true
                    · subst c23
                      have H1 : (some false) = some r := by rw [if_pos rfl] at H; exact H
                      clear H
                      have H := H1
                      clear H1
                      exact absurd (HR_.out.symm.trans (Option.some.inj H).symm) (by decide)
                    · replace c23 := Bool.eq_false_iff.mpr c23
                      subst c23
                      have H1 : (if t190 = true then (if t192 = true then (fascinelaw05_WordsJoin.l0 kj17 a0 a1 t171 t174 t177 (wrap64 (x8_1 + 1)) (wrap64 (x9_1 + 1))) else (fascinelaw05_WordsJoin.l0 kj17 a0 a1 t171 t174 t177 x8_1 (wrap64 (x9_1 + 1)))) else (fascinelaw05_WordsJoin.l0 kj17 a0 a1 t171 t174 t177 x8_1 (wrap64 (x9_1 + 1)))) = some r := by rw [if_neg (show ¬ (false = true) by decide)] at H; exact H
                      clear H
                      have H := H1
                      clear H1
                      by_cases c24 : t190 = true
                      · subst c24
                        have H1 : (if t192 = true then (fascinelaw05_WordsJoin.l0 kj17 a0 a1 t171 t174 t177 (wrap64 (x8_1 + 1)) (wrap64 (x9_1 + 1))) else (fascinelaw05_WordsJoin.l0 kj17 a0 a1 t171 t174 t177 x8_1 (wrap64 (x9_1 + 1)))) = some r := by rw [if_pos rfl] at H; exact H
                        clear H
                        have H := H1
                        clear H1
                        by_cases c25 : t192 = true
                        · subst c25
                          have H1 : (fascinelaw05_WordsJoin.l0 kj17 a0 a1 t171 t174 t177 (wrap64 (x8_1 + 1)) (wrap64 (x9_1 + 1))) = some r := by rw [if_pos rfl] at H; exact H
                          clear H
                          have H := H1
                          clear H1
                          have H' := Aside0.mk H
                          clear H
                          go_wp2
                          go_roundg kj17
                          case measure => have := HK1.out; have := HJ17.out; omega
                          case rel => exact ⟨(wrap64 (x8_1 + 1)), (wrap64 (x9_1 + 1)), (by first | rfl | (simp; done) | (simp [*]; done)), (by first | rfl | (simp; done) | (simp [*]; done)), H', ⟨by have := HK1.out; have := HJ17.out; omega⟩, ⟨by (with_reducible repeat (first | apply Kd.R_alloc | apply Kd.R_drewN | apply Kd.R_drew)); exact HO_5.out⟩, ⟨by (with_reducible repeat (first | apply Kd.R_alloc | apply Kd.R_drewN | apply Kd.R_drew)); exact HO_6.out⟩, ⟨by (with_reducible repeat (first | apply Kd.R_alloc | apply Kd.R_drewN | apply Kd.R_drew)); exact HO_7.out⟩, ⟨by repeat (first | (with_reducible first | exact HB.out | apply below_alloc | apply pw_below_drewN | apply below_drew1) | exact HB.out)⟩⟩
                        · replace c25 := Bool.eq_false_iff.mpr c25
                          subst c25
                          have H1 : (fascinelaw05_WordsJoin.l0 kj17 a0 a1 t171 t174 t177 x8_1 (wrap64 (x9_1 + 1))) = some r := by rw [if_neg (show ¬ (false = true) by decide)] at H; exact H
                          clear H
                          have H := H1
                          clear H1
                          have H' := Aside0.mk H
                          clear H
                          go_wp2
                          go_roundg kj17
                          case measure => have := HK1.out; have := HJ17.out; omega
                          case rel => exact ⟨(x8_1), (wrap64 (x9_1 + 1)), (by first | rfl | (simp; done) | (simp [*]; done)), (by first | rfl | (simp; done) | (simp [*]; done)), H', ⟨by have := HK1.out; have := HJ17.out; omega⟩, ⟨by (with_reducible repeat (first | apply Kd.R_alloc | apply Kd.R_drewN | apply Kd.R_drew)); exact HO_5.out⟩, ⟨by (with_reducible repeat (first | apply Kd.R_alloc | apply Kd.R_drewN | apply Kd.R_drew)); exact HO_6.out⟩, ⟨by (with_reducible repeat (first | apply Kd.R_alloc | apply Kd.R_drewN | apply Kd.R_drew)); exact HO_7.out⟩, ⟨by repeat (first | (with_reducible first | exact HB.out | apply below_alloc | apply pw_below_drewN | apply below_drew1) | exact HB.out)⟩⟩
                      · replace c24 := Bool.eq_false_iff.mpr c24
                        subst c24
                        have H1 : (fascinelaw05_WordsJoin.l0 kj17 a0 a1 t171 t174 t177 x8_1 (wrap64 (x9_1 + 1))) = some r := by rw [if_neg (show ¬ (false = true) by decide)] at H; exact H
                        clear H
                        have H := H1
                        clear H1
                        have H' := Aside0.mk H
                        clear H
                        go_wp2
                        go_roundg kj17
                        case measure => have := HK1.out; have := HJ17.out; omega
                        case rel => exact ⟨(x8_1), (wrap64 (x9_1 + 1)), (by first | rfl | (simp; done) | (simp [*]; done)), (by first | rfl | (simp; done) | (simp [*]; done)), H', ⟨by have := HK1.out; have := HJ17.out; omega⟩, ⟨by (with_reducible repeat (first | apply Kd.R_alloc | apply Kd.R_drewN | apply Kd.R_drew)); exact HO_5.out⟩, ⟨by (with_reducible repeat (first | apply Kd.R_alloc | apply Kd.R_drewN | apply Kd.R_drew)); exact HO_6.out⟩, ⟨by (with_reducible repeat (first | apply Kd.R_alloc | apply Kd.R_drewN | apply Kd.R_drew)); exact HO_7.out⟩, ⟨by repeat (first | (with_reducible first | exact HB.out | apply below_alloc | apply pw_below_drewN | apply below_drew1) | exact HB.out)⟩⟩
              · rw [if_neg c15] at H
                exact absurd H (by simp)
            · rw [if_neg c14] at H
              have c14b0 : decide (x9_1 < (t177.length : Int)) = false := decide_eq_false c14
              clear c14
              by_cases c26 : (t177.length : Int) = (wrap64 ((wrap64 ((t171.length : Int) + (t174.length : Int))) - x8_1))
              · rw [if_pos c26] at H
                have c26b0 : ((t177.length : Int) == (wrap64 ((wrap64 ((t171.length : Int) + (t174.length : Int))) - x8_1))) = true := beq_iff_eq.mpr c26
                have c26b1 : ((t177.length : Int) != (wrap64 ((wrap64 ((t171.length : Int) + (t174.length : Int))) - x8_1))) = false := bne_eq_false_iff_eq.mpr c26
                clear c26
                replace H := Option.bind_eq_some_iff.mp H
                obtain ⟨t180, A270, H⟩ := H
                replace H : ((fascineref05_Words.f k1 a1).bind fun t183 => (if a0.size + 1 ≤ 9223372036854775807 then (if a0.size + 1 + a1.size ≤ 9223372036854775807 then ((words_Words.f k1 ((a0 ++ (⟨#[32]⟩ : ByteArray)) ++ a1)).bind fun t186 => (some ((wrap64 ((t180.length : Int) + (t183.length : Int))) == (t186.length : Int)))) else (none)) else (none))) = some r := H
                have A27 := Aside0.mk A270
                clear A270
                replace H := Option.bind_eq_some_iff.mp H
                obtain ⟨t183, A280, H⟩ := H
                replace H : (if a0.size + 1 ≤ 9223372036854775807 then (if a0.size + 1 + a1.size ≤ 9223372036854775807 then ((words_Words.f k1 ((a0 ++ (⟨#[32]⟩ : ByteArray)) ++ a1)).bind fun t186 => (some ((wrap64 ((t180.length : Int) + (t183.length : Int))) == (t186.length : Int)))) else (none)) else (none)) = some r := H
                have A28 := Aside0.mk A280
                clear A280
                by_cases c29 : a0.size + 1 ≤ 9223372036854775807
                · rw [if_pos c29] at H
                  have c29b0 := eq_true c29
                  have c29b1 : decide (a0.size + 1 ≤ 9223372036854775807) = true := decide_eq_true c29
                  try have c29b2 : (9223372036854775807 < a0.size + 1) = False := eq_false (Nat.not_lt.2 c29)
                  by_cases c30 : a0.size + 1 + a1.size ≤ 9223372036854775807
                  · rw [if_pos c30] at H
                    have c30b0 := eq_true c30
                    have c30b1 : decide (a0.size + 1 + a1.size ≤ 9223372036854775807) = true := decide_eq_true c30
                    try have c30b2 : (9223372036854775807 < a0.size + 1 + a1.size) = False := eq_false (Nat.not_lt.2 c30)
                    replace H := Option.bind_eq_some_iff.mp H
                    obtain ⟨t186, A310, H⟩ := H
                    replace H : (some ((wrap64 ((t180.length : Int) + (t183.length : Int))) == (t186.length : Int))) = some r := H
                    have A31 := Aside0.mk A310
                    clear A310
                    obtain rfl := Option.some.inj H
                    obtain ⟨Ao32, co32, eo32⟩ := Kd.R_slice HO_7.out
                    subst eo32
                    obtain ⟨Ao33, co33, eo33⟩ := Kd.R_slice HO_5.out
                    subst eo33
                    obtain ⟨Ao34, co34, eo34⟩ := Kd.R_slice HO_6.out
                    subst eo34
                    go_wp2_with (first | (go_at_call 16; (with_reducible refine (fascineref05_Words.calls k1 a0 t180 _ ?side1 A27.out).mono ?_); (case side1 => first | exact HT.out | exact tabs_below HT.out (by repeat (first | (with_reducible first | exact HB.out | apply below_alloc | apply pw_below_drewN | apply below_drew1) | exact HB.out))); rintro e w35 ⟨v181, rfl, ho0, hb⟩; have n0_ := Aside0.mk (Kd.R_below (by (with_reducible repeat (first | apply Kd.R_alloc | apply Kd.R_drewN | apply Kd.R_drew)); exact HO_5.out) hb); have n1_ := Aside0.mk (Kd.R_below (by (with_reducible repeat (first | apply Kd.R_alloc | apply Kd.R_drewN | apply Kd.R_drew)); exact HO_6.out) hb); have n2_ := Aside0.mk (Kd.R_below (by (with_reducible repeat (first | apply Kd.R_alloc | apply Kd.R_drewN | apply Kd.R_drew)); exact HO_7.out) hb); have n3_ := Aside0.mk (Kd.R_lower ho0 (below_size (by repeat (first | (with_reducible first | exact HB.out | apply below_alloc | apply pw_below_drewN | apply below_drew1) | exact HB.out)))); have n4_ := Aside0.mk (below_step (by repeat (first | (with_reducible first | exact HB.out | apply below_alloc | apply pw_below_drewN | apply below_drew1) | exact HB.out)) hb); clear HO_5; clear HO_6; clear HO_7; clear HB; have HO_5 := n0_; have HO_6 := n1_; have HO_7 := n2_; have HO182 := n3_; have HB := n4_; clear n0_ n1_ n2_ n3_ n4_; (try clear hb); (try clear hb2); (try clear hk); (try clear hi); (try clear ho0); obtain ⟨Ao36, co36, eo36⟩ := Kd.R_slice HO182.out; subst eo36) | (go_at_call 16; (with_reducible refine (fascineref05_Words.calls k1 a1 t183 _ ?side1 A28.out).mono ?_); (case side1 => first | exact HT.out | exact tabs_below HT.out (by repeat (first | (with_reducible first | exact HB.out | apply below_alloc | apply pw_below_drewN | apply below_drew1) | exact HB.out))); rintro e w37 ⟨v184, rfl, ho0, hb⟩; have n0_ := Aside0.mk (Kd.R_below (by (with_reducible repeat (first | apply Kd.R_alloc | apply Kd.R_drewN | apply Kd.R_drew)); exact HO_5.out) hb); have n1_ := Aside0.mk (Kd.R_below (by (with_reducible repeat (first | apply Kd.R_alloc | apply Kd.R_drewN | apply Kd.R_drew)); exact HO_6.out) hb); have n2_ := Aside0.mk (Kd.R_below (by (with_reducible repeat (first | apply Kd.R_alloc | apply Kd.R_drewN | apply Kd.R_drew)); exact HO_7.out) hb); have n3_ := Aside0.mk (Kd.R_elder' (by (with_reducible repeat (first | apply Kd.R_alloc | apply Kd.R_drewN | apply Kd.R_drew)); exact HO182.out) (Kd.R_base ho0) hb); have n4_ := Aside0.mk (Kd.R_lower (Kd.R_new' ho0 (Kd.R_lt (by (with_reducible repeat (first | apply Kd.R_alloc | apply Kd.R_drewN | apply Kd.R_drew)); exact HO182.out))) (below_size (by repeat (first | (with_reducible first | exact HB.out | apply below_alloc | apply pw_below_drewN | apply below_drew1) | exact HB.out)))); have n5_ := Aside0.mk (below_step (by repeat (first | (with_reducible first | exact HB.out | apply below_alloc | apply pw_below_drewN | apply below_drew1) | exact HB.out)) hb); clear HO_5; clear HO_6; clear HO_7; clear HO182; clear HB; have HO_5 := n0_; have HO_6 := n1_; have HO_7 := n2_; have HO182 := n3_; have HO185 := n4_; have HB := n5_; clear n0_ n1_ n2_ n3_ n4_ n5_; (try clear hb); (try clear hb2); (try clear hk); (try clear hi); (try clear ho0); obtain ⟨Ao38, co38, eo38⟩ := Kd.R_slice HO185.out; subst eo38) | (go_at_call 17; (with_reducible refine (words_Words.calls k1 ((a0 ++ (⟨#[32]⟩ : ByteArray)) ++ a1) t186 _ ?side1 A31.out).mono ?_); (case side1 => first | exact HT.out | exact tabs_below HT.out (by repeat (first | (with_reducible first | exact HB.out | apply below_alloc | apply pw_below_drewN | apply below_drew1) | exact HB.out))); rintro e w39 ⟨v187, rfl, ho0, hb⟩; have n0_ := Aside0.mk (Kd.R_below (by (with_reducible repeat (first | apply Kd.R_alloc | apply Kd.R_drewN | apply Kd.R_drew)); exact HO_5.out) hb); have n1_ := Aside0.mk (Kd.R_below (by (with_reducible repeat (first | apply Kd.R_alloc | apply Kd.R_drewN | apply Kd.R_drew)); exact HO_6.out) hb); have n2_ := Aside0.mk (Kd.R_below (by (with_reducible repeat (first | apply Kd.R_alloc | apply Kd.R_drewN | apply Kd.R_drew)); exact HO_7.out) hb); have n3_ := Aside0.mk (Kd.R_below (by (with_reducible repeat (first | apply Kd.R_alloc | apply Kd.R_drewN | apply Kd.R_drew)); exact HO182.out) hb); have n4_ := Aside0.mk (Kd.R_below (by (with_reducible repeat (first | apply Kd.R_alloc | apply Kd.R_drewN | apply Kd.R_drew)); exact HO185.out) hb); have n5_ := Aside0.mk (Kd.R_lower ho0 (below_size (by repeat (first | (with_reducible first | exact HB.out | apply below_alloc | apply pw_below_drewN | apply below_drew1) | exact HB.out)))); have n6_ := Aside0.mk (below_step (by repeat (first | (with_reducible first | exact HB.out | apply below_alloc | apply pw_below_drewN | apply below_drew1) | exact HB.out)) hb); clear HO_5; clear HO_6; clear HO_7; clear HO182; clear HO185; clear HB; have HO_5 := n0_; have HO_6 := n1_; have HO_7 := n2_; have HO182 := n3_; have HO185 := n4_; have HO188 := n5_; have HB := n6_; clear n0_ n1_ n2_ n3_ n4_ n5_ n6_; (try clear hb); (try clear hb2); (try clear hk); (try clear hi); (try clear ho0); obtain ⟨Ao40, co40, eo40⟩ := Kd.R_slice HO188.out; subst eo40))
                    go_ret
                    exact ⟨by first | rfl | (simp [errW_none, errW_some] <;> rfl) | (simp [*, errW_none, errW_some] <;> rfl), by repeat (first | (with_reducible first | exact HB.out | apply below_alloc | apply pw_below_drewN | apply below_drew1) | exact HB.out)⟩
                  · rw [if_neg c30] at H
                    exact absurd H (by simp)
                · rw [if_neg c29] at H
                  exact absurd H (by simp)
              · rw [if_neg c26] at H
                have c26b0 : ((t177.length : Int) == (wrap64 ((wrap64 ((t171.length : Int) + (t174.length : Int))) - x8_1))) = false := beq_eq_false_iff_ne.mpr c26
                have c26b1 : ((t177.length : Int) != (wrap64 ((wrap64 ((t171.length : Int) + (t174.length : Int))) - x8_1))) = true := bne_iff_ne.mpr c26
                exact absurd (HR_.out.symm.trans (Option.some.inj H).symm) (by decide)
      · rw [if_neg c8] at H
        exact absurd H (by simp)
    · rw [if_neg c7] at H
      exact absurd H (by simp)
  · replace c4 := Bool.eq_false_iff.mpr c4
    subst c4
    have H1 : (some false) = some r := by rw [if_neg (show ¬ (false = true) by decide)] at H; exact H
    clear H
    have H := H1
    clear H1
    exact absurd (HR_.out.symm.trans (Option.some.inj H).symm) (by decide)

/-- THE ONE PURE STATEMENT of fascinelaw05_WordsJoin: yours. -/
def fascinelaw05_WordsJoin.Pure : Prop := ∀ (a0 : ByteArray) (a1 : ByteArray), a0.size ≤ 140737488351232 → a1.size ≤ 140737488351232 → ∃ k, fascinelaw05_WordsJoin.f k a0 a1 = some true
theorem fascinelaw05_WordsJoin.walk (P : fascinelaw05_WordsJoin.Pure) (a0 : ByteArray) (a1 : ByteArray) (w : World) (hT : tabs w) (w0 : a0.size ≤ 140737488351232) (w1 : a1.size ≤ 140737488351232) :
    Calls Tryd.prog 5 #[.string a0, .string a1] w fun e w' => e = .returned (.bool true) ∧ Below w.heap.size w w' := by
  obtain ⟨k, h⟩ := P a0 a1 w0 w1
  refine (fascinelaw05_WordsJoin.calls k a0 a1 true w hT h rfl).mono ?_
  rintro e w' ⟨rfl, hd⟩
  exact ⟨rfl, hd⟩

end Go.Proofs.YtpkjfpapjcmhdaaDoor.PWordsJoin
