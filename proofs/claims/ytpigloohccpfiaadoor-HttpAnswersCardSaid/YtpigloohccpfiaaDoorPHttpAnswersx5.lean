-- WRITTEN BY A PROGRAM OF THIS SESSION (wip/patch_print.py: the kit's printer with rules of this session's own); Lean checks it.
import Derived.Test.YtpigloohccpfiaaDoorPHttpAnswersx0
import Derived.Test.YtpigloohccpfiaaDoorPHttpAnswersx1
import Derived.Test.YtpigloohccpfiaaDoorPHttpAnswersx4
namespace Go.Proofs.YtpigloohccpfiaaDoor.PHttpAnswers
open Go.RowKit Go.Proofs.YtpigloohccpfiaaDoorW.PrintWords Go.Proofs.YtpigloohccpfiaaDoorW.PrintLast Go.Proofs.YtpigloohccpfiaaDoorW.PrintMore
open Go.Proofs.YtpigloohccpfiaaDoor.G
attribute [local go_sem] max2_int min2_int max_two min_two max_three min_three max_four min_four   -- for this text's walks alone
set_option linter.unusedVariables false
set_option linter.unusedSimpArgs false

/-! ### http_Answer: function 16 -/
mutual
def http_Answer.j0 : Nat → ByteArray → ByteArray → List ByteArray → Bool → Option (Int × ByteArray × Int)
 | 0, _, _, _, _ => none
 | k + 1, x0, x5, x8, x45 => if x45 = true then (some (0, (⟨#[]⟩ : ByteArray), 0)) else (if 0 < (x8.length : Int) then (if 9 ≤ 12 then (if 12 ≤ ((rdOf ByteArray.empty x8 0).size : Int) then ((strconv_Atoi.f ((rdOf ByteArray.empty x8 0).extract 9 12)).bind fun bt180 => (if 2 < (x8.length : Int) then ((strings_TrimPrefix.f (rdOf ByteArray.empty x8 2) (⟨#[67, 111, 110, 116, 101, 110, 116, 45, 76, 101, 110, 103, 116, 104, 58, 32]⟩ : ByteArray)).bind fun t183 => ((strconv_Atoi.f t183).bind fun bt184 => (if bt180.2.isNone = true then (if bt184.2.isNone = true then (if bt184.1 < 0 then (http_Answer.j1 k x0 x8 bt180.1 bt184.1 (wrap64 ((x5.size : Int) + 4)) true) else (http_Answer.j1 k x0 x8 bt180.1 bt184.1 (wrap64 ((x5.size : Int) + 4)) (decide (bt184.1 > (wrap64 ((x0.size : Int) - (wrap64 ((x5.size : Int) + 4)))))))) else (http_Answer.j1 k x0 x8 bt180.1 bt184.1 (wrap64 ((x5.size : Int) + 4)) true)) else (http_Answer.j1 k x0 x8 bt180.1 bt184.1 (wrap64 ((x5.size : Int) + 4)) true)))) else (none))) else (none)) else (none)) else (none))
def http_Answer.j1 : Nat → ByteArray → List ByteArray → Int → Int → Int → Bool → Option (Int × ByteArray × Int)
 | 0, _, _, _, _, _, _ => none
 | k + 1, x0, x8, x9, x11, x13, x82 => if x82 = true then (some (0, (⟨#[]⟩ : ByteArray), 0)) else (if 0 ≤ x13 then (if x13 ≤ (wrap64 (x13 + x11)) then (if (wrap64 (x13 + x11)) ≤ (x0.size : Int) then ((http_Write.f k x9 (x0.extract (x13 : Int).toNat ((wrap64 (x13 + x11)) : Int).toNat) ((x8.length : Int) == 4)).bind fun bt188 => (if 0 ≤ (wrap64 (x13 + x11)) then (if bt188.1.toList = (x0.extract 0 ((wrap64 (x13 + x11)) : Int).toNat).toList then (some (x9, x0.extract (x13 : Int).toNat ((wrap64 (x13 + x11)) : Int).toNat, wrap64 (x13 + x11))) else (some (0, (⟨#[]⟩ : ByteArray), 0))) else (none))) else (none)) else (none)) else (none))
end
def http_Answer.f (k : Nat) (a0 : ByteArray) : Option (Int × ByteArray × Int) := (strings_Cut.f a0 (⟨#[13, 10, 13, 10]⟩ : ByteArray)).bind fun bt170 => ((strings_Split.f bt170.1 (⟨#[13, 10]⟩ : ByteArray)).bind fun t173 => (if bt170.2.2 = true then (if (t173.length : Int) < 3 then (http_Answer.j0 k a0 bt170.1 t173 true) else (if 0 < (t173.length : Int) then ((strings_HasPrefix.f (rdOf ByteArray.empty t173 0) (⟨#[72, 84, 84, 80, 47, 49, 46, 49, 32]⟩ : ByteArray)).bind fun t177 => (if t177 = true then (http_Answer.j0 k a0 bt170.1 t173 (decide (((rdOf ByteArray.empty t173 0).size : Int) < 13))) else (http_Answer.j0 k a0 bt170.1 t173 true))) else (none))) else (http_Answer.j0 k a0 bt170.1 t173 true)))
theorem http_Answer.mono_l : ∀ k, (∀ y0 y1 y2 y3, LeO (http_Answer.j0 k y0 y1 y2 y3) (http_Answer.j0 (k + 1) y0 y1 y2 y3)) ∧ (∀ y0 y1 y2 y3 y4 y5, LeO (http_Answer.j1 k y0 y1 y2 y3 y4 y5) (http_Answer.j1 (k + 1) y0 y1 y2 y3 y4 y5))
 | 0 => ⟨fun _ _ _ _ r h => by simp [http_Answer.j0] at h, fun _ _ _ _ _ _ r h => by simp [http_Answer.j1] at h⟩
 | k + 1 => by
  obtain ⟨ih0, ih1⟩ := http_Answer.mono_l k
  refine ⟨?_, ?_⟩
  ·intro y0 y1 y2 y3
   unfold http_Answer.j0
   repeat' first
   | (with_reducible exact ih0 _ _ _ _)
   | (with_reducible exact ih1 _ _ _ _ _ _)
   | (with_reducible exact http_Write.mono _ _ _ _)
   | (with_reducible exact LeO.refl _)
   | (with_reducible exact LeO.none _)
   | (with_reducible refine LeO.ite ?_ ?_)
   | (with_reducible refine LeO.bind ?_ (fun _ => ?_))
   | exact ih0 _ _ _ _
   | exact ih1 _ _ _ _ _ _
   | exact http_Write.mono _ _ _ _
   | exact LeO.none _
   | refine LeO.ite ?_ ?_
   | refine LeO.bind ?_ (fun _ => ?_)
  ·intro y0 y1 y2 y3 y4 y5
   unfold http_Answer.j1
   repeat' first
   | (with_reducible exact ih0 _ _ _ _)
   | (with_reducible exact ih1 _ _ _ _ _ _)
   | (with_reducible exact http_Write.mono _ _ _ _)
   | (with_reducible exact LeO.refl _)
   | (with_reducible exact LeO.none _)
   | (with_reducible refine LeO.ite ?_ ?_)
   | (with_reducible refine LeO.bind ?_ (fun _ => ?_))
   | exact ih0 _ _ _ _
   | exact ih1 _ _ _ _ _ _
   | exact http_Write.mono _ _ _ _
   | exact LeO.none _
   | refine LeO.ite ?_ ?_
   | refine LeO.bind ?_ (fun _ => ?_)
theorem http_Answer.mono : ∀ a0 k, LeO (http_Answer.f k a0) (http_Answer.f (k + 1) a0) := by
 intro a0 k
 obtain ⟨ih0, ih1⟩ := http_Answer.mono_l k
 unfold http_Answer.f
 repeat' first
   | (with_reducible exact ih0 _ _ _ _)
   | (with_reducible exact ih1 _ _ _ _ _ _)
   | (with_reducible exact http_Write.mono _ _ _ _)
   | (with_reducible exact LeO.refl _)
   | (with_reducible exact LeO.none _)
   | (with_reducible refine LeO.ite ?_ ?_)
   | (with_reducible refine LeO.bind ?_ (fun _ => ?_))
   | exact ih0 _ _ _ _
   | exact ih1 _ _ _ _ _ _
   | exact http_Write.mono _ _ _ _
   | exact LeO.none _
   | refine LeO.ite ?_ ?_
   | refine LeO.bind ?_ (fun _ => ?_)
set_option maxHeartbeats 8000000 in
set_option maxRecDepth 100000 in
theorem http_Answer.calls (k : Nat) (a0 : ByteArray) (r1 : Int) (r2 : ByteArray) (r3 : Int) (w : World) (hT : tabs w) (h : http_Answer.f k a0 = some (r1, r2, r3)) :
  Calls Tryd.prog 16 #[.string a0] w fun e w' => e = .returned (.tuple #[.int .i64 r1, .string r2, .int .i64 r3]) ∧ Below w.heap.size w w' := by
 have hu59 := Tryd.underlying59
 have HT := Aside0.mk hT
 clear hT
 have HB := Aside0.mk (Below.refl w.heap.size w)
 have H : ((strings_Cut.f a0 (⟨#[13, 10, 13, 10]⟩ : ByteArray)).bind fun bt170 => ((strings_Split.f bt170.1 (⟨#[13, 10]⟩ : ByteArray)).bind fun t173 => (if bt170.2.2 = true then (if (t173.length : Int) < 3 then (http_Answer.j0 k a0 bt170.1 t173 true) else (if 0 < (t173.length : Int) then ((strings_HasPrefix.f (rdOf ByteArray.empty t173 0) (⟨#[72, 84, 84, 80, 47, 49, 46, 49, 32]⟩ : ByteArray)).bind fun t177 => (if t177 = true then (http_Answer.j0 k a0 bt170.1 t173 (decide (((rdOf ByteArray.empty t173 0).size : Int) < 13))) else (http_Answer.j0 k a0 bt170.1 t173 true))) else (none))) else (http_Answer.j0 k a0 bt170.1 t173 true)))) = some (r1, r2, r3) := h
 clear h
 replace H := Option.bind_eq_some_iff.mp H
 obtain ⟨⟨t170, t171, t172⟩, A20, H⟩ := H
 replace H : ((strings_Split.f t170 (⟨#[13, 10]⟩ : ByteArray)).bind fun t173 => (if t172 = true then (if (t173.length : Int) < 3 then (http_Answer.j0 k a0 t170 t173 true) else (if 0 < (t173.length : Int) then ((strings_HasPrefix.f (rdOf ByteArray.empty t173 0) (⟨#[72, 84, 84, 80, 47, 49, 46, 49, 32]⟩ : ByteArray)).bind fun t177 => (if t177 = true then (http_Answer.j0 k a0 t170 t173 (decide (((rdOf ByteArray.empty t173 0).size : Int) < 13))) else (http_Answer.j0 k a0 t170 t173 true))) else (none))) else (http_Answer.j0 k a0 t170 t173 true))) = some (r1, r2, r3) := H
 have A2 := Aside0.mk A20
 clear A20
 replace H := Option.bind_eq_some_iff.mp H
 obtain ⟨t173, A30, H⟩ := H
 replace H : (if t172 = true then (if (t173.length : Int) < 3 then (http_Answer.j0 k a0 t170 t173 true) else (if 0 < (t173.length : Int) then ((strings_HasPrefix.f (rdOf ByteArray.empty t173 0) (⟨#[72, 84, 84, 80, 47, 49, 46, 49, 32]⟩ : ByteArray)).bind fun t177 => (if t177 = true then (http_Answer.j0 k a0 t170 t173 (decide (((rdOf ByteArray.empty t173 0).size : Int) < 13))) else (http_Answer.j0 k a0 t170 t173 true))) else (none))) else (http_Answer.j0 k a0 t170 t173 true)) = some (r1, r2, r3) := H
 have A3 := Aside0.mk A30
 clear A30
 have HC4 := Aside0.mk H
 clear H
 go_enter Tryd.func16, Tryd.ntmps16
 go_upto_region 3 with (first | ((with_reducible refine gate_callee (f := 31) rfl ?_); refine goesL_ (some 19) rfl rfl Tryd.func31 (by kernel_rfl) rfl #[.string a0, .string (⟨#[13, 10, 13, 10]⟩ : ByteArray)] rfl (by (try simp only [List.map_toArray, List.map_cons, List.map_nil]); first | done | rfl | (simp only [List.length_drop, List.length_take]; rfl)) ?_; (with_reducible refine (strings_Cut.calls a0 (⟨#[13, 10, 13, 10]⟩ : ByteArray) t170 t171 t172 _ ?side1 A2.out).mono ?_); (case side1 => first | exact HT.out | exact tabs_below HT.out (by repeat (first | (with_reducible first | exact HB.out | apply below_alloc | apply pw_below_drewN | apply below_drew1) | exact HB.out))); rintro e w' ⟨rfl, ⟨nd, rfl⟩⟩; refine ⟨_, rfl, ?_⟩) | ((with_reducible refine gate_callee (f := 32) rfl ?_); refine goesL_ (some 24) rfl rfl Tryd.func32 (by kernel_rfl) rfl #[.string t170, .string (⟨#[13, 10]⟩ : ByteArray)] rfl (by (try simp only [List.map_toArray, List.map_cons, List.map_nil]); first | done | rfl | (simp only [List.length_drop, List.length_take]; rfl)) ?_; (with_reducible refine (strings_Split.calls t170 (⟨#[13, 10]⟩ : ByteArray) t173 _ ?side1 A3.out).mono ?_); (case side1 => first | exact HT.out | exact tabs_below HT.out (by repeat (first | (with_reducible first | exact HB.out | apply below_alloc | apply pw_below_drewN | apply below_drew1) | exact HB.out))); rintro e w5 ⟨v174, rfl, ho0, hb⟩; refine ⟨_, rfl, ?_⟩; have n0_ := Aside0.mk (Kd.R_lower ho0 (below_size (by repeat (first | (with_reducible first | exact HB.out | apply below_alloc | apply pw_below_drewN | apply below_drew1) | exact HB.out)))); have n1_ := Aside0.mk (below_step (by repeat (first | (with_reducible first | exact HB.out | apply below_alloc | apply pw_below_drewN | apply below_drew1) | exact HB.out)) hb); clear HB; have HO175 := n0_; have HB := n1_; clear n0_ n1_; (try clear hb); (try clear hb2); (try clear hk); (try clear hi); (try clear ho0)))
 (try simp only [Act.put, List.setIfInBounds_toArray, List.set_cons_zero, List.set_cons_succ])
 go_cut [45] (fun v45 wc => ∃ (kq : Nat) (x45_3 : Bool), v45 = .bool x45_3 ∧ Aside0 (http_Answer.j0 kq a0 t170 t173 x45_3 = some (r1, r2, r3)) ∧ Aside0 (kq ≤ k) ∧ Aside0 (Kd.R Kd.string 9 wc w.heap.size (fun _ => True) v174 t173) ∧ Aside0 (Below w.heap.size w wc))
 case first =>
  have H := HC4.out
  clear HC4
  by_cases c6 : t172 = true
  ·subst c6
   have H1 : (if (t173.length : Int) < 3 then (http_Answer.j0 k a0 t170 t173 true) else (if 0 < (t173.length : Int) then ((strings_HasPrefix.f (rdOf ByteArray.empty t173 0) (⟨#[72, 84, 84, 80, 47, 49, 46, 49, 32]⟩ : ByteArray)).bind fun t177 => (if t177 = true then (http_Answer.j0 k a0 t170 t173 (decide (((rdOf ByteArray.empty t173 0).size : Int) < 13))) else (http_Answer.j0 k a0 t170 t173 true))) else (none))) = some (r1, r2, r3) := by rw [if_pos rfl] at H; exact H
   clear H
   have H := H1
   clear H1
   by_cases c7 : (t173.length : Int) < 3
   ·rw [if_pos c7] at H
    have c7b0 : decide ((t173.length : Int) < 3) = true := decide_eq_true c7
    have c7b1 : decide (t173.length < 3) = true := decide_eq_true (by omega)
    clear c7
    (first | rw [c7b0] | (simp only [i64_w, i32_w]; rw [c7b0]) | skip)
    have H' := Aside0.mk H
    clear H
    obtain ⟨Ao8, co8, eo8⟩ := Kd.R_slice HO175.out
    subst eo8
    go_wp2
    go_meet
    case rel => exact ⟨_, (true), (by first | rfl | (simp; done) | (simp [*]; done)), H', ⟨by first | omega | exact Nat.le_refl _⟩, ⟨by (with_reducible repeat (first | apply Kd.R_alloc | apply Kd.R_drewN | apply Kd.R_drew)); exact HO175.out⟩, ⟨by repeat (first | (with_reducible first | exact HB.out | apply below_alloc | apply pw_below_drewN | apply below_drew1) | exact HB.out)⟩⟩
   ·rw [if_neg c7] at H
    have c7b0 : decide ((t173.length : Int) < 3) = false := decide_eq_false c7
    have c7b1 : decide (t173.length < 3) = false := decide_eq_false (by omega)
    clear c7
    (first | rw [c7b0] | (simp only [i64_w, i32_w]; rw [c7b0]) | skip)
    by_cases c9 : 0 < (t173.length : Int)
    ·rw [if_pos c9] at H
     have c9b0 : decide (0 < (t173.length : Int)) = true := decide_eq_true c9
     have c9b1 : decide (0 < t173.length) = true := decide_eq_true (by omega)
     clear c9
     replace H := Option.bind_eq_some_iff.mp H
     obtain ⟨t177, A100, H⟩ := H
     replace H : (if t177 = true then (http_Answer.j0 k a0 t170 t173 (decide (((rdOf ByteArray.empty t173 0).size : Int) < 13))) else (http_Answer.j0 k a0 t170 t173 true)) = some (r1, r2, r3) := H
     have A10 := Aside0.mk A100
     clear A100
     by_cases c11 : t177 = true
     ·subst c11
      have H1 : (http_Answer.j0 k a0 t170 t173 (decide (((rdOf ByteArray.empty t173 0).size : Int) < 13))) = some (r1, r2, r3) := by rw [if_pos rfl] at H; exact H
      clear H
      have H := H1
      clear H1
      have H' := Aside0.mk H
      clear H
      obtain ⟨Ao12, co12, eo12⟩ := Kd.R_slice HO175.out
      subst eo12
      have p176 : 0 ≤ (0 : Int) := (by omega)
      have q176 : 0 < (t173.length : Int) := of_decide_eq_true (by first | (with_reducible assumption) | assumption)
      obtain ⟨ad176, e176, hx176_0⟩ := Kd.at_string (Kd.R_reads' HO175.out).2.2 0 p176 q176
      cases e176
      have qi176 : (0 < t173.length) = True := eq_true (by omega)
      (try rw [show ((0 : Int)).toNat = 0 from rfl] at hx176_0)
      (try rw [Addr.add_zero'] at hx176_0)
      replace p176 := eq_true p176
      replace q176 := eq_true q176
      go_wp2_with (first | (go_at_call 33; (with_reducible refine (strings_HasPrefix.calls (rdOf ByteArray.empty t173 0) (⟨#[72, 84, 84, 80, 47, 49, 46, 49, 32]⟩ : ByteArray) true _ A10.out).mono ?_); rintro e w' ⟨rfl, ⟨nd, rfl⟩⟩; have p178 : 0 ≤ (0 : Int) := (by omega); have q178 : 0 < (t173.length : Int) := of_decide_eq_true (by first | (with_reducible assumption) | assumption); obtain ⟨ad178, e178, hx178_0⟩ := Kd.at_string (Kd.R_reads' HO175.out).2.2 0 p178 q178; obtain rfl : ad176 = ad178 := (by injection e178); have qi178 : (0 < t173.length) = True := eq_true (by omega); (try rw [show ((0 : Int)).toNat = 0 from rfl] at hx178_0); (try rw [Addr.add_zero'] at hx178_0); replace p178 := eq_true p178; replace q178 := eq_true q178))
      go_meet
      case rel => exact ⟨_, (decide (((rdOf ByteArray.empty t173 0).size : Int) < 13)), (by first | rfl | (simp; done) | (simp [*]; done)), H', ⟨by first | omega | exact Nat.le_refl _⟩, ⟨by (with_reducible repeat (first | apply Kd.R_alloc | apply Kd.R_drewN | apply Kd.R_drew)); exact HO175.out⟩, ⟨by repeat (first | (with_reducible first | exact HB.out | apply below_alloc | apply pw_below_drewN | apply below_drew1) | exact HB.out)⟩⟩
     ·replace c11 := Bool.eq_false_iff.mpr c11
      subst c11
      have H1 : (http_Answer.j0 k a0 t170 t173 true) = some (r1, r2, r3) := by rw [if_neg (show ¬ (false = true) by decide)] at H; exact H
      clear H
      have H := H1
      clear H1
      have H' := Aside0.mk H
      clear H
      obtain ⟨Ao13, co13, eo13⟩ := Kd.R_slice HO175.out
      subst eo13
      have p176 : 0 ≤ (0 : Int) := (by omega)
      have q176 : 0 < (t173.length : Int) := of_decide_eq_true (by first | (with_reducible assumption) | assumption)
      obtain ⟨ad176, e176, hx176_0⟩ := Kd.at_string (Kd.R_reads' HO175.out).2.2 0 p176 q176
      cases e176
      have qi176 : (0 < t173.length) = True := eq_true (by omega)
      (try rw [show ((0 : Int)).toNat = 0 from rfl] at hx176_0)
      (try rw [Addr.add_zero'] at hx176_0)
      replace p176 := eq_true p176
      replace q176 := eq_true q176
      go_wp2_with (first | (go_at_call 33; (with_reducible refine (strings_HasPrefix.calls (rdOf ByteArray.empty t173 0) (⟨#[72, 84, 84, 80, 47, 49, 46, 49, 32]⟩ : ByteArray) false _ A10.out).mono ?_); rintro e w' ⟨rfl, ⟨nd, rfl⟩⟩))
      go_meet
      case rel => exact ⟨_, (true), (by first | rfl | (simp; done) | (simp [*]; done)), H', ⟨by first | omega | exact Nat.le_refl _⟩, ⟨by (with_reducible repeat (first | apply Kd.R_alloc | apply Kd.R_drewN | apply Kd.R_drew)); exact HO175.out⟩, ⟨by repeat (first | (with_reducible first | exact HB.out | apply below_alloc | apply pw_below_drewN | apply below_drew1) | exact HB.out)⟩⟩
    ·rw [if_neg c9] at H
     exact absurd H (by simp)
  ·replace c6 := Bool.eq_false_iff.mpr c6
   subst c6
   have H1 : (http_Answer.j0 k a0 t170 t173 true) = some (r1, r2, r3) := by rw [if_neg (show ¬ (false = true) by decide)] at H; exact H
   clear H
   have H := H1
   clear H1
   have H' := Aside0.mk H
   clear H
   go_wp2
   go_meet
   case rel => exact ⟨_, (true), (by first | rfl | (simp; done) | (simp [*]; done)), H', ⟨by first | omega | exact Nat.le_refl _⟩, ⟨by (with_reducible repeat (first | apply Kd.R_alloc | apply Kd.R_drewN | apply Kd.R_drew)); exact HO175.out⟩, ⟨by repeat (first | (with_reducible first | exact HB.out | apply below_alloc | apply pw_below_drewN | apply below_drew1) | exact HB.out)⟩⟩
 case rest =>
  clear HC4
  try clear c1
  try clear p1
  try clear q1
  try clear hx1
  try clear qi1
  try clear p2
  try clear c3
  try clear c6
  try clear c7
  try clear c7b0
  try clear c7b1
  try clear c9
  try clear c9b0
  try clear c9b1
  try clear c11
  try clear hx176_0
  try clear hx178_0
  try clear p176
  try clear p178
  try clear q176
  try clear q178
  obtain ⟨kq, x45_3, rfl, HA, HJ3, HO_8, HB⟩ := hcut
  cases kq with
  | zero => exact absurd HA.out (by simp [http_Answer.j0])
  | succ kj3 =>
   have H := HA.out
   clear HA
   simp only [http_Answer.j0] at H
   by_cases c14 : x45_3 = true
   ·subst c14
    have H1 : (some (0, (⟨#[]⟩ : ByteArray), 0)) = some (r1, r2, r3) := by rw [if_pos rfl] at H; exact H
    clear H
    have H := H1
    clear H1
    simp only [Option.some.injEq, Prod.mk.injEq] at H
    obtain ⟨rfl, rfl, rfl⟩ := H
    go_wp2
    go_ret3
    exact ⟨by first | rfl | (simp [errW_none, errW_some] <;> rfl) | (simp [*, errW_none, errW_some] <;> rfl), by repeat (first | (with_reducible first | exact HB.out | apply below_alloc | apply pw_below_drewN | apply below_drew1) | exact HB.out)⟩
   ·replace c14 := Bool.eq_false_iff.mpr c14
    subst c14
    have H1 : (if 0 < (t173.length : Int) then (if 9 ≤ 12 then (if 12 ≤ ((rdOf ByteArray.empty t173 0).size : Int) then ((strconv_Atoi.f ((rdOf ByteArray.empty t173 0).extract 9 12)).bind fun bt180 => (if 2 < (t173.length : Int) then ((strings_TrimPrefix.f (rdOf ByteArray.empty t173 2) (⟨#[67, 111, 110, 116, 101, 110, 116, 45, 76, 101, 110, 103, 116, 104, 58, 32]⟩ : ByteArray)).bind fun t183 => ((strconv_Atoi.f t183).bind fun bt184 => (if bt180.2.isNone = true then (if bt184.2.isNone = true then (if bt184.1 < 0 then (http_Answer.j1 kj3 a0 t173 bt180.1 bt184.1 (wrap64 ((t170.size : Int) + 4)) true) else (http_Answer.j1 kj3 a0 t173 bt180.1 bt184.1 (wrap64 ((t170.size : Int) + 4)) (decide (bt184.1 > (wrap64 ((a0.size : Int) - (wrap64 ((t170.size : Int) + 4)))))))) else (http_Answer.j1 kj3 a0 t173 bt180.1 bt184.1 (wrap64 ((t170.size : Int) + 4)) true)) else (http_Answer.j1 kj3 a0 t173 bt180.1 bt184.1 (wrap64 ((t170.size : Int) + 4)) true)))) else (none))) else (none)) else (none)) else (none)) = some (r1, r2, r3) := by rw [if_neg (show ¬ (false = true) by decide)] at H; exact H
    clear H
    have H := H1
    clear H1
    by_cases c15 : 0 < (t173.length : Int)
    ·rw [if_pos c15] at H
     have c15b0 : decide (0 < (t173.length : Int)) = true := decide_eq_true c15
     have c15b1 : decide (0 < t173.length) = true := decide_eq_true (by omega)
     clear c15
     by_cases c16 : 9 ≤ 12
     ·rw [if_pos c16] at H
      have c16b0 := eq_true c16
      have c16b1 : decide (9 ≤ 12) = true := decide_eq_true c16
      clear c16
      by_cases c17 : 12 ≤ ((rdOf ByteArray.empty t173 0).size : Int)
      ·rw [if_pos c17] at H
       have c17b0 := eq_true c17
       have c17b1 : decide (12 ≤ ((rdOf ByteArray.empty t173 0).size : Int)) = true := decide_eq_true c17
       clear c17
       replace H := Option.bind_eq_some_iff.mp H
       obtain ⟨⟨t180, t181⟩, A180, H⟩ := H
       replace H : (if 2 < (t173.length : Int) then ((strings_TrimPrefix.f (rdOf ByteArray.empty t173 2) (⟨#[67, 111, 110, 116, 101, 110, 116, 45, 76, 101, 110, 103, 116, 104, 58, 32]⟩ : ByteArray)).bind fun t183 => ((strconv_Atoi.f t183).bind fun bt184 => (if t181.isNone = true then (if bt184.2.isNone = true then (if bt184.1 < 0 then (http_Answer.j1 kj3 a0 t173 t180 bt184.1 (wrap64 ((t170.size : Int) + 4)) true) else (http_Answer.j1 kj3 a0 t173 t180 bt184.1 (wrap64 ((t170.size : Int) + 4)) (decide (bt184.1 > (wrap64 ((a0.size : Int) - (wrap64 ((t170.size : Int) + 4)))))))) else (http_Answer.j1 kj3 a0 t173 t180 bt184.1 (wrap64 ((t170.size : Int) + 4)) true)) else (http_Answer.j1 kj3 a0 t173 t180 bt184.1 (wrap64 ((t170.size : Int) + 4)) true)))) else (none)) = some (r1, r2, r3) := H
       have A18 := Aside0.mk A180
       clear A180
       by_cases c19 : 2 < (t173.length : Int)
       ·rw [if_pos c19] at H
        have c19b0 : decide (2 < (t173.length : Int)) = true := decide_eq_true c19
        have c19b1 : decide (2 < t173.length) = true := decide_eq_true (by omega)
        clear c19
        replace H := Option.bind_eq_some_iff.mp H
        obtain ⟨t183, A200, H⟩ := H
        replace H : ((strconv_Atoi.f t183).bind fun bt184 => (if t181.isNone = true then (if bt184.2.isNone = true then (if bt184.1 < 0 then (http_Answer.j1 kj3 a0 t173 t180 bt184.1 (wrap64 ((t170.size : Int) + 4)) true) else (http_Answer.j1 kj3 a0 t173 t180 bt184.1 (wrap64 ((t170.size : Int) + 4)) (decide (bt184.1 > (wrap64 ((a0.size : Int) - (wrap64 ((t170.size : Int) + 4)))))))) else (http_Answer.j1 kj3 a0 t173 t180 bt184.1 (wrap64 ((t170.size : Int) + 4)) true)) else (http_Answer.j1 kj3 a0 t173 t180 bt184.1 (wrap64 ((t170.size : Int) + 4)) true))) = some (r1, r2, r3) := H
        have A20 := Aside0.mk A200
        clear A200
        replace H := Option.bind_eq_some_iff.mp H
        obtain ⟨⟨t184, t185⟩, A210, H⟩ := H
        replace H : (if t181.isNone = true then (if t185.isNone = true then (if t184 < 0 then (http_Answer.j1 kj3 a0 t173 t180 t184 (wrap64 ((t170.size : Int) + 4)) true) else (http_Answer.j1 kj3 a0 t173 t180 t184 (wrap64 ((t170.size : Int) + 4)) (decide (t184 > (wrap64 ((a0.size : Int) - (wrap64 ((t170.size : Int) + 4)))))))) else (http_Answer.j1 kj3 a0 t173 t180 t184 (wrap64 ((t170.size : Int) + 4)) true)) else (http_Answer.j1 kj3 a0 t173 t180 t184 (wrap64 ((t170.size : Int) + 4)) true)) = some (r1, r2, r3) := H
        have A21 := Aside0.mk A210
        clear A210
        have HC22 := Aside0.mk H
        clear H
        rcases t181 with _ | q186
        ·rcases t185 with _ | q187
         ·obtain ⟨Ao23, co23, eo23⟩ := Kd.R_slice HO_8.out
          subst eo23
          have p179 : 0 ≤ (0 : Int) := (by omega)
          have q179 : 0 < (t173.length : Int) := of_decide_eq_true (by first | (with_reducible assumption) | assumption)
          obtain ⟨ad179, e179, hx179_0⟩ := Kd.at_string (Kd.R_reads' HO_8.out).2.2 0 p179 q179
          cases e179
          have qi179 : (0 < t173.length) = True := eq_true (by omega)
          (try rw [show ((0 : Int)).toNat = 0 from rfl] at hx179_0)
          (try rw [Addr.add_zero'] at hx179_0)
          replace p179 := eq_true p179
          replace q179 := eq_true q179
          go_upto_region 8 with (first | ((with_reducible refine gate_callee (f := 34) rfl ?_); refine goesL_ (some 51) rfl rfl Tryd.func34 (by kernel_rfl) rfl #[.string ((rdOf ByteArray.empty t173 0).extract 9 12)] rfl (by (try simp only [List.map_toArray, List.map_cons, List.map_nil]); first | done | rfl | (simp only [List.length_drop, List.length_take]; rfl)) ?_; (with_reducible refine (strconv_Atoi.calls ((rdOf ByteArray.empty t173 0).extract 9 12) t180 (none : Option Int) _ ?side1 A18.out).mono ?_); (case side1 => first | exact HT.out | exact tabs_below HT.out (by repeat (first | (with_reducible first | exact HB.out | apply below_alloc | apply pw_below_drewN | apply below_drew1) | exact HB.out))); rintro e w24 ⟨ev_, rfl, hv_, hb⟩; (first | (have hv2_ := Go.Proofs.YtpigloohccpfiaaDoor.M.ErrV.nil hv_; subst hv2_; clear hv_) | (obtain ⟨et_, ep_, hv2_⟩ := Go.Proofs.YtpigloohccpfiaaDoor.M.ErrV.one hv_; subst hv2_; clear hv_)); refine ⟨_, rfl, ?_⟩; have n0_ := Aside0.mk (Kd.R_below (by (with_reducible repeat (first | apply Kd.R_alloc | apply Kd.R_drewN | apply Kd.R_drew)); exact HO_8.out) hb); have n1_ := Aside0.mk (below_step (by repeat (first | (with_reducible first | exact HB.out | apply below_alloc | apply pw_below_drewN | apply below_drew1) | exact HB.out)) hb); clear HO_8; clear HB; have HO_8 := n0_; have HB := n1_; clear n0_ n1_; (try clear hb); (try clear hb2); (try clear hk); (try clear hi); (try simp only [errW_none, errW_some]); have p182 : 0 ≤ (2 : Int) := (by omega); have q182 : 2 < (t173.length : Int) := of_decide_eq_true (by first | (with_reducible assumption) | assumption); obtain ⟨ad182, e182, hx182_0⟩ := Kd.at_string (Kd.R_reads' HO_8.out).2.2 2 p182 q182; obtain rfl : ad179 = ad182 := (by injection e182); (try simp only [show (2 : Int).toNat = 2 from rfl, Nat.reduceMul, Nat.reduceEqDiff, Go.Addr.add, ↓reduceIte] at hx182_0); have qi182 : (2 < t173.length) = True := eq_true (by omega); (try rw [show ((2 : Int)).toNat = 2 from rfl] at hx182_0); replace p182 := eq_true p182; replace q182 := eq_true q182) | ((with_reducible refine gate_callee (f := 35) rfl ?_); refine goesL_ (some 58) rfl rfl Tryd.func35 (by kernel_rfl) rfl #[.string (rdOf ByteArray.empty t173 2), .string (⟨#[67, 111, 110, 116, 101, 110, 116, 45, 76, 101, 110, 103, 116, 104, 58, 32]⟩ : ByteArray)] rfl (by (try simp only [List.map_toArray, List.map_cons, List.map_nil]); first | done | rfl | (simp only [List.length_drop, List.length_take]; rfl)) ?_; (with_reducible refine (strings_TrimPrefix.calls (rdOf ByteArray.empty t173 2) (⟨#[67, 111, 110, 116, 101, 110, 116, 45, 76, 101, 110, 103, 116, 104, 58, 32]⟩ : ByteArray) t183 _ A20.out).mono ?_); rintro e w' ⟨rfl, ⟨nd, rfl⟩⟩; refine ⟨_, rfl, ?_⟩) | ((with_reducible refine gate_callee (f := 34) rfl ?_); refine goesL_ (some 59) rfl rfl Tryd.func34 (by kernel_rfl) rfl #[.string t183] rfl (by (try simp only [List.map_toArray, List.map_cons, List.map_nil]); first | done | rfl | (simp only [List.length_drop, List.length_take]; rfl)) ?_; (with_reducible refine (strconv_Atoi.calls t183 t184 (none : Option Int) _ ?side1 A21.out).mono ?_); (case side1 => first | exact HT.out | exact tabs_below HT.out (by repeat (first | (with_reducible first | exact HB.out | apply below_alloc | apply pw_below_drewN | apply below_drew1) | exact HB.out))); rintro e w25 ⟨ev_, rfl, hv_, hb⟩; (first | (have hv2_ := Go.Proofs.YtpigloohccpfiaaDoor.M.ErrV.nil hv_; subst hv2_; clear hv_) | (obtain ⟨et_, ep_, hv2_⟩ := Go.Proofs.YtpigloohccpfiaaDoor.M.ErrV.one hv_; subst hv2_; clear hv_)); refine ⟨_, rfl, ?_⟩; have n0_ := Aside0.mk (Kd.R_below (by (with_reducible repeat (first | apply Kd.R_alloc | apply Kd.R_drewN | apply Kd.R_drew)); exact HO_8.out) hb); have n1_ := Aside0.mk (below_step (by repeat (first | (with_reducible first | exact HB.out | apply below_alloc | apply pw_below_drewN | apply below_drew1) | exact HB.out)) hb); clear HO_8; clear HB; have HO_8 := n0_; have HB := n1_; clear n0_ n1_; (try clear hb); (try clear hb2); (try clear hk); (try clear hi); (try simp only [errW_none, errW_some])))
          (try simp only [Act.put, List.setIfInBounds_toArray, List.set_cons_zero, List.set_cons_succ])
          go_cut [82] (fun v82 wc => ∃ (kq : Nat) (x82_21 : Bool), v82 = .bool x82_21 ∧ Aside0 (http_Answer.j1 kq a0 t173 t180 t184 (wrap64 ((t170.size : Int) + 4)) x82_21 = some (r1, r2, r3)) ∧ Aside0 (kq ≤ kj3) ∧ Aside0 (Kd.R Kd.string 9 wc w.heap.size (fun _ => True) (.slice (some ad179) t173.length co23) t173) ∧ Aside0 (Below w.heap.size w wc))
          case first =>
           have H := HC22.out
           clear HC22
           have H1 : (if (none : Option Int).isNone = true then (if t184 < 0 then (http_Answer.j1 kj3 a0 t173 t180 t184 (wrap64 ((t170.size : Int) + 4)) true) else (http_Answer.j1 kj3 a0 t173 t180 t184 (wrap64 ((t170.size : Int) + 4)) (decide (t184 > (wrap64 ((a0.size : Int) - (wrap64 ((t170.size : Int) + 4)))))))) else (http_Answer.j1 kj3 a0 t173 t180 t184 (wrap64 ((t170.size : Int) + 4)) true)) = some (r1, r2, r3) := by rw [if_pos (show (none : Option Int).isNone = true by rfl)] at H; exact H
           clear H
           have H := H1
           clear H1
           try simp only [errW_none, errW_some]
           have H1 : (if t184 < 0 then (http_Answer.j1 kj3 a0 t173 t180 t184 (wrap64 ((t170.size : Int) + 4)) true) else (http_Answer.j1 kj3 a0 t173 t180 t184 (wrap64 ((t170.size : Int) + 4)) (decide (t184 > (wrap64 ((a0.size : Int) - (wrap64 ((t170.size : Int) + 4)))))))) = some (r1, r2, r3) := by rw [if_pos (show (none : Option Int).isNone = true by rfl)] at H; exact H
           clear H
           have H := H1
           clear H1
           try simp only [errW_none, errW_some]
           by_cases c26 : t184 < 0
           ·rw [if_pos c26] at H
            have c26b0 : decide (t184 < 0) = true := decide_eq_true c26
            clear c26
            (first | rw [c26b0] | (simp only [i64_w, i32_w]; rw [c26b0]) | skip)
            have H' := Aside0.mk H
            clear H
            go_wp2
            go_meet
            case rel => exact ⟨_, (true), (by first | rfl | (simp; done) | (simp [*]; done)), H', ⟨by have := HJ3.out; first | omega | exact Nat.le_refl _⟩, ⟨by (with_reducible repeat (first | apply Kd.R_alloc | apply Kd.R_drewN | apply Kd.R_drew)); exact HO_8.out⟩, ⟨by repeat (first | (with_reducible first | exact HB.out | apply below_alloc | apply pw_below_drewN | apply below_drew1) | exact HB.out)⟩⟩
           ·rw [if_neg c26] at H
            have c26b0 : decide (t184 < 0) = false := decide_eq_false c26
            clear c26
            (first | rw [c26b0] | (simp only [i64_w, i32_w]; rw [c26b0]) | skip)
            have H' := Aside0.mk H
            clear H
            go_wp2
            go_meet
            case rel => exact ⟨_, (decide (t184 > (wrap64 ((a0.size : Int) - (wrap64 ((t170.size : Int) + 4)))))), (by first | rfl | (simp; done) | (simp [*]; done)), H', ⟨by have := HJ3.out; first | omega | exact Nat.le_refl _⟩, ⟨by (with_reducible repeat (first | apply Kd.R_alloc | apply Kd.R_drewN | apply Kd.R_drew)); exact HO_8.out⟩, ⟨by repeat (first | (with_reducible first | exact HB.out | apply below_alloc | apply pw_below_drewN | apply below_drew1) | exact HB.out)⟩⟩
          case rest =>
           clear HC22
           try clear c1
           try clear p1
           try clear q1
           try clear hx1
           try clear qi1
           try clear c2
           try clear p2
           try clear c3
           try clear c6
           try clear p6
           try clear c7
           try clear c7b0
           try clear c7b1
           try clear c9
           try clear c9b0
           try clear c9b1
           try clear c11
           try clear c14
           try clear c15
           try clear c15b0
           try clear c15b1
           try clear c16
           try clear c16b0
           try clear c16b1
           try clear c17
           try clear c17b0
           try clear c17b1
           try clear p17
           try clear q17
           try clear hx17
           try clear qi17
           try clear p18
           try clear q18
           try clear hx18
           try clear qi18
           try clear c19
           try clear c19b0
           try clear c19b1
           try clear c26
           try clear c26b0
           try clear hx176_0
           try clear hx178_0
           try clear hx179_0
           try clear hx182_0
           try clear p1
           try clear p176
           try clear p178
           try clear p179
           try clear p182
           try clear p2
           try clear q1
           try clear q176
           try clear q178
           try clear q179
           try clear q182
           try clear q186
           try clear q187
           obtain ⟨kq, x82_21, rfl, HA, HJ21, HO_8, HB⟩ := hcut
           cases kq with
           | zero => exact absurd HA.out (by simp [http_Answer.j1])
           | succ kj21 =>
            have H := HA.out
            clear HA
            simp only [http_Answer.j1] at H
            by_cases c27 : x82_21 = true
            ·subst c27
             have H1 : (some (0, (⟨#[]⟩ : ByteArray), 0)) = some (r1, r2, r3) := by rw [if_pos rfl] at H; exact H
             clear H
             have H := H1
             clear H1
             simp only [Option.some.injEq, Prod.mk.injEq] at H
             obtain ⟨rfl, rfl, rfl⟩ := H
             go_wp2
             go_ret3
             exact ⟨by first | rfl | (simp [errW_none, errW_some] <;> rfl) | (simp [*, errW_none, errW_some] <;> rfl), by repeat (first | (with_reducible first | exact HB.out | apply below_alloc | apply pw_below_drewN | apply below_drew1) | exact HB.out)⟩
            ·replace c27 := Bool.eq_false_iff.mpr c27
             subst c27
             have H1 : (if 0 ≤ (wrap64 ((t170.size : Int) + 4)) then (if (wrap64 ((t170.size : Int) + 4)) ≤ (wrap64 ((wrap64 ((t170.size : Int) + 4)) + t184)) then (if (wrap64 ((wrap64 ((t170.size : Int) + 4)) + t184)) ≤ (a0.size : Int) then ((http_Write.f kj21 t180 (a0.extract ((wrap64 ((t170.size : Int) + 4)) : Int).toNat ((wrap64 ((wrap64 ((t170.size : Int) + 4)) + t184)) : Int).toNat) ((t173.length : Int) == 4)).bind fun bt188 => (if 0 ≤ (wrap64 ((wrap64 ((t170.size : Int) + 4)) + t184)) then (if bt188.1.toList = (a0.extract 0 ((wrap64 ((wrap64 ((t170.size : Int) + 4)) + t184)) : Int).toNat).toList then (some (t180, a0.extract ((wrap64 ((t170.size : Int) + 4)) : Int).toNat ((wrap64 ((wrap64 ((t170.size : Int) + 4)) + t184)) : Int).toNat, wrap64 ((wrap64 ((t170.size : Int) + 4)) + t184))) else (some (0, (⟨#[]⟩ : ByteArray), 0))) else (none))) else (none)) else (none)) else (none)) = some (r1, r2, r3) := by rw [if_neg (show ¬ (false = true) by decide)] at H; exact H
             clear H
             have H := H1
             clear H1
             obtain ⟨ji28, hji28⟩ : ∃ j_ : Int, (wrap64 ((t170.size : Int) + 4)) = j_ := ⟨_, rfl⟩
             replace H : (if 0 ≤ (ji28) then (if (ji28) ≤ (wrap64 ((ji28) + t184)) then (if (wrap64 ((ji28) + t184)) ≤ (a0.size : Int) then ((http_Write.f kj21 t180 (a0.extract ((ji28) : Int).toNat ((wrap64 ((ji28) + t184)) : Int).toNat) ((t173.length : Int) == 4)).bind fun bt188 => (if 0 ≤ (wrap64 ((ji28) + t184)) then (if bt188.1.toList = (a0.extract 0 ((wrap64 ((ji28) + t184)) : Int).toNat).toList then (some (t180, a0.extract ((ji28) : Int).toNat ((wrap64 ((ji28) + t184)) : Int).toNat, wrap64 ((ji28) + t184))) else (some (0, (⟨#[]⟩ : ByteArray), 0))) else (none))) else (none)) else (none)) else (none)) = some (r1, r2, r3) := by first | (rw [hji28] at H; exact H) | (simp only [hji28] at H ⊢; exact H)
             have hji28w : (IntKind.i64.wrap ((t170.size : Int) + 4)) = ji28 := (i64_w _).trans hji28
             by_cases c29 : 0 ≤ (ji28)
             ·rw [if_pos c29] at H
              have c29b0 := eq_true c29
              have c29b1 : decide (0 ≤ (ji28)) = true := decide_eq_true c29
              clear c29
              by_cases c30 : (ji28) ≤ (wrap64 ((ji28) + t184))
              ·rw [if_pos c30] at H
               have c30b0 := eq_true c30
               have c30b1 : decide ((ji28) ≤ (wrap64 ((ji28) + t184))) = true := decide_eq_true c30
               by_cases c31 : (wrap64 ((ji28) + t184)) ≤ (a0.size : Int)
               ·rw [if_pos c31] at H
                have c31b0 := eq_true c31
                have c31b1 : decide ((wrap64 ((ji28) + t184)) ≤ (a0.size : Int)) = true := decide_eq_true c31
                replace H := Option.bind_eq_some_iff.mp H
                obtain ⟨⟨t188, t189⟩, A320, H⟩ := H
                replace H : (if 0 ≤ (wrap64 ((ji28) + t184)) then (if t188.toList = (a0.extract 0 ((wrap64 ((ji28) + t184)) : Int).toNat).toList then (some (t180, a0.extract ((ji28) : Int).toNat ((wrap64 ((ji28) + t184)) : Int).toNat, wrap64 ((ji28) + t184))) else (some (0, (⟨#[]⟩ : ByteArray), 0))) else (none)) = some (r1, r2, r3) := H
                have A32 := Aside0.mk A320
                clear A320
                obtain ⟨ji33, hji33⟩ : ∃ j_ : Int, (wrap64 ((ji28) + t184)) = j_ := ⟨_, rfl⟩
                replace H : (if 0 ≤ (ji33) then (if t188.toList = (a0.extract 0 ((ji33) : Int).toNat).toList then (some (t180, a0.extract ((ji28) : Int).toNat ((ji33) : Int).toNat, ji33)) else (some (0, (⟨#[]⟩ : ByteArray), 0))) else (none)) = some (r1, r2, r3) := by first | (rw [hji33] at H; exact H) | (simp only [hji33] at H ⊢; exact H)
                (try rw [hji33] at c30b0)
                (try rw [hji33] at c30b1)
                (try rw [hji33] at c30)
                (try rw [hji33] at c31b0)
                (try rw [hji33] at c31b1)
                (try rw [hji33] at c31)
                (try rw [hji33] at A32)
                have hji33w : (IntKind.i64.wrap ((ji28) + t184)) = ji33 := (i64_w _).trans hji33
                by_cases c34 : 0 ≤ (ji33)
                ·rw [if_pos c34] at H
                 have c34b0 := eq_true c34
                 have c34b1 : decide (0 ≤ (ji33)) = true := decide_eq_true c34
                 clear c34
                 have c35b0 := eq_true (of_decide_eq_true (by first | (with_reducible assumption) | assumption) : (ji33) ≤ (a0.size : Int))
                 by_cases c36 : t188.toList = (a0.extract 0 ((ji33) : Int).toNat).toList
                 ·rw [if_pos c36] at H
                  have c36b0 : (t188.toList == (a0.extract 0 ((ji33) : Int).toNat).toList) = true := beq_iff_eq.mpr c36
                  have c36b1 : (t188.toList != (a0.extract 0 ((ji33) : Int).toNat).toList) = false := bne_eq_false_iff_eq.mpr c36
                  clear c36
                  simp only [Option.some.injEq, Prod.mk.injEq] at H
                  obtain ⟨rfl, rfl, rfl⟩ := H
                  go_wp2_with (first | ((with_reducible refine gate_callee (f := 14) rfl ?_); refine goesL_ (some 95) rfl rfl Tryd.func14 (by kernel_rfl) rfl #[.int .i64 t180, .string (a0.extract ((ji28) : Int).toNat ((ji33) : Int).toNat), .bool ((t173.length : Int) == 4)] rfl (by (try simp only [List.map_toArray, List.map_cons, List.map_nil]); first | done | (simp only [hji28, hji33]; rfl) | rfl | (simp only [List.length_drop, List.length_take]; rfl)) ?_; (with_reducible refine (http_Write.calls kj21 t180 (a0.extract ((ji28) : Int).toNat ((ji33) : Int).toNat) ((t173.length : Int) == 4) t188 t189 _ ?side1 A32.out).mono ?_); (case side1 => first | exact HT.out | exact tabs_below HT.out (by repeat (first | (with_reducible first | exact HB.out | apply below_alloc | apply pw_below_drewN | apply below_drew1) | exact HB.out))); rintro e w37 ⟨rfl, hb⟩; refine ⟨_, rfl, ?_⟩; have n0_ := Aside0.mk (Kd.R_below (by (with_reducible repeat (first | apply Kd.R_alloc | apply Kd.R_drewN | apply Kd.R_drew)); exact HO_8.out) hb); have n1_ := Aside0.mk (below_step (by repeat (first | (with_reducible first | exact HB.out | apply below_alloc | apply pw_below_drewN | apply below_drew1) | exact HB.out)) hb); clear HO_8; clear HB; have HO_8 := n0_; have HB := n1_; clear n0_ n1_; (try clear hb); (try clear hb2); (try clear hk); (try clear hi)))
                  go_ret3
                  exact ⟨by first | rfl | (simp [errW_none, errW_some] <;> rfl) | (simp only [← hji28, ← hji33]; first | rfl | (simp [errW_none, errW_some] <;> rfl)) | (simp [*, errW_none, errW_some] <;> rfl), by repeat (first | (with_reducible first | exact HB.out | apply below_alloc | apply pw_below_drewN | apply below_drew1) | exact HB.out)⟩
                 ·rw [if_neg c36] at H
                  have c36b0 : (t188.toList == (a0.extract 0 ((ji33) : Int).toNat).toList) = false := beq_eq_false_iff_ne.mpr c36
                  have c36b1 : (t188.toList != (a0.extract 0 ((ji33) : Int).toNat).toList) = true := bne_iff_ne.mpr c36
                  simp only [Option.some.injEq, Prod.mk.injEq] at H
                  obtain ⟨rfl, rfl, rfl⟩ := H
                  go_wp2_with (first | ((with_reducible refine gate_callee (f := 14) rfl ?_); refine goesL_ (some 95) rfl rfl Tryd.func14 (by kernel_rfl) rfl #[.int .i64 t180, .string (a0.extract ((ji28) : Int).toNat ((ji33) : Int).toNat), .bool ((t173.length : Int) == 4)] rfl (by (try simp only [List.map_toArray, List.map_cons, List.map_nil]); first | done | (simp only [hji28, hji33]; rfl) | rfl | (simp only [List.length_drop, List.length_take]; rfl)) ?_; (with_reducible refine (http_Write.calls kj21 t180 (a0.extract ((ji28) : Int).toNat ((ji33) : Int).toNat) ((t173.length : Int) == 4) t188 t189 _ ?side1 A32.out).mono ?_); (case side1 => first | exact HT.out | exact tabs_below HT.out (by repeat (first | (with_reducible first | exact HB.out | apply below_alloc | apply pw_below_drewN | apply below_drew1) | exact HB.out))); rintro e w38 ⟨rfl, hb⟩; refine ⟨_, rfl, ?_⟩; have n0_ := Aside0.mk (Kd.R_below (by (with_reducible repeat (first | apply Kd.R_alloc | apply Kd.R_drewN | apply Kd.R_drew)); exact HO_8.out) hb); have n1_ := Aside0.mk (below_step (by repeat (first | (with_reducible first | exact HB.out | apply below_alloc | apply pw_below_drewN | apply below_drew1) | exact HB.out)) hb); clear HO_8; clear HB; have HO_8 := n0_; have HB := n1_; clear n0_ n1_; (try clear hb); (try clear hb2); (try clear hk); (try clear hi)))
                  go_ret3
                  exact ⟨by first | rfl | (simp [errW_none, errW_some] <;> rfl) | (simp only [← hji28, ← hji33]; first | rfl | (simp [errW_none, errW_some] <;> rfl)) | (simp [*, errW_none, errW_some] <;> rfl), by repeat (first | (with_reducible first | exact HB.out | apply below_alloc | apply pw_below_drewN | apply below_drew1) | exact HB.out)⟩
                ·rw [if_neg c34] at H
                 exact absurd H (by simp)
               ·rw [if_neg c31] at H
                exact absurd H (by simp)
              ·rw [if_neg c30] at H
               exact absurd H (by simp)
             ·rw [if_neg c29] at H
              exact absurd H (by simp)
         ·obtain ⟨Ao23, co23, eo23⟩ := Kd.R_slice HO_8.out
          subst eo23
          have p179 : 0 ≤ (0 : Int) := (by omega)
          have q179 : 0 < (t173.length : Int) := of_decide_eq_true (by first | (with_reducible assumption) | assumption)
          obtain ⟨ad179, e179, hx179_0⟩ := Kd.at_string (Kd.R_reads' HO_8.out).2.2 0 p179 q179
          cases e179
          have qi179 : (0 < t173.length) = True := eq_true (by omega)
          (try rw [show ((0 : Int)).toNat = 0 from rfl] at hx179_0)
          (try rw [Addr.add_zero'] at hx179_0)
          replace p179 := eq_true p179
          replace q179 := eq_true q179
          go_upto_region 8 with (first | ((with_reducible refine gate_callee (f := 34) rfl ?_); refine goesL_ (some 51) rfl rfl Tryd.func34 (by kernel_rfl) rfl #[.string ((rdOf ByteArray.empty t173 0).extract 9 12)] rfl (by (try simp only [List.map_toArray, List.map_cons, List.map_nil]); first | done | rfl | (simp only [List.length_drop, List.length_take]; rfl)) ?_; (with_reducible refine (strconv_Atoi.calls ((rdOf ByteArray.empty t173 0).extract 9 12) t180 (none : Option Int) _ ?side1 A18.out).mono ?_); (case side1 => first | exact HT.out | exact tabs_below HT.out (by repeat (first | (with_reducible first | exact HB.out | apply below_alloc | apply pw_below_drewN | apply below_drew1) | exact HB.out))); rintro e w24 ⟨ev_, rfl, hv_, hb⟩; (first | (have hv2_ := Go.Proofs.YtpigloohccpfiaaDoor.M.ErrV.nil hv_; subst hv2_; clear hv_) | (obtain ⟨et_, ep_, hv2_⟩ := Go.Proofs.YtpigloohccpfiaaDoor.M.ErrV.one hv_; subst hv2_; clear hv_)); refine ⟨_, rfl, ?_⟩; have n0_ := Aside0.mk (Kd.R_below (by (with_reducible repeat (first | apply Kd.R_alloc | apply Kd.R_drewN | apply Kd.R_drew)); exact HO_8.out) hb); have n1_ := Aside0.mk (below_step (by repeat (first | (with_reducible first | exact HB.out | apply below_alloc | apply pw_below_drewN | apply below_drew1) | exact HB.out)) hb); clear HO_8; clear HB; have HO_8 := n0_; have HB := n1_; clear n0_ n1_; (try clear hb); (try clear hb2); (try clear hk); (try clear hi); (try simp only [errW_none, errW_some]); have p182 : 0 ≤ (2 : Int) := (by omega); have q182 : 2 < (t173.length : Int) := of_decide_eq_true (by first | (with_reducible assumption) | assumption); obtain ⟨ad182, e182, hx182_0⟩ := Kd.at_string (Kd.R_reads' HO_8.out).2.2 2 p182 q182; obtain rfl : ad179 = ad182 := (by injection e182); (try simp only [show (2 : Int).toNat = 2 from rfl, Nat.reduceMul, Nat.reduceEqDiff, Go.Addr.add, ↓reduceIte] at hx182_0); have qi182 : (2 < t173.length) = True := eq_true (by omega); (try rw [show ((2 : Int)).toNat = 2 from rfl] at hx182_0); replace p182 := eq_true p182; replace q182 := eq_true q182) | ((with_reducible refine gate_callee (f := 35) rfl ?_); refine goesL_ (some 58) rfl rfl Tryd.func35 (by kernel_rfl) rfl #[.string (rdOf ByteArray.empty t173 2), .string (⟨#[67, 111, 110, 116, 101, 110, 116, 45, 76, 101, 110, 103, 116, 104, 58, 32]⟩ : ByteArray)] rfl (by (try simp only [List.map_toArray, List.map_cons, List.map_nil]); first | done | rfl | (simp only [List.length_drop, List.length_take]; rfl)) ?_; (with_reducible refine (strings_TrimPrefix.calls (rdOf ByteArray.empty t173 2) (⟨#[67, 111, 110, 116, 101, 110, 116, 45, 76, 101, 110, 103, 116, 104, 58, 32]⟩ : ByteArray) t183 _ A20.out).mono ?_); rintro e w' ⟨rfl, ⟨nd, rfl⟩⟩; refine ⟨_, rfl, ?_⟩) | ((with_reducible refine gate_callee (f := 34) rfl ?_); refine goesL_ (some 59) rfl rfl Tryd.func34 (by kernel_rfl) rfl #[.string t183] rfl (by (try simp only [List.map_toArray, List.map_cons, List.map_nil]); first | done | rfl | (simp only [List.length_drop, List.length_take]; rfl)) ?_; (with_reducible refine (strconv_Atoi.calls t183 t184 (some q187 : Option Int) _ ?side1 A21.out).mono ?_); (case side1 => first | exact HT.out | exact tabs_below HT.out (by repeat (first | (with_reducible first | exact HB.out | apply below_alloc | apply pw_below_drewN | apply below_drew1) | exact HB.out))); rintro e w25 ⟨ev_, rfl, hv_, hb⟩; (first | (have hv2_ := Go.Proofs.YtpigloohccpfiaaDoor.M.ErrV.nil hv_; subst hv2_; clear hv_) | (obtain ⟨et_, ep_, hv2_⟩ := Go.Proofs.YtpigloohccpfiaaDoor.M.ErrV.one hv_; subst hv2_; clear hv_)); refine ⟨_, rfl, ?_⟩; have n0_ := Aside0.mk (Kd.R_below (by (with_reducible repeat (first | apply Kd.R_alloc | apply Kd.R_drewN | apply Kd.R_drew)); exact HO_8.out) hb); have n1_ := Aside0.mk (below_step (by repeat (first | (with_reducible first | exact HB.out | apply below_alloc | apply pw_below_drewN | apply below_drew1) | exact HB.out)) hb); clear HO_8; clear HB; have HO_8 := n0_; have HB := n1_; clear n0_ n1_; (try clear hb); (try clear hb2); (try clear hk); (try clear hi); (try simp only [errW_none, errW_some])))
          (try simp only [Act.put, List.setIfInBounds_toArray, List.set_cons_zero, List.set_cons_succ])
          go_cut [82] (fun v82 wc => ∃ (kq : Nat) (x82_21 : Bool), v82 = .bool x82_21 ∧ Aside0 (http_Answer.j1 kq a0 t173 t180 t184 (wrap64 ((t170.size : Int) + 4)) x82_21 = some (r1, r2, r3)) ∧ Aside0 (kq ≤ kj3) ∧ Aside0 (Kd.R Kd.string 9 wc w.heap.size (fun _ => True) (.slice (some ad179) t173.length co23) t173) ∧ Aside0 (Below w.heap.size w wc))
          case first =>
           have H := HC22.out
           clear HC22
           have H1 : (if (some q187 : Option Int).isNone = true then (if t184 < 0 then (http_Answer.j1 kj3 a0 t173 t180 t184 (wrap64 ((t170.size : Int) + 4)) true) else (http_Answer.j1 kj3 a0 t173 t180 t184 (wrap64 ((t170.size : Int) + 4)) (decide (t184 > (wrap64 ((a0.size : Int) - (wrap64 ((t170.size : Int) + 4)))))))) else (http_Answer.j1 kj3 a0 t173 t180 t184 (wrap64 ((t170.size : Int) + 4)) true)) = some (r1, r2, r3) := by rw [if_pos (show (none : Option Int).isNone = true by rfl)] at H; exact H
           clear H
           have H := H1
           clear H1
           try simp only [errW_none, errW_some]
           have H1 : (http_Answer.j1 kj3 a0 t173 t180 t184 (wrap64 ((t170.size : Int) + 4)) true) = some (r1, r2, r3) := by rw [if_neg (show ¬ (some q187).isNone = true by simp)] at H; exact H
           clear H
           have H := H1
           clear H1
           try simp only [errW_none, errW_some]
           have H' := Aside0.mk H
           clear H
           go_wp2
           go_meet
           case rel => exact ⟨_, (true), (by first | rfl | (simp; done) | (simp [*]; done)), H', ⟨by have := HJ3.out; first | omega | exact Nat.le_refl _⟩, ⟨by (with_reducible repeat (first | apply Kd.R_alloc | apply Kd.R_drewN | apply Kd.R_drew)); exact HO_8.out⟩, ⟨by repeat (first | (with_reducible first | exact HB.out | apply below_alloc | apply pw_below_drewN | apply below_drew1) | exact HB.out)⟩⟩
          case rest =>
           clear HC22
           try clear c1
           try clear p1
           try clear q1
           try clear hx1
           try clear qi1
           try clear c2
           try clear p2
           try clear c3
           try clear c6
           try clear p6
           try clear c7
           try clear c7b0
           try clear c7b1
           try clear c9
           try clear c9b0
           try clear c9b1
           try clear c11
           try clear c14
           try clear c15
           try clear c15b0
           try clear c15b1
           try clear c16
           try clear c16b0
           try clear c16b1
           try clear c17
           try clear c17b0
           try clear c17b1
           try clear p17
           try clear q17
           try clear hx17
           try clear qi17
           try clear p18
           try clear q18
           try clear hx18
           try clear qi18
           try clear c19
           try clear c19b0
           try clear c19b1
           try clear c26
           try clear c26b0
           try clear hx176_0
           try clear hx178_0
           try clear hx179_0
           try clear hx182_0
           try clear p1
           try clear p176
           try clear p178
           try clear p179
           try clear p182
           try clear p2
           try clear q1
           try clear q176
           try clear q178
           try clear q179
           try clear q182
           try clear q186
           try clear q187
           obtain ⟨kq, x82_21, rfl, HA, HJ21, HO_8, HB⟩ := hcut
           cases kq with
           | zero => exact absurd HA.out (by simp [http_Answer.j1])
           | succ kj21 =>
            have H := HA.out
            clear HA
            simp only [http_Answer.j1] at H
            by_cases c27 : x82_21 = true
            ·subst c27
             have H1 : (some (0, (⟨#[]⟩ : ByteArray), 0)) = some (r1, r2, r3) := by rw [if_pos rfl] at H; exact H
             clear H
             have H := H1
             clear H1
             simp only [Option.some.injEq, Prod.mk.injEq] at H
             obtain ⟨rfl, rfl, rfl⟩ := H
             go_wp2
             go_ret3
             exact ⟨by first | rfl | (simp [errW_none, errW_some] <;> rfl) | (simp [*, errW_none, errW_some] <;> rfl), by repeat (first | (with_reducible first | exact HB.out | apply below_alloc | apply pw_below_drewN | apply below_drew1) | exact HB.out)⟩
            ·replace c27 := Bool.eq_false_iff.mpr c27
             subst c27
             have H1 : (if 0 ≤ (wrap64 ((t170.size : Int) + 4)) then (if (wrap64 ((t170.size : Int) + 4)) ≤ (wrap64 ((wrap64 ((t170.size : Int) + 4)) + t184)) then (if (wrap64 ((wrap64 ((t170.size : Int) + 4)) + t184)) ≤ (a0.size : Int) then ((http_Write.f kj21 t180 (a0.extract ((wrap64 ((t170.size : Int) + 4)) : Int).toNat ((wrap64 ((wrap64 ((t170.size : Int) + 4)) + t184)) : Int).toNat) ((t173.length : Int) == 4)).bind fun bt188 => (if 0 ≤ (wrap64 ((wrap64 ((t170.size : Int) + 4)) + t184)) then (if bt188.1.toList = (a0.extract 0 ((wrap64 ((wrap64 ((t170.size : Int) + 4)) + t184)) : Int).toNat).toList then (some (t180, a0.extract ((wrap64 ((t170.size : Int) + 4)) : Int).toNat ((wrap64 ((wrap64 ((t170.size : Int) + 4)) + t184)) : Int).toNat, wrap64 ((wrap64 ((t170.size : Int) + 4)) + t184))) else (some (0, (⟨#[]⟩ : ByteArray), 0))) else (none))) else (none)) else (none)) else (none)) = some (r1, r2, r3) := by rw [if_neg (show ¬ (false = true) by decide)] at H; exact H
             clear H
             have H := H1
             clear H1
             obtain ⟨ji28, hji28⟩ : ∃ j_ : Int, (wrap64 ((t170.size : Int) + 4)) = j_ := ⟨_, rfl⟩
             replace H : (if 0 ≤ (ji28) then (if (ji28) ≤ (wrap64 ((ji28) + t184)) then (if (wrap64 ((ji28) + t184)) ≤ (a0.size : Int) then ((http_Write.f kj21 t180 (a0.extract ((ji28) : Int).toNat ((wrap64 ((ji28) + t184)) : Int).toNat) ((t173.length : Int) == 4)).bind fun bt188 => (if 0 ≤ (wrap64 ((ji28) + t184)) then (if bt188.1.toList = (a0.extract 0 ((wrap64 ((ji28) + t184)) : Int).toNat).toList then (some (t180, a0.extract ((ji28) : Int).toNat ((wrap64 ((ji28) + t184)) : Int).toNat, wrap64 ((ji28) + t184))) else (some (0, (⟨#[]⟩ : ByteArray), 0))) else (none))) else (none)) else (none)) else (none)) = some (r1, r2, r3) := by first | (rw [hji28] at H; exact H) | (simp only [hji28] at H ⊢; exact H)
             have hji28w : (IntKind.i64.wrap ((t170.size : Int) + 4)) = ji28 := (i64_w _).trans hji28
             by_cases c29 : 0 ≤ (ji28)
             ·rw [if_pos c29] at H
              have c29b0 := eq_true c29
              have c29b1 : decide (0 ≤ (ji28)) = true := decide_eq_true c29
              clear c29
              by_cases c30 : (ji28) ≤ (wrap64 ((ji28) + t184))
              ·rw [if_pos c30] at H
               have c30b0 := eq_true c30
               have c30b1 : decide ((ji28) ≤ (wrap64 ((ji28) + t184))) = true := decide_eq_true c30
               by_cases c31 : (wrap64 ((ji28) + t184)) ≤ (a0.size : Int)
               ·rw [if_pos c31] at H
                have c31b0 := eq_true c31
                have c31b1 : decide ((wrap64 ((ji28) + t184)) ≤ (a0.size : Int)) = true := decide_eq_true c31
                replace H := Option.bind_eq_some_iff.mp H
                obtain ⟨⟨t188, t189⟩, A320, H⟩ := H
                replace H : (if 0 ≤ (wrap64 ((ji28) + t184)) then (if t188.toList = (a0.extract 0 ((wrap64 ((ji28) + t184)) : Int).toNat).toList then (some (t180, a0.extract ((ji28) : Int).toNat ((wrap64 ((ji28) + t184)) : Int).toNat, wrap64 ((ji28) + t184))) else (some (0, (⟨#[]⟩ : ByteArray), 0))) else (none)) = some (r1, r2, r3) := H
                have A32 := Aside0.mk A320
                clear A320
                obtain ⟨ji33, hji33⟩ : ∃ j_ : Int, (wrap64 ((ji28) + t184)) = j_ := ⟨_, rfl⟩
                replace H : (if 0 ≤ (ji33) then (if t188.toList = (a0.extract 0 ((ji33) : Int).toNat).toList then (some (t180, a0.extract ((ji28) : Int).toNat ((ji33) : Int).toNat, ji33)) else (some (0, (⟨#[]⟩ : ByteArray), 0))) else (none)) = some (r1, r2, r3) := by first | (rw [hji33] at H; exact H) | (simp only [hji33] at H ⊢; exact H)
                (try rw [hji33] at c30b0)
                (try rw [hji33] at c30b1)
                (try rw [hji33] at c30)
                (try rw [hji33] at c31b0)
                (try rw [hji33] at c31b1)
                (try rw [hji33] at c31)
                (try rw [hji33] at A32)
                have hji33w : (IntKind.i64.wrap ((ji28) + t184)) = ji33 := (i64_w _).trans hji33
                by_cases c34 : 0 ≤ (ji33)
                ·rw [if_pos c34] at H
                 have c34b0 := eq_true c34
                 have c34b1 : decide (0 ≤ (ji33)) = true := decide_eq_true c34
                 clear c34
                 have c35b0 := eq_true (of_decide_eq_true (by first | (with_reducible assumption) | assumption) : (ji33) ≤ (a0.size : Int))
                 by_cases c36 : t188.toList = (a0.extract 0 ((ji33) : Int).toNat).toList
                 ·rw [if_pos c36] at H
                  have c36b0 : (t188.toList == (a0.extract 0 ((ji33) : Int).toNat).toList) = true := beq_iff_eq.mpr c36
                  have c36b1 : (t188.toList != (a0.extract 0 ((ji33) : Int).toNat).toList) = false := bne_eq_false_iff_eq.mpr c36
                  clear c36
                  simp only [Option.some.injEq, Prod.mk.injEq] at H
                  obtain ⟨rfl, rfl, rfl⟩ := H
                  go_wp2_with (first | ((with_reducible refine gate_callee (f := 14) rfl ?_); refine goesL_ (some 95) rfl rfl Tryd.func14 (by kernel_rfl) rfl #[.int .i64 t180, .string (a0.extract ((ji28) : Int).toNat ((ji33) : Int).toNat), .bool ((t173.length : Int) == 4)] rfl (by (try simp only [List.map_toArray, List.map_cons, List.map_nil]); first | done | (simp only [hji28, hji33]; rfl) | rfl | (simp only [List.length_drop, List.length_take]; rfl)) ?_; (with_reducible refine (http_Write.calls kj21 t180 (a0.extract ((ji28) : Int).toNat ((ji33) : Int).toNat) ((t173.length : Int) == 4) t188 t189 _ ?side1 A32.out).mono ?_); (case side1 => first | exact HT.out | exact tabs_below HT.out (by repeat (first | (with_reducible first | exact HB.out | apply below_alloc | apply pw_below_drewN | apply below_drew1) | exact HB.out))); rintro e w37 ⟨rfl, hb⟩; refine ⟨_, rfl, ?_⟩; have n0_ := Aside0.mk (Kd.R_below (by (with_reducible repeat (first | apply Kd.R_alloc | apply Kd.R_drewN | apply Kd.R_drew)); exact HO_8.out) hb); have n1_ := Aside0.mk (below_step (by repeat (first | (with_reducible first | exact HB.out | apply below_alloc | apply pw_below_drewN | apply below_drew1) | exact HB.out)) hb); clear HO_8; clear HB; have HO_8 := n0_; have HB := n1_; clear n0_ n1_; (try clear hb); (try clear hb2); (try clear hk); (try clear hi)))
                  go_ret3
                  exact ⟨by first | rfl | (simp [errW_none, errW_some] <;> rfl) | (simp only [← hji28, ← hji33]; first | rfl | (simp [errW_none, errW_some] <;> rfl)) | (simp [*, errW_none, errW_some] <;> rfl), by repeat (first | (with_reducible first | exact HB.out | apply below_alloc | apply pw_below_drewN | apply below_drew1) | exact HB.out)⟩
                 ·rw [if_neg c36] at H
                  have c36b0 : (t188.toList == (a0.extract 0 ((ji33) : Int).toNat).toList) = false := beq_eq_false_iff_ne.mpr c36
                  have c36b1 : (t188.toList != (a0.extract 0 ((ji33) : Int).toNat).toList) = true := bne_iff_ne.mpr c36
                  simp only [Option.some.injEq, Prod.mk.injEq] at H
                  obtain ⟨rfl, rfl, rfl⟩ := H
                  go_wp2_with (first | ((with_reducible refine gate_callee (f := 14) rfl ?_); refine goesL_ (some 95) rfl rfl Tryd.func14 (by kernel_rfl) rfl #[.int .i64 t180, .string (a0.extract ((ji28) : Int).toNat ((ji33) : Int).toNat), .bool ((t173.length : Int) == 4)] rfl (by (try simp only [List.map_toArray, List.map_cons, List.map_nil]); first | done | (simp only [hji28, hji33]; rfl) | rfl | (simp only [List.length_drop, List.length_take]; rfl)) ?_; (with_reducible refine (http_Write.calls kj21 t180 (a0.extract ((ji28) : Int).toNat ((ji33) : Int).toNat) ((t173.length : Int) == 4) t188 t189 _ ?side1 A32.out).mono ?_); (case side1 => first | exact HT.out | exact tabs_below HT.out (by repeat (first | (with_reducible first | exact HB.out | apply below_alloc | apply pw_below_drewN | apply below_drew1) | exact HB.out))); rintro e w38 ⟨rfl, hb⟩; refine ⟨_, rfl, ?_⟩; have n0_ := Aside0.mk (Kd.R_below (by (with_reducible repeat (first | apply Kd.R_alloc | apply Kd.R_drewN | apply Kd.R_drew)); exact HO_8.out) hb); have n1_ := Aside0.mk (below_step (by repeat (first | (with_reducible first | exact HB.out | apply below_alloc | apply pw_below_drewN | apply below_drew1) | exact HB.out)) hb); clear HO_8; clear HB; have HO_8 := n0_; have HB := n1_; clear n0_ n1_; (try clear hb); (try clear hb2); (try clear hk); (try clear hi)))
                  go_ret3
                  exact ⟨by first | rfl | (simp [errW_none, errW_some] <;> rfl) | (simp only [← hji28, ← hji33]; first | rfl | (simp [errW_none, errW_some] <;> rfl)) | (simp [*, errW_none, errW_some] <;> rfl), by repeat (first | (with_reducible first | exact HB.out | apply below_alloc | apply pw_below_drewN | apply below_drew1) | exact HB.out)⟩
                ·rw [if_neg c34] at H
                 exact absurd H (by simp)
               ·rw [if_neg c31] at H
                exact absurd H (by simp)
              ·rw [if_neg c30] at H
               exact absurd H (by simp)
             ·rw [if_neg c29] at H
              exact absurd H (by simp)
        ·rcases t185 with _ | q187
         ·obtain ⟨Ao23, co23, eo23⟩ := Kd.R_slice HO_8.out
          subst eo23
          have p179 : 0 ≤ (0 : Int) := (by omega)
          have q179 : 0 < (t173.length : Int) := of_decide_eq_true (by first | (with_reducible assumption) | assumption)
          obtain ⟨ad179, e179, hx179_0⟩ := Kd.at_string (Kd.R_reads' HO_8.out).2.2 0 p179 q179
          cases e179
          have qi179 : (0 < t173.length) = True := eq_true (by omega)
          (try rw [show ((0 : Int)).toNat = 0 from rfl] at hx179_0)
          (try rw [Addr.add_zero'] at hx179_0)
          replace p179 := eq_true p179
          replace q179 := eq_true q179
          go_upto_region 8 with (first | ((with_reducible refine gate_callee (f := 34) rfl ?_); refine goesL_ (some 51) rfl rfl Tryd.func34 (by kernel_rfl) rfl #[.string ((rdOf ByteArray.empty t173 0).extract 9 12)] rfl (by (try simp only [List.map_toArray, List.map_cons, List.map_nil]); first | done | rfl | (simp only [List.length_drop, List.length_take]; rfl)) ?_; (with_reducible refine (strconv_Atoi.calls ((rdOf ByteArray.empty t173 0).extract 9 12) t180 (some q186 : Option Int) _ ?side1 A18.out).mono ?_); (case side1 => first | exact HT.out | exact tabs_below HT.out (by repeat (first | (with_reducible first | exact HB.out | apply below_alloc | apply pw_below_drewN | apply below_drew1) | exact HB.out))); rintro e w24 ⟨ev_, rfl, hv_, hb⟩; (first | (have hv2_ := Go.Proofs.YtpigloohccpfiaaDoor.M.ErrV.nil hv_; subst hv2_; clear hv_) | (obtain ⟨et_, ep_, hv2_⟩ := Go.Proofs.YtpigloohccpfiaaDoor.M.ErrV.one hv_; subst hv2_; clear hv_)); refine ⟨_, rfl, ?_⟩; have n0_ := Aside0.mk (Kd.R_below (by (with_reducible repeat (first | apply Kd.R_alloc | apply Kd.R_drewN | apply Kd.R_drew)); exact HO_8.out) hb); have n1_ := Aside0.mk (below_step (by repeat (first | (with_reducible first | exact HB.out | apply below_alloc | apply pw_below_drewN | apply below_drew1) | exact HB.out)) hb); clear HO_8; clear HB; have HO_8 := n0_; have HB := n1_; clear n0_ n1_; (try clear hb); (try clear hb2); (try clear hk); (try clear hi); (try simp only [errW_none, errW_some]); have p182 : 0 ≤ (2 : Int) := (by omega); have q182 : 2 < (t173.length : Int) := of_decide_eq_true (by first | (with_reducible assumption) | assumption); obtain ⟨ad182, e182, hx182_0⟩ := Kd.at_string (Kd.R_reads' HO_8.out).2.2 2 p182 q182; obtain rfl : ad179 = ad182 := (by injection e182); (try simp only [show (2 : Int).toNat = 2 from rfl, Nat.reduceMul, Nat.reduceEqDiff, Go.Addr.add, ↓reduceIte] at hx182_0); have qi182 : (2 < t173.length) = True := eq_true (by omega); (try rw [show ((2 : Int)).toNat = 2 from rfl] at hx182_0); replace p182 := eq_true p182; replace q182 := eq_true q182) | ((with_reducible refine gate_callee (f := 35) rfl ?_); refine goesL_ (some 58) rfl rfl Tryd.func35 (by kernel_rfl) rfl #[.string (rdOf ByteArray.empty t173 2), .string (⟨#[67, 111, 110, 116, 101, 110, 116, 45, 76, 101, 110, 103, 116, 104, 58, 32]⟩ : ByteArray)] rfl (by (try simp only [List.map_toArray, List.map_cons, List.map_nil]); first | done | rfl | (simp only [List.length_drop, List.length_take]; rfl)) ?_; (with_reducible refine (strings_TrimPrefix.calls (rdOf ByteArray.empty t173 2) (⟨#[67, 111, 110, 116, 101, 110, 116, 45, 76, 101, 110, 103, 116, 104, 58, 32]⟩ : ByteArray) t183 _ A20.out).mono ?_); rintro e w' ⟨rfl, ⟨nd, rfl⟩⟩; refine ⟨_, rfl, ?_⟩) | ((with_reducible refine gate_callee (f := 34) rfl ?_); refine goesL_ (some 59) rfl rfl Tryd.func34 (by kernel_rfl) rfl #[.string t183] rfl (by (try simp only [List.map_toArray, List.map_cons, List.map_nil]); first | done | rfl | (simp only [List.length_drop, List.length_take]; rfl)) ?_; (with_reducible refine (strconv_Atoi.calls t183 t184 (none : Option Int) _ ?side1 A21.out).mono ?_); (case side1 => first | exact HT.out | exact tabs_below HT.out (by repeat (first | (with_reducible first | exact HB.out | apply below_alloc | apply pw_below_drewN | apply below_drew1) | exact HB.out))); rintro e w25 ⟨ev_, rfl, hv_, hb⟩; (first | (have hv2_ := Go.Proofs.YtpigloohccpfiaaDoor.M.ErrV.nil hv_; subst hv2_; clear hv_) | (obtain ⟨et_, ep_, hv2_⟩ := Go.Proofs.YtpigloohccpfiaaDoor.M.ErrV.one hv_; subst hv2_; clear hv_)); refine ⟨_, rfl, ?_⟩; have n0_ := Aside0.mk (Kd.R_below (by (with_reducible repeat (first | apply Kd.R_alloc | apply Kd.R_drewN | apply Kd.R_drew)); exact HO_8.out) hb); have n1_ := Aside0.mk (below_step (by repeat (first | (with_reducible first | exact HB.out | apply below_alloc | apply pw_below_drewN | apply below_drew1) | exact HB.out)) hb); clear HO_8; clear HB; have HO_8 := n0_; have HB := n1_; clear n0_ n1_; (try clear hb); (try clear hb2); (try clear hk); (try clear hi); (try simp only [errW_none, errW_some])))
          (try simp only [Act.put, List.setIfInBounds_toArray, List.set_cons_zero, List.set_cons_succ])
          go_cut [82] (fun v82 wc => ∃ (kq : Nat) (x82_21 : Bool), v82 = .bool x82_21 ∧ Aside0 (http_Answer.j1 kq a0 t173 t180 t184 (wrap64 ((t170.size : Int) + 4)) x82_21 = some (r1, r2, r3)) ∧ Aside0 (kq ≤ kj3) ∧ Aside0 (Kd.R Kd.string 9 wc w.heap.size (fun _ => True) (.slice (some ad179) t173.length co23) t173) ∧ Aside0 (Below w.heap.size w wc))
          case first =>
           have H := HC22.out
           clear HC22
           have H1 : (http_Answer.j1 kj3 a0 t173 t180 t184 (wrap64 ((t170.size : Int) + 4)) true) = some (r1, r2, r3) := by rw [if_neg (show ¬ (some q186).isNone = true by simp)] at H; exact H
           clear H
           have H := H1
           clear H1
           try simp only [errW_none, errW_some]
           have H' := Aside0.mk H
           clear H
           go_wp2
           go_meet
           case rel => exact ⟨_, (true), (by first | rfl | (simp; done) | (simp [*]; done)), H', ⟨by have := HJ3.out; first | omega | exact Nat.le_refl _⟩, ⟨by (with_reducible repeat (first | apply Kd.R_alloc | apply Kd.R_drewN | apply Kd.R_drew)); exact HO_8.out⟩, ⟨by repeat (first | (with_reducible first | exact HB.out | apply below_alloc | apply pw_below_drewN | apply below_drew1) | exact HB.out)⟩⟩
          case rest =>
           clear HC22
           try clear c1
           try clear p1
           try clear q1
           try clear hx1
           try clear qi1
           try clear c2
           try clear p2
           try clear c3
           try clear c6
           try clear p6
           try clear c7
           try clear c7b0
           try clear c7b1
           try clear c9
           try clear c9b0
           try clear c9b1
           try clear c11
           try clear c14
           try clear c15
           try clear c15b0
           try clear c15b1
           try clear c16
           try clear c16b0
           try clear c16b1
           try clear c17
           try clear c17b0
           try clear c17b1
           try clear p17
           try clear q17
           try clear hx17
           try clear qi17
           try clear p18
           try clear q18
           try clear hx18
           try clear qi18
           try clear c19
           try clear c19b0
           try clear c19b1
           try clear c26
           try clear c26b0
           try clear hx176_0
           try clear hx178_0
           try clear hx179_0
           try clear hx182_0
           try clear p1
           try clear p176
           try clear p178
           try clear p179
           try clear p182
           try clear p2
           try clear q1
           try clear q176
           try clear q178
           try clear q179
           try clear q182
           try clear q186
           try clear q187
           obtain ⟨kq, x82_21, rfl, HA, HJ21, HO_8, HB⟩ := hcut
           cases kq with
           | zero => exact absurd HA.out (by simp [http_Answer.j1])
           | succ kj21 =>
            have H := HA.out
            clear HA
            simp only [http_Answer.j1] at H
            by_cases c27 : x82_21 = true
            ·subst c27
             have H1 : (some (0, (⟨#[]⟩ : ByteArray), 0)) = some (r1, r2, r3) := by rw [if_pos rfl] at H; exact H
             clear H
             have H := H1
             clear H1
             simp only [Option.some.injEq, Prod.mk.injEq] at H
             obtain ⟨rfl, rfl, rfl⟩ := H
             go_wp2
             go_ret3
             exact ⟨by first | rfl | (simp [errW_none, errW_some] <;> rfl) | (simp [*, errW_none, errW_some] <;> rfl), by repeat (first | (with_reducible first | exact HB.out | apply below_alloc | apply pw_below_drewN | apply below_drew1) | exact HB.out)⟩
            ·replace c27 := Bool.eq_false_iff.mpr c27
             subst c27
             have H1 : (if 0 ≤ (wrap64 ((t170.size : Int) + 4)) then (if (wrap64 ((t170.size : Int) + 4)) ≤ (wrap64 ((wrap64 ((t170.size : Int) + 4)) + t184)) then (if (wrap64 ((wrap64 ((t170.size : Int) + 4)) + t184)) ≤ (a0.size : Int) then ((http_Write.f kj21 t180 (a0.extract ((wrap64 ((t170.size : Int) + 4)) : Int).toNat ((wrap64 ((wrap64 ((t170.size : Int) + 4)) + t184)) : Int).toNat) ((t173.length : Int) == 4)).bind fun bt188 => (if 0 ≤ (wrap64 ((wrap64 ((t170.size : Int) + 4)) + t184)) then (if bt188.1.toList = (a0.extract 0 ((wrap64 ((wrap64 ((t170.size : Int) + 4)) + t184)) : Int).toNat).toList then (some (t180, a0.extract ((wrap64 ((t170.size : Int) + 4)) : Int).toNat ((wrap64 ((wrap64 ((t170.size : Int) + 4)) + t184)) : Int).toNat, wrap64 ((wrap64 ((t170.size : Int) + 4)) + t184))) else (some (0, (⟨#[]⟩ : ByteArray), 0))) else (none))) else (none)) else (none)) else (none)) = some (r1, r2, r3) := by rw [if_neg (show ¬ (false = true) by decide)] at H; exact H
             clear H
             have H := H1
             clear H1
             obtain ⟨ji28, hji28⟩ : ∃ j_ : Int, (wrap64 ((t170.size : Int) + 4)) = j_ := ⟨_, rfl⟩
             replace H : (if 0 ≤ (ji28) then (if (ji28) ≤ (wrap64 ((ji28) + t184)) then (if (wrap64 ((ji28) + t184)) ≤ (a0.size : Int) then ((http_Write.f kj21 t180 (a0.extract ((ji28) : Int).toNat ((wrap64 ((ji28) + t184)) : Int).toNat) ((t173.length : Int) == 4)).bind fun bt188 => (if 0 ≤ (wrap64 ((ji28) + t184)) then (if bt188.1.toList = (a0.extract 0 ((wrap64 ((ji28) + t184)) : Int).toNat).toList then (some (t180, a0.extract ((ji28) : Int).toNat ((wrap64 ((ji28) + t184)) : Int).toNat, wrap64 ((ji28) + t184))) else (some (0, (⟨#[]⟩ : ByteArray), 0))) else (none))) else (none)) else (none)) else (none)) = some (r1, r2, r3) := by first | (rw [hji28] at H; exact H) | (simp only [hji28] at H ⊢; exact H)
             have hji28w : (IntKind.i64.wrap ((t170.size : Int) + 4)) = ji28 := (i64_w _).trans hji28
             by_cases c29 : 0 ≤ (ji28)
             ·rw [if_pos c29] at H
              have c29b0 := eq_true c29
              have c29b1 : decide (0 ≤ (ji28)) = true := decide_eq_true c29
              clear c29
              by_cases c30 : (ji28) ≤ (wrap64 ((ji28) + t184))
              ·rw [if_pos c30] at H
               have c30b0 := eq_true c30
               have c30b1 : decide ((ji28) ≤ (wrap64 ((ji28) + t184))) = true := decide_eq_true c30
               by_cases c31 : (wrap64 ((ji28) + t184)) ≤ (a0.size : Int)
               ·rw [if_pos c31] at H
                have c31b0 := eq_true c31
                have c31b1 : decide ((wrap64 ((ji28) + t184)) ≤ (a0.size : Int)) = true := decide_eq_true c31
                replace H := Option.bind_eq_some_iff.mp H
                obtain ⟨⟨t188, t189⟩, A320, H⟩ := H
                replace H : (if 0 ≤ (wrap64 ((ji28) + t184)) then (if t188.toList = (a0.extract 0 ((wrap64 ((ji28) + t184)) : Int).toNat).toList then (some (t180, a0.extract ((ji28) : Int).toNat ((wrap64 ((ji28) + t184)) : Int).toNat, wrap64 ((ji28) + t184))) else (some (0, (⟨#[]⟩ : ByteArray), 0))) else (none)) = some (r1, r2, r3) := H
                have A32 := Aside0.mk A320
                clear A320
                obtain ⟨ji33, hji33⟩ : ∃ j_ : Int, (wrap64 ((ji28) + t184)) = j_ := ⟨_, rfl⟩
                replace H : (if 0 ≤ (ji33) then (if t188.toList = (a0.extract 0 ((ji33) : Int).toNat).toList then (some (t180, a0.extract ((ji28) : Int).toNat ((ji33) : Int).toNat, ji33)) else (some (0, (⟨#[]⟩ : ByteArray), 0))) else (none)) = some (r1, r2, r3) := by first | (rw [hji33] at H; exact H) | (simp only [hji33] at H ⊢; exact H)
                (try rw [hji33] at c30b0)
                (try rw [hji33] at c30b1)
                (try rw [hji33] at c30)
                (try rw [hji33] at c31b0)
                (try rw [hji33] at c31b1)
                (try rw [hji33] at c31)
                (try rw [hji33] at A32)
                have hji33w : (IntKind.i64.wrap ((ji28) + t184)) = ji33 := (i64_w _).trans hji33
                by_cases c34 : 0 ≤ (ji33)
                ·rw [if_pos c34] at H
                 have c34b0 := eq_true c34
                 have c34b1 : decide (0 ≤ (ji33)) = true := decide_eq_true c34
                 clear c34
                 have c35b0 := eq_true (of_decide_eq_true (by first | (with_reducible assumption) | assumption) : (ji33) ≤ (a0.size : Int))
                 by_cases c36 : t188.toList = (a0.extract 0 ((ji33) : Int).toNat).toList
                 ·rw [if_pos c36] at H
                  have c36b0 : (t188.toList == (a0.extract 0 ((ji33) : Int).toNat).toList) = true := beq_iff_eq.mpr c36
                  have c36b1 : (t188.toList != (a0.extract 0 ((ji33) : Int).toNat).toList) = false := bne_eq_false_iff_eq.mpr c36
                  clear c36
                  simp only [Option.some.injEq, Prod.mk.injEq] at H
                  obtain ⟨rfl, rfl, rfl⟩ := H
                  go_wp2_with (first | ((with_reducible refine gate_callee (f := 14) rfl ?_); refine goesL_ (some 95) rfl rfl Tryd.func14 (by kernel_rfl) rfl #[.int .i64 t180, .string (a0.extract ((ji28) : Int).toNat ((ji33) : Int).toNat), .bool ((t173.length : Int) == 4)] rfl (by (try simp only [List.map_toArray, List.map_cons, List.map_nil]); first | done | (simp only [hji28, hji33]; rfl) | rfl | (simp only [List.length_drop, List.length_take]; rfl)) ?_; (with_reducible refine (http_Write.calls kj21 t180 (a0.extract ((ji28) : Int).toNat ((ji33) : Int).toNat) ((t173.length : Int) == 4) t188 t189 _ ?side1 A32.out).mono ?_); (case side1 => first | exact HT.out | exact tabs_below HT.out (by repeat (first | (with_reducible first | exact HB.out | apply below_alloc | apply pw_below_drewN | apply below_drew1) | exact HB.out))); rintro e w37 ⟨rfl, hb⟩; refine ⟨_, rfl, ?_⟩; have n0_ := Aside0.mk (Kd.R_below (by (with_reducible repeat (first | apply Kd.R_alloc | apply Kd.R_drewN | apply Kd.R_drew)); exact HO_8.out) hb); have n1_ := Aside0.mk (below_step (by repeat (first | (with_reducible first | exact HB.out | apply below_alloc | apply pw_below_drewN | apply below_drew1) | exact HB.out)) hb); clear HO_8; clear HB; have HO_8 := n0_; have HB := n1_; clear n0_ n1_; (try clear hb); (try clear hb2); (try clear hk); (try clear hi)))
                  go_ret3
                  exact ⟨by first | rfl | (simp [errW_none, errW_some] <;> rfl) | (simp only [← hji28, ← hji33]; first | rfl | (simp [errW_none, errW_some] <;> rfl)) | (simp [*, errW_none, errW_some] <;> rfl), by repeat (first | (with_reducible first | exact HB.out | apply below_alloc | apply pw_below_drewN | apply below_drew1) | exact HB.out)⟩
                 ·rw [if_neg c36] at H
                  have c36b0 : (t188.toList == (a0.extract 0 ((ji33) : Int).toNat).toList) = false := beq_eq_false_iff_ne.mpr c36
                  have c36b1 : (t188.toList != (a0.extract 0 ((ji33) : Int).toNat).toList) = true := bne_iff_ne.mpr c36
                  simp only [Option.some.injEq, Prod.mk.injEq] at H
                  obtain ⟨rfl, rfl, rfl⟩ := H
                  go_wp2_with (first | ((with_reducible refine gate_callee (f := 14) rfl ?_); refine goesL_ (some 95) rfl rfl Tryd.func14 (by kernel_rfl) rfl #[.int .i64 t180, .string (a0.extract ((ji28) : Int).toNat ((ji33) : Int).toNat), .bool ((t173.length : Int) == 4)] rfl (by (try simp only [List.map_toArray, List.map_cons, List.map_nil]); first | done | (simp only [hji28, hji33]; rfl) | rfl | (simp only [List.length_drop, List.length_take]; rfl)) ?_; (with_reducible refine (http_Write.calls kj21 t180 (a0.extract ((ji28) : Int).toNat ((ji33) : Int).toNat) ((t173.length : Int) == 4) t188 t189 _ ?side1 A32.out).mono ?_); (case side1 => first | exact HT.out | exact tabs_below HT.out (by repeat (first | (with_reducible first | exact HB.out | apply below_alloc | apply pw_below_drewN | apply below_drew1) | exact HB.out))); rintro e w38 ⟨rfl, hb⟩; refine ⟨_, rfl, ?_⟩; have n0_ := Aside0.mk (Kd.R_below (by (with_reducible repeat (first | apply Kd.R_alloc | apply Kd.R_drewN | apply Kd.R_drew)); exact HO_8.out) hb); have n1_ := Aside0.mk (below_step (by repeat (first | (with_reducible first | exact HB.out | apply below_alloc | apply pw_below_drewN | apply below_drew1) | exact HB.out)) hb); clear HO_8; clear HB; have HO_8 := n0_; have HB := n1_; clear n0_ n1_; (try clear hb); (try clear hb2); (try clear hk); (try clear hi)))
                  go_ret3
                  exact ⟨by first | rfl | (simp [errW_none, errW_some] <;> rfl) | (simp only [← hji28, ← hji33]; first | rfl | (simp [errW_none, errW_some] <;> rfl)) | (simp [*, errW_none, errW_some] <;> rfl), by repeat (first | (with_reducible first | exact HB.out | apply below_alloc | apply pw_below_drewN | apply below_drew1) | exact HB.out)⟩
                ·rw [if_neg c34] at H
                 exact absurd H (by simp)
               ·rw [if_neg c31] at H
                exact absurd H (by simp)
              ·rw [if_neg c30] at H
               exact absurd H (by simp)
             ·rw [if_neg c29] at H
              exact absurd H (by simp)
         ·obtain ⟨Ao23, co23, eo23⟩ := Kd.R_slice HO_8.out
          subst eo23
          have p179 : 0 ≤ (0 : Int) := (by omega)
          have q179 : 0 < (t173.length : Int) := of_decide_eq_true (by first | (with_reducible assumption) | assumption)
          obtain ⟨ad179, e179, hx179_0⟩ := Kd.at_string (Kd.R_reads' HO_8.out).2.2 0 p179 q179
          cases e179
          have qi179 : (0 < t173.length) = True := eq_true (by omega)
          (try rw [show ((0 : Int)).toNat = 0 from rfl] at hx179_0)
          (try rw [Addr.add_zero'] at hx179_0)
          replace p179 := eq_true p179
          replace q179 := eq_true q179
          go_upto_region 8 with (first | ((with_reducible refine gate_callee (f := 34) rfl ?_); refine goesL_ (some 51) rfl rfl Tryd.func34 (by kernel_rfl) rfl #[.string ((rdOf ByteArray.empty t173 0).extract 9 12)] rfl (by (try simp only [List.map_toArray, List.map_cons, List.map_nil]); first | done | rfl | (simp only [List.length_drop, List.length_take]; rfl)) ?_; (with_reducible refine (strconv_Atoi.calls ((rdOf ByteArray.empty t173 0).extract 9 12) t180 (some q186 : Option Int) _ ?side1 A18.out).mono ?_); (case side1 => first | exact HT.out | exact tabs_below HT.out (by repeat (first | (with_reducible first | exact HB.out | apply below_alloc | apply pw_below_drewN | apply below_drew1) | exact HB.out))); rintro e w24 ⟨ev_, rfl, hv_, hb⟩; (first | (have hv2_ := Go.Proofs.YtpigloohccpfiaaDoor.M.ErrV.nil hv_; subst hv2_; clear hv_) | (obtain ⟨et_, ep_, hv2_⟩ := Go.Proofs.YtpigloohccpfiaaDoor.M.ErrV.one hv_; subst hv2_; clear hv_)); refine ⟨_, rfl, ?_⟩; have n0_ := Aside0.mk (Kd.R_below (by (with_reducible repeat (first | apply Kd.R_alloc | apply Kd.R_drewN | apply Kd.R_drew)); exact HO_8.out) hb); have n1_ := Aside0.mk (below_step (by repeat (first | (with_reducible first | exact HB.out | apply below_alloc | apply pw_below_drewN | apply below_drew1) | exact HB.out)) hb); clear HO_8; clear HB; have HO_8 := n0_; have HB := n1_; clear n0_ n1_; (try clear hb); (try clear hb2); (try clear hk); (try clear hi); (try simp only [errW_none, errW_some]); have p182 : 0 ≤ (2 : Int) := (by omega); have q182 : 2 < (t173.length : Int) := of_decide_eq_true (by first | (with_reducible assumption) | assumption); obtain ⟨ad182, e182, hx182_0⟩ := Kd.at_string (Kd.R_reads' HO_8.out).2.2 2 p182 q182; obtain rfl : ad179 = ad182 := (by injection e182); (try simp only [show (2 : Int).toNat = 2 from rfl, Nat.reduceMul, Nat.reduceEqDiff, Go.Addr.add, ↓reduceIte] at hx182_0); have qi182 : (2 < t173.length) = True := eq_true (by omega); (try rw [show ((2 : Int)).toNat = 2 from rfl] at hx182_0); replace p182 := eq_true p182; replace q182 := eq_true q182) | ((with_reducible refine gate_callee (f := 35) rfl ?_); refine goesL_ (some 58) rfl rfl Tryd.func35 (by kernel_rfl) rfl #[.string (rdOf ByteArray.empty t173 2), .string (⟨#[67, 111, 110, 116, 101, 110, 116, 45, 76, 101, 110, 103, 116, 104, 58, 32]⟩ : ByteArray)] rfl (by (try simp only [List.map_toArray, List.map_cons, List.map_nil]); first | done | rfl | (simp only [List.length_drop, List.length_take]; rfl)) ?_; (with_reducible refine (strings_TrimPrefix.calls (rdOf ByteArray.empty t173 2) (⟨#[67, 111, 110, 116, 101, 110, 116, 45, 76, 101, 110, 103, 116, 104, 58, 32]⟩ : ByteArray) t183 _ A20.out).mono ?_); rintro e w' ⟨rfl, ⟨nd, rfl⟩⟩; refine ⟨_, rfl, ?_⟩) | ((with_reducible refine gate_callee (f := 34) rfl ?_); refine goesL_ (some 59) rfl rfl Tryd.func34 (by kernel_rfl) rfl #[.string t183] rfl (by (try simp only [List.map_toArray, List.map_cons, List.map_nil]); first | done | rfl | (simp only [List.length_drop, List.length_take]; rfl)) ?_; (with_reducible refine (strconv_Atoi.calls t183 t184 (some q187 : Option Int) _ ?side1 A21.out).mono ?_); (case side1 => first | exact HT.out | exact tabs_below HT.out (by repeat (first | (with_reducible first | exact HB.out | apply below_alloc | apply pw_below_drewN | apply below_drew1) | exact HB.out))); rintro e w25 ⟨ev_, rfl, hv_, hb⟩; (first | (have hv2_ := Go.Proofs.YtpigloohccpfiaaDoor.M.ErrV.nil hv_; subst hv2_; clear hv_) | (obtain ⟨et_, ep_, hv2_⟩ := Go.Proofs.YtpigloohccpfiaaDoor.M.ErrV.one hv_; subst hv2_; clear hv_)); refine ⟨_, rfl, ?_⟩; have n0_ := Aside0.mk (Kd.R_below (by (with_reducible repeat (first | apply Kd.R_alloc | apply Kd.R_drewN | apply Kd.R_drew)); exact HO_8.out) hb); have n1_ := Aside0.mk (below_step (by repeat (first | (with_reducible first | exact HB.out | apply below_alloc | apply pw_below_drewN | apply below_drew1) | exact HB.out)) hb); clear HO_8; clear HB; have HO_8 := n0_; have HB := n1_; clear n0_ n1_; (try clear hb); (try clear hb2); (try clear hk); (try clear hi); (try simp only [errW_none, errW_some])))
          (try simp only [Act.put, List.setIfInBounds_toArray, List.set_cons_zero, List.set_cons_succ])
          go_cut [82] (fun v82 wc => ∃ (kq : Nat) (x82_21 : Bool), v82 = .bool x82_21 ∧ Aside0 (http_Answer.j1 kq a0 t173 t180 t184 (wrap64 ((t170.size : Int) + 4)) x82_21 = some (r1, r2, r3)) ∧ Aside0 (kq ≤ kj3) ∧ Aside0 (Kd.R Kd.string 9 wc w.heap.size (fun _ => True) (.slice (some ad179) t173.length co23) t173) ∧ Aside0 (Below w.heap.size w wc))
          case first =>
           have H := HC22.out
           clear HC22
           have H1 : (http_Answer.j1 kj3 a0 t173 t180 t184 (wrap64 ((t170.size : Int) + 4)) true) = some (r1, r2, r3) := by rw [if_neg (show ¬ (some q186).isNone = true by simp)] at H; exact H
           clear H
           have H := H1
           clear H1
           try simp only [errW_none, errW_some]
           have H' := Aside0.mk H
           clear H
           go_wp2
           go_meet
           case rel => exact ⟨_, (true), (by first | rfl | (simp; done) | (simp [*]; done)), H', ⟨by have := HJ3.out; first | omega | exact Nat.le_refl _⟩, ⟨by (with_reducible repeat (first | apply Kd.R_alloc | apply Kd.R_drewN | apply Kd.R_drew)); exact HO_8.out⟩, ⟨by repeat (first | (with_reducible first | exact HB.out | apply below_alloc | apply pw_below_drewN | apply below_drew1) | exact HB.out)⟩⟩
          case rest =>
           clear HC22
           try clear c1
           try clear p1
           try clear q1
           try clear hx1
           try clear qi1
           try clear c2
           try clear p2
           try clear c3
           try clear c6
           try clear p6
           try clear c7
           try clear c7b0
           try clear c7b1
           try clear c9
           try clear c9b0
           try clear c9b1
           try clear c11
           try clear c14
           try clear c15
           try clear c15b0
           try clear c15b1
           try clear c16
           try clear c16b0
           try clear c16b1
           try clear c17
           try clear c17b0
           try clear c17b1
           try clear p17
           try clear q17
           try clear hx17
           try clear qi17
           try clear p18
           try clear q18
           try clear hx18
           try clear qi18
           try clear c19
           try clear c19b0
           try clear c19b1
           try clear c26
           try clear c26b0
           try clear hx176_0
           try clear hx178_0
           try clear hx179_0
           try clear hx182_0
           try clear p1
           try clear p176
           try clear p178
           try clear p179
           try clear p182
           try clear p2
           try clear q1
           try clear q176
           try clear q178
           try clear q179
           try clear q182
           try clear q186
           try clear q187
           obtain ⟨kq, x82_21, rfl, HA, HJ21, HO_8, HB⟩ := hcut
           cases kq with
           | zero => exact absurd HA.out (by simp [http_Answer.j1])
           | succ kj21 =>
            have H := HA.out
            clear HA
            simp only [http_Answer.j1] at H
            by_cases c27 : x82_21 = true
            ·subst c27
             have H1 : (some (0, (⟨#[]⟩ : ByteArray), 0)) = some (r1, r2, r3) := by rw [if_pos rfl] at H; exact H
             clear H
             have H := H1
             clear H1
             simp only [Option.some.injEq, Prod.mk.injEq] at H
             obtain ⟨rfl, rfl, rfl⟩ := H
             go_wp2
             go_ret3
             exact ⟨by first | rfl | (simp [errW_none, errW_some] <;> rfl) | (simp [*, errW_none, errW_some] <;> rfl), by repeat (first | (with_reducible first | exact HB.out | apply below_alloc | apply pw_below_drewN | apply below_drew1) | exact HB.out)⟩
            ·replace c27 := Bool.eq_false_iff.mpr c27
             subst c27
             have H1 : (if 0 ≤ (wrap64 ((t170.size : Int) + 4)) then (if (wrap64 ((t170.size : Int) + 4)) ≤ (wrap64 ((wrap64 ((t170.size : Int) + 4)) + t184)) then (if (wrap64 ((wrap64 ((t170.size : Int) + 4)) + t184)) ≤ (a0.size : Int) then ((http_Write.f kj21 t180 (a0.extract ((wrap64 ((t170.size : Int) + 4)) : Int).toNat ((wrap64 ((wrap64 ((t170.size : Int) + 4)) + t184)) : Int).toNat) ((t173.length : Int) == 4)).bind fun bt188 => (if 0 ≤ (wrap64 ((wrap64 ((t170.size : Int) + 4)) + t184)) then (if bt188.1.toList = (a0.extract 0 ((wrap64 ((wrap64 ((t170.size : Int) + 4)) + t184)) : Int).toNat).toList then (some (t180, a0.extract ((wrap64 ((t170.size : Int) + 4)) : Int).toNat ((wrap64 ((wrap64 ((t170.size : Int) + 4)) + t184)) : Int).toNat, wrap64 ((wrap64 ((t170.size : Int) + 4)) + t184))) else (some (0, (⟨#[]⟩ : ByteArray), 0))) else (none))) else (none)) else (none)) else (none)) = some (r1, r2, r3) := by rw [if_neg (show ¬ (false = true) by decide)] at H; exact H
             clear H
             have H := H1
             clear H1
             obtain ⟨ji28, hji28⟩ : ∃ j_ : Int, (wrap64 ((t170.size : Int) + 4)) = j_ := ⟨_, rfl⟩
             replace H : (if 0 ≤ (ji28) then (if (ji28) ≤ (wrap64 ((ji28) + t184)) then (if (wrap64 ((ji28) + t184)) ≤ (a0.size : Int) then ((http_Write.f kj21 t180 (a0.extract ((ji28) : Int).toNat ((wrap64 ((ji28) + t184)) : Int).toNat) ((t173.length : Int) == 4)).bind fun bt188 => (if 0 ≤ (wrap64 ((ji28) + t184)) then (if bt188.1.toList = (a0.extract 0 ((wrap64 ((ji28) + t184)) : Int).toNat).toList then (some (t180, a0.extract ((ji28) : Int).toNat ((wrap64 ((ji28) + t184)) : Int).toNat, wrap64 ((ji28) + t184))) else (some (0, (⟨#[]⟩ : ByteArray), 0))) else (none))) else (none)) else (none)) else (none)) = some (r1, r2, r3) := by first | (rw [hji28] at H; exact H) | (simp only [hji28] at H ⊢; exact H)
             have hji28w : (IntKind.i64.wrap ((t170.size : Int) + 4)) = ji28 := (i64_w _).trans hji28
             by_cases c29 : 0 ≤ (ji28)
             ·rw [if_pos c29] at H
              have c29b0 := eq_true c29
              have c29b1 : decide (0 ≤ (ji28)) = true := decide_eq_true c29
              clear c29
              by_cases c30 : (ji28) ≤ (wrap64 ((ji28) + t184))
              ·rw [if_pos c30] at H
               have c30b0 := eq_true c30
               have c30b1 : decide ((ji28) ≤ (wrap64 ((ji28) + t184))) = true := decide_eq_true c30
               by_cases c31 : (wrap64 ((ji28) + t184)) ≤ (a0.size : Int)
               ·rw [if_pos c31] at H
                have c31b0 := eq_true c31
                have c31b1 : decide ((wrap64 ((ji28) + t184)) ≤ (a0.size : Int)) = true := decide_eq_true c31
                replace H := Option.bind_eq_some_iff.mp H
                obtain ⟨⟨t188, t189⟩, A320, H⟩ := H
                replace H : (if 0 ≤ (wrap64 ((ji28) + t184)) then (if t188.toList = (a0.extract 0 ((wrap64 ((ji28) + t184)) : Int).toNat).toList then (some (t180, a0.extract ((ji28) : Int).toNat ((wrap64 ((ji28) + t184)) : Int).toNat, wrap64 ((ji28) + t184))) else (some (0, (⟨#[]⟩ : ByteArray), 0))) else (none)) = some (r1, r2, r3) := H
                have A32 := Aside0.mk A320
                clear A320
                obtain ⟨ji33, hji33⟩ : ∃ j_ : Int, (wrap64 ((ji28) + t184)) = j_ := ⟨_, rfl⟩
                replace H : (if 0 ≤ (ji33) then (if t188.toList = (a0.extract 0 ((ji33) : Int).toNat).toList then (some (t180, a0.extract ((ji28) : Int).toNat ((ji33) : Int).toNat, ji33)) else (some (0, (⟨#[]⟩ : ByteArray), 0))) else (none)) = some (r1, r2, r3) := by first | (rw [hji33] at H; exact H) | (simp only [hji33] at H ⊢; exact H)
                (try rw [hji33] at c30b0)
                (try rw [hji33] at c30b1)
                (try rw [hji33] at c30)
                (try rw [hji33] at c31b0)
                (try rw [hji33] at c31b1)
                (try rw [hji33] at c31)
                (try rw [hji33] at A32)
                have hji33w : (IntKind.i64.wrap ((ji28) + t184)) = ji33 := (i64_w _).trans hji33
                by_cases c34 : 0 ≤ (ji33)
                ·rw [if_pos c34] at H
                 have c34b0 := eq_true c34
                 have c34b1 : decide (0 ≤ (ji33)) = true := decide_eq_true c34
                 clear c34
                 have c35b0 := eq_true (of_decide_eq_true (by first | (with_reducible assumption) | assumption) : (ji33) ≤ (a0.size : Int))
                 by_cases c36 : t188.toList = (a0.extract 0 ((ji33) : Int).toNat).toList
                 ·rw [if_pos c36] at H
                  have c36b0 : (t188.toList == (a0.extract 0 ((ji33) : Int).toNat).toList) = true := beq_iff_eq.mpr c36
                  have c36b1 : (t188.toList != (a0.extract 0 ((ji33) : Int).toNat).toList) = false := bne_eq_false_iff_eq.mpr c36
                  clear c36
                  simp only [Option.some.injEq, Prod.mk.injEq] at H
                  obtain ⟨rfl, rfl, rfl⟩ := H
                  go_wp2_with (first | ((with_reducible refine gate_callee (f := 14) rfl ?_); refine goesL_ (some 95) rfl rfl Tryd.func14 (by kernel_rfl) rfl #[.int .i64 t180, .string (a0.extract ((ji28) : Int).toNat ((ji33) : Int).toNat), .bool ((t173.length : Int) == 4)] rfl (by (try simp only [List.map_toArray, List.map_cons, List.map_nil]); first | done | (simp only [hji28, hji33]; rfl) | rfl | (simp only [List.length_drop, List.length_take]; rfl)) ?_; (with_reducible refine (http_Write.calls kj21 t180 (a0.extract ((ji28) : Int).toNat ((ji33) : Int).toNat) ((t173.length : Int) == 4) t188 t189 _ ?side1 A32.out).mono ?_); (case side1 => first | exact HT.out | exact tabs_below HT.out (by repeat (first | (with_reducible first | exact HB.out | apply below_alloc | apply pw_below_drewN | apply below_drew1) | exact HB.out))); rintro e w37 ⟨rfl, hb⟩; refine ⟨_, rfl, ?_⟩; have n0_ := Aside0.mk (Kd.R_below (by (with_reducible repeat (first | apply Kd.R_alloc | apply Kd.R_drewN | apply Kd.R_drew)); exact HO_8.out) hb); have n1_ := Aside0.mk (below_step (by repeat (first | (with_reducible first | exact HB.out | apply below_alloc | apply pw_below_drewN | apply below_drew1) | exact HB.out)) hb); clear HO_8; clear HB; have HO_8 := n0_; have HB := n1_; clear n0_ n1_; (try clear hb); (try clear hb2); (try clear hk); (try clear hi)))
                  go_ret3
                  exact ⟨by first | rfl | (simp [errW_none, errW_some] <;> rfl) | (simp only [← hji28, ← hji33]; first | rfl | (simp [errW_none, errW_some] <;> rfl)) | (simp [*, errW_none, errW_some] <;> rfl), by repeat (first | (with_reducible first | exact HB.out | apply below_alloc | apply pw_below_drewN | apply below_drew1) | exact HB.out)⟩
                 ·rw [if_neg c36] at H
                  have c36b0 : (t188.toList == (a0.extract 0 ((ji33) : Int).toNat).toList) = false := beq_eq_false_iff_ne.mpr c36
                  have c36b1 : (t188.toList != (a0.extract 0 ((ji33) : Int).toNat).toList) = true := bne_iff_ne.mpr c36
                  simp only [Option.some.injEq, Prod.mk.injEq] at H
                  obtain ⟨rfl, rfl, rfl⟩ := H
                  go_wp2_with (first | ((with_reducible refine gate_callee (f := 14) rfl ?_); refine goesL_ (some 95) rfl rfl Tryd.func14 (by kernel_rfl) rfl #[.int .i64 t180, .string (a0.extract ((ji28) : Int).toNat ((ji33) : Int).toNat), .bool ((t173.length : Int) == 4)] rfl (by (try simp only [List.map_toArray, List.map_cons, List.map_nil]); first | done | (simp only [hji28, hji33]; rfl) | rfl | (simp only [List.length_drop, List.length_take]; rfl)) ?_; (with_reducible refine (http_Write.calls kj21 t180 (a0.extract ((ji28) : Int).toNat ((ji33) : Int).toNat) ((t173.length : Int) == 4) t188 t189 _ ?side1 A32.out).mono ?_); (case side1 => first | exact HT.out | exact tabs_below HT.out (by repeat (first | (with_reducible first | exact HB.out | apply below_alloc | apply pw_below_drewN | apply below_drew1) | exact HB.out))); rintro e w38 ⟨rfl, hb⟩; refine ⟨_, rfl, ?_⟩; have n0_ := Aside0.mk (Kd.R_below (by (with_reducible repeat (first | apply Kd.R_alloc | apply Kd.R_drewN | apply Kd.R_drew)); exact HO_8.out) hb); have n1_ := Aside0.mk (below_step (by repeat (first | (with_reducible first | exact HB.out | apply below_alloc | apply pw_below_drewN | apply below_drew1) | exact HB.out)) hb); clear HO_8; clear HB; have HO_8 := n0_; have HB := n1_; clear n0_ n1_; (try clear hb); (try clear hb2); (try clear hk); (try clear hi)))
                  go_ret3
                  exact ⟨by first | rfl | (simp [errW_none, errW_some] <;> rfl) | (simp only [← hji28, ← hji33]; first | rfl | (simp [errW_none, errW_some] <;> rfl)) | (simp [*, errW_none, errW_some] <;> rfl), by repeat (first | (with_reducible first | exact HB.out | apply below_alloc | apply pw_below_drewN | apply below_drew1) | exact HB.out)⟩
                ·rw [if_neg c34] at H
                 exact absurd H (by simp)
               ·rw [if_neg c31] at H
                exact absurd H (by simp)
              ·rw [if_neg c30] at H
               exact absurd H (by simp)
             ·rw [if_neg c29] at H
              exact absurd H (by simp)
       ·rw [if_neg c19] at H
        exact absurd H (by simp)
      ·rw [if_neg c17] at H
       exact absurd H (by simp)
     ·rw [if_neg c16] at H
      exact absurd H (by simp)
    ·rw [if_neg c15] at H
     exact absurd H (by simp)

/-! ### fascineref12_Dec: function 13 -/
def fascineref12_Dec.f : Nat → Int → Option (ByteArray)
 | 0, _ => none
 | k + 1, a0 => if a0 < 10 then (some (strOfNums (([(wrap64 (48 + a0)) % 256] : List Int)))) else ((fascineref12_Dec.f k (wrap64 (Int.tdiv a0 10))).bind fun t193 => ((some (([(wrap64 (48 + (Int.tmod a0 10))) % 256] : List Int) : List Int)).bind fun y194 => (if t193.size + (strOfNums y194).size ≤ 9223372036854775807 then (some (t193 ++ (strOfNums y194))) else (none))))
theorem fascineref12_Dec.mono_l : ∀ k, (∀ y0, LeO (fascineref12_Dec.f k y0) (fascineref12_Dec.f (k + 1) y0))
 | 0 => fun _ r h => by simp [fascineref12_Dec.f] at h
 | k + 1 => by
  have ih0 := fascineref12_Dec.mono_l k
  ·intro y0
   unfold fascineref12_Dec.f
   repeat' first
   | (with_reducible exact ih0 _)
   | (with_reducible exact LeO.refl _)
   | (with_reducible exact LeO.none _)
   | (with_reducible refine LeO.ite ?_ ?_)
   | (with_reducible refine LeO.bind ?_ (fun _ => ?_))
   | exact ih0 _
   | exact LeO.none _
   | refine LeO.ite ?_ ?_
   | refine LeO.bind ?_ (fun _ => ?_)
theorem fascineref12_Dec.mono : ∀ a0 k, LeO (fascineref12_Dec.f k a0) (fascineref12_Dec.f (k + 1) a0) := by
 intro a0 k
 have ih0 := fascineref12_Dec.mono_l k
 exact ih0 a0
def fascineref12_Dec.T3 : Bool × List (List Nat × List Nat) := (true, [([], []), ([0], [0]), ([1], [1]), ([], []), ([3], [3]), ([4], [4]), ([5], [5]), ([6], [6]), ([7], [7]), ([2, 8], [2, 8]), ([9, 2, 0, 1, 2, 3, 4, 5, 6, 7, 8, 9], [9])])
def fascineref12_Dec.B3 : List Nat := [0, 1, 3, 0, 8, 24, 56, 120, 248, 511, 1023]
theorem fascineref12_Dec.tab3 : rtab .any (opsOf Tryd.f13 3) = fascineref12_Dec.T3 := by kernel_rfl
theorem fascineref12_Dec.bits3 : waitsOk fascineref12_Dec.T3.2 fascineref12_Dec.B3 = true := by kernel_rfl
set_option maxHeartbeats 8000000 in
set_option maxRecDepth 100000 in
theorem fascineref12_Dec.calls (k : Nat) : ∀ (a0 : Int) (r : ByteArray) (w : World) (h : fascineref12_Dec.f k a0 = some r),
  Calls Tryd.prog 13 #[.int .i64 a0] w fun e w' => e = .returned (.string r) ∧ Below w.heap.size w w' := by
 induction k using Nat.strongRecOn with
 | _ k ih =>
 intro a0 r w h
 cases k with
 | zero => exact absurd h (by simp [fascineref12_Dec.f])
 | succ k =>
 simp only [fascineref12_Dec.f] at h
 have HB := Aside0.mk (Below.refl w.heap.size w)
 have H : (if a0 < 10 then (some (strOfNums (([(wrap64 (48 + a0)) % 256] : List Int)))) else ((fascineref12_Dec.f k (wrap64 (Int.tdiv a0 10))).bind fun t193 => ((some (([(wrap64 (48 + (Int.tmod a0 10))) % 256] : List Int) : List Int)).bind fun y194 => (if t193.size + (strOfNums y194).size ≤ 9223372036854775807 then (some (t193 ++ (strOfNums y194))) else (none))))) = some r := h
 clear h
 by_cases c2 : a0 < 10
 ·rw [if_pos c2] at H
  have c2b0 : decide (a0 < 10) = true := decide_eq_true c2
  clear c2
  obtain ⟨y190, hy190⟩ : ∃ y_ : List Int, y_ = (([(wrap64 (48 + a0)) % 256] : List Int)) := ⟨_, rfl⟩
  replace H : (some (strOfNums y190)) = some r := by first | (rw [hy190]; with_reducible exact H) | (have H2_ := (Option.bind_some _ _).symm.trans H; rw [hy190]; with_reducible exact H2_) | (have H2_ := (Option.bind_some _ _).symm.trans H; with_reducible exact H2_) | with_reducible exact H | (rw [hy190]; exact H) | exact H
  have Ny190 := Aside0.mk hy190
  clear hy190
  obtain rfl := Option.some.inj H
  go_enter Tryd.func13, Tryd.ntmps13
  go_wp2_with (first | ((with_reducible refine gate_dst (N := 8) rfl ?_); refine Kd.R_lit (Kd.int .u8) _ 5 ?hg (N := 8) ?hd (xs := ([(wrap64 (48 + a0)) % 256] : List Int)) (inner := [.int .u8 ((wrap64 (48 + a0)) % 256)]) (ok := fun _ => True) (okp := fun _ => True) ?hr ?hp (fun _ hk => hk) trivial (Below.refl _ _) (Nat.le_refl _) (by simp) ?_; (case hd => rfl); (case hg => rfl); (case hr => first | (go_simp; done) | (go_simp; rfl)); (case hp => exact (Reps.one (show Kd.M (Kd.int .u8) _ _ _ ((wrap64 (48 + a0)) % 256) [.int .u8 ((wrap64 (48 + a0)) % 256)] from rfl) (Reps.none _ _))); intro v191 w3 ho4 hb hg_ hnew_; clear hg_ hnew_; (first | rw [← Ny190.out] at ho4 | (simp only [Int.reduceToNat] at ho4; rw [← Ny190.out] at ho4)); have n0_ := Aside0.mk (Kd.R_lower ho4 (below_size (by repeat (first | (with_reducible first | exact HB.out | apply below_alloc | apply pw_below_drewN | apply below_drew1) | exact HB.out)))); have n1_ := Aside0.mk (below_step (by repeat (first | (with_reducible first | exact HB.out | apply below_alloc | apply pw_below_drewN | apply below_drew1) | exact HB.out)) hb); clear HB; have HO192 := n0_; have HB := n1_; clear n0_ n1_; clear hb ho4; have hcv5 := own_string (P := Tryd.prog) Tryd.underlying31 Tryd.underlying5 Tryd.underlying9 (Kd.own_of_R HO192.out); have hcq6 := fun (nq_ : Nat) => own_string (P := Tryd.prog) Tryd.underlying31 Tryd.underlying5 Tryd.underlying9 (Kd.own_of_R (Kd.R_drewN HO192.out nq_))))
  go_ret
  exact ⟨by first | rfl | (simp [errW_none, errW_some] <;> rfl) | (simp [*, errW_none, errW_some] <;> rfl), by repeat (first | (with_reducible first | exact HB.out | apply below_alloc | apply pw_below_drewN | apply below_drew1) | exact HB.out)⟩
 ·rw [if_neg c2] at H
  have c2b0 : decide (a0 < 10) = false := decide_eq_false c2
  clear c2
  replace H := Option.bind_eq_some_iff.mp H
  obtain ⟨t193, A70, H⟩ := H
  replace H : ((some (([(wrap64 (48 + (Int.tmod a0 10))) % 256] : List Int) : List Int)).bind fun y194 => (if t193.size + (strOfNums y194).size ≤ 9223372036854775807 then (some (t193 ++ (strOfNums y194))) else (none))) = some r := H
  have A7 := Aside0.mk A70
  clear A70
  obtain ⟨y194, hy194⟩ : ∃ y_ : List Int, y_ = (([(wrap64 (48 + (Int.tmod a0 10))) % 256] : List Int)) := ⟨_, rfl⟩
  replace H : (if t193.size + (strOfNums y194).size ≤ 9223372036854775807 then (some (t193 ++ (strOfNums y194))) else (none)) = some r := by first | (rw [hy194]; with_reducible exact H) | (have H2_ := (Option.bind_some _ _).symm.trans H; rw [hy194]; with_reducible exact H2_) | (have H2_ := (Option.bind_some _ _).symm.trans H; with_reducible exact H2_) | with_reducible exact H | (rw [hy194]; exact H) | exact H
  have Ny194 := Aside0.mk hy194
  clear hy194
  by_cases c8 : t193.size + (strOfNums y194).size ≤ 9223372036854775807
  ·rw [if_pos c8] at H
   have c8b0 := eq_true c8
   have c8b1 : decide (t193.size + (strOfNums y194).size ≤ 9223372036854775807) = true := decide_eq_true c8
   try have c8b2 : (9223372036854775807 < t193.size + (strOfNums y194).size) = False := eq_false (Nat.not_lt.2 c8)
   obtain rfl := Option.some.inj H
   go_enter Tryd.func13, Tryd.ntmps13
   try go_wp2
   have n0_ := Aside0.mk (below_drew1 HB.out)
   clear HB
   have HB := n0_
   clear n0_
   refine start_ (n := 11) (S := fun w' => True) (ds := []) #[false, false, false, false, false, false, false, false, false, false, false] (by kernel_rfl) rfl rfl trivial (fun hHeld => ?_); refine with_tabW fascineref12_Dec.tab3 fascineref12_Dec.bits3 (fun HT_ HW_ => ?_)
   generalize w.drew = w9 at HB hHeld ⊢
   refine pure_ (i := 0) (N := some 10) (v := ?_) (a' := ?_) #[true, false, false, false, false, false, false, false, false, false, false] rfl rfl (any_of HT_.out (by kernel_rfl)) (fun _ _ _ h => h) (Or.inl ⟨by rfl, ?_⟩) ?_ ?_
   rotate_left
   ·intro w'
    go_simp
    with_reducible rfl
   rotate_left
   ·simp only [Act.put, List.setIfInBounds_toArray, List.set_cons_zero, List.set_cons_succ, i64_w, i32_w]
    rfl
   refine pure_ (i := 1) (N := some 11) (v := ?_) (a' := ?_) #[true, true, false, false, false, false, false, false, false, false, false] rfl rfl (any_of HT_.out (by kernel_rfl)) (fun _ _ _ h => h) (Or.inl ⟨by rfl, ?_⟩) ?_ ?_
   rotate_left
   ·intro w'
    go_simp
    with_reducible rfl
   rotate_left
   ·simp only [Act.put, List.setIfInBounds_toArray, List.set_cons_zero, List.set_cons_succ, i64_w, i32_w]
    rfl
   refine pure_ (i := 3) (N := some 13) (v := ?_) (a' := ?_) #[true, true, false, true, false, false, false, false, false, false, false] rfl rfl (any_of HT_.out (by kernel_rfl)) (fun _ _ _ h => h) (Or.inl ⟨by rfl, ?_⟩) ?_ ?_
   rotate_left
   ·intro w'
    go_simp
    with_reducible rfl
   rotate_left
   ·simp only [Act.put, List.setIfInBounds_toArray, List.set_cons_zero, List.set_cons_succ, i64_w, i32_w]
    rfl
   refine pure_ (i := 4) (N := some 14) (v := ?_) (a' := ?_) #[true, true, false, true, true, false, false, false, false, false, false] rfl rfl (any_of HT_.out (by kernel_rfl)) (fun _ _ _ h => h) (Or.inl ⟨by rfl, ?_⟩) ?_ ?_
   rotate_left
   ·intro w'
    go_simp
    with_reducible rfl
   rotate_left
   ·simp only [Act.put, List.setIfInBounds_toArray, List.set_cons_zero, List.set_cons_succ, i64_w, i32_w]
    rfl
   refine pure_ (i := 5) (N := some 15) (v := ?_) (a' := ?_) #[true, true, false, true, true, true, false, false, false, false, false] rfl rfl (any_of HT_.out (by kernel_rfl)) (fun _ _ _ h => h) (Or.inl ⟨by rfl, ?_⟩) ?_ ?_
   rotate_left
   ·intro w'
    go_simp
    with_reducible rfl
   rotate_left
   ·simp only [Act.put, List.setIfInBounds_toArray, List.set_cons_zero, List.set_cons_succ, i64_w, i32_w]
    rfl
   refine pure_ (i := 6) (N := some 16) (v := ?_) (a' := ?_) #[true, true, false, true, true, true, true, false, false, false, false] rfl rfl (any_of HT_.out (by kernel_rfl)) (fun _ _ _ h => h) (Or.inl ⟨by rfl, ?_⟩) ?_ ?_
   rotate_left
   ·intro w'
    go_simp
    with_reducible rfl
   rotate_left
   ·simp only [Act.put, List.setIfInBounds_toArray, List.set_cons_zero, List.set_cons_succ, i64_w, i32_w]
    rfl
   refine join_ (σ := Value) 2 #[true, true, true, true, true, true, true, true, true, false, false] (fun s_ => [(12, .string t193), (17, s_), (18, .string (strOfNums y194))]) (fun s_ w' => (Kd.R (Kd.int .u8) 5 w' w.heap.size (fun _ => True) s_ y194) ∧ (Below w.heap.size w w')) ?_ ?_
   rotate_left
   ·intro hCont
    refine two_ (i := 2) (j := 7) (Ni := some 12) (Nj := some 17) #[true, true, true, true, true, true, true, false, false, false, false] #[true, true, false, true, true, true, true, true, false, false, false] rfl rfl rfl rfl (two_of HT_.out (by kernel_rfl)) (by decide) (by decide) (fun K hK => ?_) (fun K hK => ?_)
    ·skip
     refine goes_ Tryd.func13 (by kernel_rfl) rfl #[.int .i64 (wrap64 (Int.tdiv a0 10))] (by rfl) rfl rfl (by (try simp only [List.map_toArray, List.map_cons, List.map_nil]); first | done | rfl | (simp only [List.length_drop, List.length_take]; rfl)) ?_
     with_reducible refine (ih k (by omega) (wrap64 (Int.tdiv a0 10)) t193 _ A7.out).mono ?_
     rintro e w10 ⟨rfl, hb⟩
     refine ⟨_, rfl, ?_⟩
     have n0_ := Aside0.mk (below_step (by repeat (first | (with_reducible first | exact HB.out | apply below_alloc | apply pw_below_drewN | apply below_drew1) | exact HB.out)) hb)
     clear HB
     have HB := n0_
     clear n0_
     (try clear hb)
     (try clear hb2)
     (try clear hk)
     (try clear hi)
     refine hK.out _ _ trivial (fun hHeld => ?_)
     clear hK K
     refine norm_ (a' := ?_) ?_ ?_
     rotate_left
     ·show Act.put _ (some 12) _ = _
      simp only [Act.put, List.setIfInBounds_toArray, List.set_cons_zero, List.set_cons_succ, i64_w, i32_w]
      rfl
     refine one_ (i := 7) (N := some 17) #[true, true, true, true, true, true, true, true, false, false, false] rfl rfl (one_of HT_.out (by kernel_rfl)) (by decide) (fun K hK => ?_)
     refine Kd.R_lit_step (Kd.int .u8) _ 5 ?hg (N := 17) ?hd (xs := ([(wrap64 (48 + (Int.tmod a0 10))) % 256] : List Int)) (inner := [.int .u8 ((wrap64 (48 + (Int.tmod a0 10))) % 256)]) (ok := fun _ => True) (okp := fun _ => True) ?hr ?hp (fun _ hk => hk) trivial (Below.refl _ _) (Nat.le_refl _) (by simp) ?_; (case hd => rfl); (case hg => rfl); (case hr => first | (go_simp; done) | (go_simp; rfl)); (case hp => exact (Reps.one (show Kd.M (Kd.int .u8) _ _ _ ((wrap64 (48 + (Int.tmod a0 10))) % 256) [.int .u8 ((wrap64 (48 + (Int.tmod a0 10))) % 256)] from rfl) (Reps.none _ _)))
     intro v195 w11 ho12 hb hg_ hnew_
     clear hg_ hnew_
     (first | rw [← Ny194.out] at ho12 | (simp only [Int.reduceToNat] at ho12; rw [← Ny194.out] at ho12))
     have n0_ := Aside0.mk (Kd.R_lower ho12 (below_size (by repeat (first | (with_reducible first | exact HB.out | apply below_alloc | apply pw_below_drewN | apply below_drew1) | exact HB.out))))
     have n1_ := Aside0.mk (below_step (by repeat (first | (with_reducible first | exact HB.out | apply below_alloc | apply pw_below_drewN | apply below_drew1) | exact HB.out)) hb)
     clear HB
     have HO196 := n0_
     have HB := n1_
     clear n0_ n1_
     clear hb ho12
     refine hK.out _ _ trivial (fun hHeld => ?_)
     clear hK K
     refine norm_ (a' := ?_) ?_ ?_
     rotate_left
     ·show Act.put _ (some 17) _ = _
      simp only [Act.put, List.setIfInBounds_toArray, List.set_cons_zero, List.set_cons_succ, i64_w, i32_w]
      rfl
     refine one_ (i := 8) (N := some 18) #[true, true, true, true, true, true, true, true, true, false, false] rfl rfl (one_of HT_.out (by kernel_rfl)) (by decide) (fun K hK => ?_)
     have hcv13 := own_string (P := Tryd.prog) Tryd.underlying31 Tryd.underlying5 Tryd.underlying9 (Kd.own_of_R HO196.out); have hcv13q := fun (nq_ : Nat) => own_string (P := Tryd.prog) Tryd.underlying31 Tryd.underlying5 Tryd.underlying9 (Kd.own_of_R (Kd.R_drewN HO196.out nq_))
     refine value_ (w1 := ?_) (v := ?_) (by rfl) rfl ?_ ?_
     rotate_left 2
     ·go_simp
      constructor
      ·rfl
      ·rfl
     clear hcv13 hcv13q
     refine hK.out _ _ trivial (fun hHeld => ?_)
     clear hK K
     refine norm_ (a' := ?_) ?_ ?_
     rotate_left
     ·show Act.put _ (some 18) _ = _
      simp only [Act.put, List.setIfInBounds_toArray, List.set_cons_zero, List.set_cons_succ, i64_w, i32_w]
      rfl
     exact norm_ (by simp only [putAll, Act.put, List.setIfInBounds_toArray, List.set_cons_zero, List.set_cons_succ]) (hCont (v195) _ ⟨(by (with_reducible repeat (first | apply Kd.R_alloc | apply Kd.R_drewN | apply Kd.R_drew)); exact HO196.out), (by repeat (first | (with_reducible first | exact HB.out | apply below_alloc | apply pw_below_drewN | apply below_drew1) | exact HB.out))⟩)
    ·skip
     refine Kd.R_lit_step (Kd.int .u8) _ 5 ?hg (N := 17) ?hd (xs := ([(wrap64 (48 + (Int.tmod a0 10))) % 256] : List Int)) (inner := [.int .u8 ((wrap64 (48 + (Int.tmod a0 10))) % 256)]) (ok := fun _ => True) (okp := fun _ => True) ?hr ?hp (fun _ hk => hk) trivial (Below.refl _ _) (Nat.le_refl _) (by simp) ?_; (case hd => rfl); (case hg => rfl); (case hr => first | (go_simp; done) | (go_simp; rfl)); (case hp => exact (Reps.one (show Kd.M (Kd.int .u8) _ _ _ ((wrap64 (48 + (Int.tmod a0 10))) % 256) [.int .u8 ((wrap64 (48 + (Int.tmod a0 10))) % 256)] from rfl) (Reps.none _ _)))
     intro v195 w10 ho11 hb hg_ hnew_
     clear hg_ hnew_
     (first | rw [← Ny194.out] at ho11 | (simp only [Int.reduceToNat] at ho11; rw [← Ny194.out] at ho11))
     have n0_ := Aside0.mk (Kd.R_lower ho11 (below_size (by repeat (first | (with_reducible first | exact HB.out | apply below_alloc | apply pw_below_drewN | apply below_drew1) | exact HB.out))))
     have n1_ := Aside0.mk (below_step (by repeat (first | (with_reducible first | exact HB.out | apply below_alloc | apply pw_below_drewN | apply below_drew1) | exact HB.out)) hb)
     clear HB
     have HO196 := n0_
     have HB := n1_
     clear n0_ n1_
     clear hb ho11
     refine hK.out _ _ trivial (fun hHeld => ?_)
     clear hK K
     refine norm_ (a' := ?_) ?_ ?_
     rotate_left
     ·show Act.put _ (some 17) _ = _
      simp only [Act.put, List.setIfInBounds_toArray, List.set_cons_zero, List.set_cons_succ, i64_w, i32_w]
      rfl
     refine two_ (i := 2) (j := 8) (Ni := some 12) (Nj := some 18) #[true, true, true, true, true, true, true, true, false, false, false] #[true, true, false, true, true, true, true, true, true, false, false] rfl rfl rfl rfl (two_of HT_.out (by kernel_rfl)) (by decide) (by decide) (fun K hK => ?_) (fun K hK => ?_)
     ·skip
      refine goes_ Tryd.func13 (by kernel_rfl) rfl #[.int .i64 (wrap64 (Int.tdiv a0 10))] (by rfl) rfl rfl (by (try simp only [List.map_toArray, List.map_cons, List.map_nil]); first | done | rfl | (simp only [List.length_drop, List.length_take]; rfl)) ?_
      with_reducible refine (ih k (by omega) (wrap64 (Int.tdiv a0 10)) t193 _ A7.out).mono ?_
      rintro e w12 ⟨rfl, hb⟩
      refine ⟨_, rfl, ?_⟩
      have n0_ := Aside0.mk (Kd.R_below (by (with_reducible repeat (first | apply Kd.R_alloc | apply Kd.R_drewN | apply Kd.R_drew)); exact HO196.out) hb)
      have n1_ := Aside0.mk (below_step (by repeat (first | (with_reducible first | exact HB.out | apply below_alloc | apply pw_below_drewN | apply below_drew1) | exact HB.out)) hb)
      clear HO196
      clear HB
      have HO196 := n0_
      have HB := n1_
      clear n0_ n1_
      (try clear hb)
      (try clear hb2)
      (try clear hk)
      (try clear hi)
      refine hK.out _ _ trivial (fun hHeld => ?_)
      clear hK K
      refine norm_ (a' := ?_) ?_ ?_
      rotate_left
      ·show Act.put _ (some 12) _ = _
       simp only [Act.put, List.setIfInBounds_toArray, List.set_cons_zero, List.set_cons_succ, i64_w, i32_w]
       rfl
      refine one_ (i := 8) (N := some 18) #[true, true, true, true, true, true, true, true, true, false, false] rfl rfl (one_of HT_.out (by kernel_rfl)) (by decide) (fun K hK => ?_)
      have hcv13 := own_string (P := Tryd.prog) Tryd.underlying31 Tryd.underlying5 Tryd.underlying9 (Kd.own_of_R HO196.out); have hcv13q := fun (nq_ : Nat) => own_string (P := Tryd.prog) Tryd.underlying31 Tryd.underlying5 Tryd.underlying9 (Kd.own_of_R (Kd.R_drewN HO196.out nq_))
      refine value_ (w1 := ?_) (v := ?_) (by rfl) rfl ?_ ?_
      rotate_left 2
      ·go_simp
       constructor
       ·rfl
       ·rfl
      clear hcv13 hcv13q
      refine hK.out _ _ trivial (fun hHeld => ?_)
      clear hK K
      refine norm_ (a' := ?_) ?_ ?_
      rotate_left
      ·show Act.put _ (some 18) _ = _
       simp only [Act.put, List.setIfInBounds_toArray, List.set_cons_zero, List.set_cons_succ, i64_w, i32_w]
       rfl
      exact norm_ (by simp only [putAll, Act.put, List.setIfInBounds_toArray, List.set_cons_zero, List.set_cons_succ]) (hCont (v195) _ ⟨(by (with_reducible repeat (first | apply Kd.R_alloc | apply Kd.R_drewN | apply Kd.R_drew)); exact HO196.out), (by repeat (first | (with_reducible first | exact HB.out | apply below_alloc | apply pw_below_drewN | apply below_drew1) | exact HB.out))⟩)
     ·skip
      have hcv12 := own_string (P := Tryd.prog) Tryd.underlying31 Tryd.underlying5 Tryd.underlying9 (Kd.own_of_R HO196.out); have hcv12q := fun (nq_ : Nat) => own_string (P := Tryd.prog) Tryd.underlying31 Tryd.underlying5 Tryd.underlying9 (Kd.own_of_R (Kd.R_drewN HO196.out nq_))
      refine value_ (w1 := ?_) (v := ?_) (by rfl) rfl ?_ ?_
      rotate_left 2
      ·go_simp
       constructor
       ·rfl
       ·rfl
      clear hcv12 hcv12q
      refine hK.out _ _ trivial (fun hHeld => ?_)
      clear hK K
      refine norm_ (a' := ?_) ?_ ?_
      rotate_left
      ·show Act.put _ (some 18) _ = _
       simp only [Act.put, List.setIfInBounds_toArray, List.set_cons_zero, List.set_cons_succ, i64_w, i32_w]
       rfl
      refine one_ (i := 2) (N := some 12) #[true, true, true, true, true, true, true, true, true, false, false] rfl rfl (one_of HT_.out (by kernel_rfl)) (by decide) (fun K hK => ?_)
      refine goes_ Tryd.func13 (by kernel_rfl) rfl #[.int .i64 (wrap64 (Int.tdiv a0 10))] (by rfl) rfl rfl (by (try simp only [List.map_toArray, List.map_cons, List.map_nil]); first | done | rfl | (simp only [List.length_drop, List.length_take]; rfl)) ?_
      with_reducible refine (ih k (by omega) (wrap64 (Int.tdiv a0 10)) t193 _ A7.out).mono ?_
      rintro e w13 ⟨rfl, hb⟩
      refine ⟨_, rfl, ?_⟩
      have n0_ := Aside0.mk (Kd.R_below (by (with_reducible repeat (first | apply Kd.R_alloc | apply Kd.R_drewN | apply Kd.R_drew)); exact HO196.out) hb)
      have n1_ := Aside0.mk (below_step (by repeat (first | (with_reducible first | exact HB.out | apply below_alloc | apply pw_below_drewN | apply below_drew1) | exact HB.out)) hb)
      clear HO196
      clear HB
      have HO196 := n0_
      have HB := n1_
      clear n0_ n1_
      (try clear hb)
      (try clear hb2)
      (try clear hk)
      (try clear hi)
      refine hK.out _ _ trivial (fun hHeld => ?_)
      clear hK K
      refine norm_ (a' := ?_) ?_ ?_
      rotate_left
      ·show Act.put _ (some 12) _ = _
       simp only [Act.put, List.setIfInBounds_toArray, List.set_cons_zero, List.set_cons_succ, i64_w, i32_w]
       rfl
      exact norm_ (by simp only [putAll, Act.put, List.setIfInBounds_toArray, List.set_cons_zero, List.set_cons_succ]) (hCont (v195) _ ⟨(by (with_reducible repeat (first | apply Kd.R_alloc | apply Kd.R_drewN | apply Kd.R_drew)); exact HO196.out), (by repeat (first | (with_reducible first | exact HB.out | apply below_alloc | apply pw_below_drewN | apply below_drew1) | exact HB.out))⟩)
   rintro v195 w14 ⟨h0_, h1_⟩
   have n0_ : Aside0 (Kd.R (Kd.int .u8) 5 w14 w.heap.size (fun _ => True) v195 y194) := ⟨h0_⟩
   have n1_ : Aside0 (Below w.heap.size w w14) := ⟨h1_⟩
   clear HB
   clear h0_ h1_
   have HO196 := n0_
   have HB := n1_
   clear n0_ n1_
   have hHeld := trivial
   refine norm_ (a' := ?_) ?_ ?_
   rotate_left
   ·simp only [putAll, Act.put, List.setIfInBounds_toArray, List.set_cons_zero, List.set_cons_succ]
    rfl
   refine pure_ (i := 9) (N := some 19) (v := ?_) (a' := ?_) #[true, true, true, true, true, true, true, true, true, true, false] rfl rfl (any_of HT_.out (by kernel_rfl)) (fun _ _ _ h => h) (Or.inl ⟨by rfl, ?_⟩) ?_ ?_
   rotate_left
   ·intro w'
    go_simp
    with_reducible rfl
   rotate_left
   ·simp only [Act.put, List.setIfInBounds_toArray, List.set_cons_zero, List.set_cons_succ, i64_w, i32_w]
    rfl
   refine pure_ (i := 10) (N := some 2) (v := ?_) (a' := ?_) #[true, true, true, true, true, true, true, true, true, true, true] rfl rfl (any_of HT_.out (by kernel_rfl)) (fun _ _ _ h => h) (Or.inl ⟨by rfl, ?_⟩) ?_ ?_
   rotate_left
   ·intro w'
    go_simp
    with_reducible rfl
   rotate_left
   ·simp only [Act.put, List.setIfInBounds_toArray, List.set_cons_zero, List.set_cons_succ, i64_w, i32_w]
    rfl
   refine done_ (done_of HT_.out (by kernel_rfl)) ?_
   try go_wp2
   go_ret
   exact ⟨by first | rfl | (simp [errW_none, errW_some] <;> rfl) | (simp [*, errW_none, errW_some] <;> rfl), by repeat (first | (with_reducible first | exact HB.out | apply below_alloc | apply pw_below_drewN | apply below_drew1) | exact HB.out)⟩
  ·rw [if_neg c8] at H
   exact absurd H (by simp)

end Go.Proofs.YtpigloohccpfiaaDoor.PHttpAnswers
-- ANSWER
