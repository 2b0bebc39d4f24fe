-- WRITTEN BY A PROGRAM OF THIS SESSION (wip/patch_print.py: the kit's printer with rules of this session's own); Lean checks it.
import Derived.Test.YtpigloohccpfiaaDoorPHttpAnswersx0
import Derived.Test.YtpigloohccpfiaaDoorPHttpAnswersx1
namespace Go.Proofs.YtpigloohccpfiaaDoor.PHttpAnswers
open Go.RowKit Go.Proofs.YtpigloohccpfiaaDoorW.PrintWords Go.Proofs.YtpigloohccpfiaaDoorW.PrintLast Go.Proofs.YtpigloohccpfiaaDoorW.PrintMore
open Go.Proofs.YtpigloohccpfiaaDoor.G
attribute [local go_sem] max2_int min2_int max_two min_two max_three min_three max_four min_four   -- for this text's walks alone
set_option linter.unusedVariables false
set_option linter.unusedSimpArgs false

/-! ### http_first: function 20 -/
mutual
def http_first.j0 : Nat → List ByteArray → Bool → Option (ByteArray × ByteArray × ByteArray × Bool × Bool)
 | 0, _, _ => none
 | k + 1, x4, x30 => if x30 = true then (some ((⟨#[]⟩ : ByteArray), (⟨#[]⟩ : ByteArray), (⟨#[]⟩ : ByteArray), false, false)) else (if 1 < (x4.length : Int) then (http_first.l0 k x4 ((rdOf ByteArray.empty x4 1).size : Int) 0) else (none))
def http_first.l0 : Nat → List ByteArray → Int → Int → Option (ByteArray × ByteArray × ByteArray × Bool × Bool)
 | 0, _, _, _ => none
 | k + 1, x4, x35, x36 => if x36 < x35 then (if 1 < (x4.length : Int) then (if 0 ≤ x36 then (if x36 < ((rdOf ByteArray.empty x4 1).size : Int) then (if (bt (rdOf ByteArray.empty x4 1) x36) ≤ 32 then (some ((⟨#[]⟩ : ByteArray), (⟨#[]⟩ : ByteArray), (⟨#[]⟩ : ByteArray), false, false)) else (if (bt (rdOf ByteArray.empty x4 1) x36) > 126 then (some ((⟨#[]⟩ : ByteArray), (⟨#[]⟩ : ByteArray), (⟨#[]⟩ : ByteArray), false, false)) else (http_first.l0 k x4 x35 (wrap64 (x36 + 1))))) else (none)) else (none)) else (none)) else (if 0 < (x4.length : Int) then (if 1 < (x4.length : Int) then (some (rdOf ByteArray.empty x4 0, rdOf ByteArray.empty x4 1, (⟨#[]⟩ : ByteArray), false, true)) else (none)) else (none))
end
def http_first.f (k : Nat) (a0 : ByteArray) : Option (ByteArray × ByteArray × ByteArray × Bool × Bool) := (strings_Split.f a0 (⟨#[32]⟩ : ByteArray)).bind fun t106 => (if (t106.length : Int) = 3 then (if 0 < (t106.length : Int) then ((http_token.f k (rdOf ByteArray.empty t106 0)).bind fun t110 => (if t110 = true then (if 2 < (t106.length : Int) then (if (rdOf ByteArray.empty t106 2).toList = ([72, 84, 84, 80, 47, 49, 46, 49] : List UInt8) then (if 1 < (t106.length : Int) then ((strings_HasPrefix.f (rdOf ByteArray.empty t106 1) (⟨#[47]⟩ : ByteArray)).bind fun t113 => (http_first.j0 k t106 (!t113))) else (none)) else (http_first.j0 k t106 true)) else (none)) else (http_first.j0 k t106 true))) else (none)) else (http_first.j0 k t106 true))
theorem http_first.mono_l : ∀ k, (∀ y0 y1, LeO (http_first.j0 k y0 y1) (http_first.j0 (k + 1) y0 y1)) ∧ (∀ y0 y1 y2, LeO (http_first.l0 k y0 y1 y2) (http_first.l0 (k + 1) y0 y1 y2))
 | 0 => ⟨fun _ _ r h => by simp [http_first.j0] at h, fun _ _ _ r h => by simp [http_first.l0] at h⟩
 | k + 1 => by
  obtain ⟨ih0, ih1⟩ := http_first.mono_l k
  refine ⟨?_, ?_⟩
  ·intro y0 y1
   unfold http_first.j0
   repeat' first
   | (with_reducible exact ih0 _ _)
   | (with_reducible exact ih1 _ _ _)
   | (with_reducible exact http_token.mono _ _)
   | (with_reducible exact LeO.refl _)
   | (with_reducible exact LeO.none _)
   | (with_reducible refine LeO.ite ?_ ?_)
   | (with_reducible refine LeO.bind ?_ (fun _ => ?_))
   | exact ih0 _ _
   | exact ih1 _ _ _
   | exact http_token.mono _ _
   | exact LeO.none _
   | refine LeO.ite ?_ ?_
   | refine LeO.bind ?_ (fun _ => ?_)
  ·intro y0 y1 y2
   unfold http_first.l0
   repeat' first
   | (with_reducible exact ih0 _ _)
   | (with_reducible exact ih1 _ _ _)
   | (with_reducible exact http_token.mono _ _)
   | (with_reducible exact LeO.refl _)
   | (with_reducible exact LeO.none _)
   | (with_reducible refine LeO.ite ?_ ?_)
   | (with_reducible refine LeO.bind ?_ (fun _ => ?_))
   | exact ih0 _ _
   | exact ih1 _ _ _
   | exact http_token.mono _ _
   | exact LeO.none _
   | refine LeO.ite ?_ ?_
   | refine LeO.bind ?_ (fun _ => ?_)
theorem http_first.mono : ∀ a0 k, LeO (http_first.f k a0) (http_first.f (k + 1) a0) := by
 intro a0 k
 obtain ⟨ih0, ih1⟩ := http_first.mono_l k
 unfold http_first.f
 repeat' first
   | (with_reducible exact ih0 _ _)
   | (with_reducible exact ih1 _ _ _)
   | (with_reducible exact http_token.mono _ _)
   | (with_reducible exact LeO.refl _)
   | (with_reducible exact LeO.none _)
   | (with_reducible refine LeO.ite ?_ ?_)
   | (with_reducible refine LeO.bind ?_ (fun _ => ?_))
   | exact ih0 _ _
   | exact ih1 _ _ _
   | exact http_token.mono _ _
   | exact LeO.none _
   | refine LeO.ite ?_ ?_
   | refine LeO.bind ?_ (fun _ => ?_)
def http_first.T10 : Bool × List (List Nat × List Nat) := (true, [([], []), ([0], [0]), ([1], [1]), ([], []), ([3], [3]), ([4], [4]), ([2, 5], [2, 5]), ([6, 0, 1, 2, 3, 4, 5, 6], [6]), ([7, 0, 1, 2, 3, 4, 5, 6, 7], [])])
def http_first.B10 : List Nat := [0, 1, 3, 0, 8, 24, 63, 127, 255]
theorem http_first.tab10 : rtab .any (opsOf Tryd.f20 10) = http_first.T10 := by kernel_rfl
theorem http_first.bits10 : waitsOk http_first.T10.2 http_first.B10 = true := by kernel_rfl
set_option maxHeartbeats 8000000 in
set_option maxRecDepth 100000 in
theorem http_first.calls (k : Nat) (a0 : ByteArray) (r1 : ByteArray) (r2 : ByteArray) (r3 : ByteArray) (r4 : Bool) (r5 : Bool) (w : World) (hT : tabs w) (h : http_first.f k a0 = some (r1, r2, r3, r4, r5)) :
  Calls Tryd.prog 20 #[.string a0] w fun e w' => e = .returned (.tuple #[.agg #[.string r1, .string r2, .string r3, .bool r4], .bool r5]) ∧ Below w.heap.size w w' := by
 have hu24 := Tryd.underlying24
 have HT := Aside0.mk hT
 clear hT
 have HB := Aside0.mk (Below.refl w.heap.size w)
 have H : ((strings_Split.f a0 (⟨#[32]⟩ : ByteArray)).bind fun t106 => (if (t106.length : Int) = 3 then (if 0 < (t106.length : Int) then ((http_token.f k (rdOf ByteArray.empty t106 0)).bind fun t110 => (if t110 = true then (if 2 < (t106.length : Int) then (if (rdOf ByteArray.empty t106 2).toList = ([72, 84, 84, 80, 47, 49, 46, 49] : List UInt8) then (if 1 < (t106.length : Int) then ((strings_HasPrefix.f (rdOf ByteArray.empty t106 1) (⟨#[47]⟩ : ByteArray)).bind fun t113 => (http_first.j0 k t106 (!t113))) else (none)) else (http_first.j0 k t106 true)) else (none)) else (http_first.j0 k t106 true))) else (none)) else (http_first.j0 k t106 true))) = some (r1, r2, r3, r4, r5) := h
 clear h
 replace H := Option.bind_eq_some_iff.mp H
 obtain ⟨t106, A20, H⟩ := H
 replace H : (if (t106.length : Int) = 3 then (if 0 < (t106.length : Int) then ((http_token.f k (rdOf ByteArray.empty t106 0)).bind fun t110 => (if t110 = true then (if 2 < (t106.length : Int) then (if (rdOf ByteArray.empty t106 2).toList = ([72, 84, 84, 80, 47, 49, 46, 49] : List UInt8) then (if 1 < (t106.length : Int) then ((strings_HasPrefix.f (rdOf ByteArray.empty t106 1) (⟨#[47]⟩ : ByteArray)).bind fun t113 => (http_first.j0 k t106 (!t113))) else (none)) else (http_first.j0 k t106 true)) else (none)) else (http_first.j0 k t106 true))) else (none)) else (http_first.j0 k t106 true)) = some (r1, r2, r3, r4, r5) := H
 have A2 := Aside0.mk A20
 clear A20
 have HC3 := Aside0.mk H
 clear H
 go_enter Tryd.func20, Tryd.ntmps20
 go_upto_region 2 with (first | ((with_reducible refine gate_dst (N := 2) rfl ?_); refine box_event ?hg (N := 2) ?hd (cs := #[.string (⟨#[]⟩ : ByteArray), .string (⟨#[]⟩ : ByteArray), .string (⟨#[]⟩ : ByteArray), .bool false]) (t := 24) ?hr ?_; (case hd => rfl); (case hg => rfl); (case hr => first | (go_simp; done) | (go_simp; rfl)); intro gb105 hg w4 hbox hb; have n0_ := Aside0.mk (below_step (by repeat (first | (with_reducible first | exact HB.out | apply below_alloc | apply pw_below_drewN | apply below_drew1) | exact HB.out)) hb); have n1_ := Aside0.mk (hbox); have n2_ := Aside0.mk ((by rw [hg]; exact (below_size (by repeat (first | (with_reducible first | exact HB.out | apply below_alloc | apply pw_below_drewN | apply below_drew1) | exact HB.out))) : w.heap.size ≤ gb105)); have n3_ := Aside0.mk ((by rw [hg]; exact (below_size (by repeat (first | (with_reducible first | exact HB.out | apply below_alloc | apply pw_below_drewN | apply below_drew1) | exact HB.out))) : w.heap.size ≤ gb105)); clear HB; have HB := n0_; have BK105 := n1_; have GW105 := n2_; have GE105 := n3_; clear n0_ n1_ n2_ n3_; clear hb hbox hg) | ((with_reducible refine gate_callee (f := 32) rfl ?_); refine goesL_ (some 7) rfl rfl Tryd.func32 (by kernel_rfl) rfl #[.string a0, .string (⟨#[32]⟩ : ByteArray)] rfl (by (try simp only [List.map_toArray, List.map_cons, List.map_nil]); first | done | rfl | (simp only [List.length_drop, List.length_take]; rfl)) ?_; (with_reducible refine (strings_Split.calls a0 (⟨#[32]⟩ : ByteArray) t106 _ ?side1 A2.out).mono ?_); (case side1 => first | exact HT.out | exact tabs_below HT.out (by repeat (first | (with_reducible first | exact HB.out | apply below_alloc | apply pw_below_drewN | apply below_drew1 | refine below_set ?_ GE105.out) | exact HB.out))); rintro e w5 ⟨v107, rfl, ho0, hb⟩; refine ⟨_, rfl, ?_⟩; have n0_ := Aside0.mk (Kd.R_lower ho0 (below_size (by repeat (first | (with_reducible first | exact HB.out | apply below_alloc | apply pw_below_drewN | apply below_drew1 | refine below_set ?_ GE105.out) | exact HB.out)))); have n1_ := Aside0.mk (blk_below (g := gb105) (o := .cells #[.string (⟨#[]⟩ : ByteArray), .string (⟨#[]⟩ : ByteArray), .string (⟨#[]⟩ : ByteArray), .bool false] 24 (0, 0)) (by (with_reducible repeat (first | refine blk_drewN ?_ _ | refine blk_drew ?_ | refine blk_alloc ?_ _)); exact BK105.out) hb); have n2_ := Aside0.mk (below_step (by repeat (first | (with_reducible first | exact HB.out | apply below_alloc | apply pw_below_drewN | apply below_drew1 | refine below_set ?_ GE105.out) | exact HB.out)) hb); clear BK105; clear HB; have HO108 := n0_; have BK105 := n1_; have HB := n2_; clear n0_ n1_ n2_; (try clear hb); (try clear hb2); (try clear hk); (try clear hi); (try clear ho0)))
 (try simp only [Act.put, List.setIfInBounds_toArray, List.set_cons_zero, List.set_cons_succ])
 go_cut [30] (fun v30 wc => ∃ (kq : Nat) (x30_2 : Bool), v30 = .bool x30_2 ∧ Aside0 (http_first.j0 kq t106 x30_2 = some (r1, r2, r3, r4, r5)) ∧ Aside0 (kq ≤ k) ∧ Aside0 (Kd.R Kd.string 9 wc w.heap.size (fun _ => True) v107 t106) ∧ Aside0 (wc.heap[gb105]? = some (.cells #[.string (⟨#[]⟩ : ByteArray), .string (⟨#[]⟩ : ByteArray), .string (⟨#[]⟩ : ByteArray), .bool false] 24 (0, 0))) ∧ Aside0 (Below w.heap.size w wc))
 case first =>
  have H := HC3.out
  clear HC3
  by_cases c6 : (t106.length : Int) = 3
  ·rw [if_pos c6] at H
   have c6b0 : ((t106.length : Int) == 3) = true := beq_iff_eq.mpr c6
   have c6b1 : ((t106.length : Int) != 3) = false := bne_eq_false_iff_eq.mpr c6
   clear c6
   (first | rw [c6b0] | (simp only [i64_w, i32_w]; rw [c6b0]) | skip)
   by_cases c7 : 0 < (t106.length : Int)
   ·rw [if_pos c7] at H
    have c7b0 : decide (0 < (t106.length : Int)) = true := decide_eq_true c7
    have c7b1 : decide (0 < t106.length) = true := decide_eq_true (by omega)
    clear c7
    replace H := Option.bind_eq_some_iff.mp H
    obtain ⟨t110, A80, H⟩ := H
    replace H : (if t110 = true then (if 2 < (t106.length : Int) then (if (rdOf ByteArray.empty t106 2).toList = ([72, 84, 84, 80, 47, 49, 46, 49] : List UInt8) then (if 1 < (t106.length : Int) then ((strings_HasPrefix.f (rdOf ByteArray.empty t106 1) (⟨#[47]⟩ : ByteArray)).bind fun t113 => (http_first.j0 k t106 (!t113))) else (none)) else (http_first.j0 k t106 true)) else (none)) else (http_first.j0 k t106 true)) = some (r1, r2, r3, r4, r5) := H
    have A8 := Aside0.mk A80
    clear A80
    by_cases c9 : t110 = true
    ·subst c9
     have H1 : (if 2 < (t106.length : Int) then (if (rdOf ByteArray.empty t106 2).toList = ([72, 84, 84, 80, 47, 49, 46, 49] : List UInt8) then (if 1 < (t106.length : Int) then ((strings_HasPrefix.f (rdOf ByteArray.empty t106 1) (⟨#[47]⟩ : ByteArray)).bind fun t113 => (http_first.j0 k t106 (!t113))) else (none)) else (http_first.j0 k t106 true)) else (none)) = some (r1, r2, r3, r4, r5) := by rw [if_pos rfl] at H; exact H
     clear H
     have H := H1
     clear H1
     by_cases c10 : 2 < (t106.length : Int)
     ·rw [if_pos c10] at H
      have c10b0 : decide (2 < (t106.length : Int)) = true := decide_eq_true c10
      have c10b1 : decide (2 < t106.length) = true := decide_eq_true (by omega)
      clear c10
      by_cases c11 : (rdOf ByteArray.empty t106 2).toList = ([72, 84, 84, 80, 47, 49, 46, 49] : List UInt8)
      ·rw [if_pos c11] at H
       have c11b0 : ((rdOf ByteArray.empty t106 2).toList == ([72, 84, 84, 80, 47, 49, 46, 49] : List UInt8)) = true := beq_iff_eq.mpr c11
       have c11b1 : ((rdOf ByteArray.empty t106 2).toList != ([72, 84, 84, 80, 47, 49, 46, 49] : List UInt8)) = false := bne_eq_false_iff_eq.mpr c11
       clear c11
       by_cases c12 : 1 < (t106.length : Int)
       ·rw [if_pos c12] at H
        have c12b0 : decide (1 < (t106.length : Int)) = true := decide_eq_true c12
        have c12b1 : decide (1 < t106.length) = true := decide_eq_true (by omega)
        clear c12
        replace H := Option.bind_eq_some_iff.mp H
        obtain ⟨t113, A130, H⟩ := H
        replace H : (http_first.j0 k t106 (!t113)) = some (r1, r2, r3, r4, r5) := H
        have A13 := Aside0.mk A130
        clear A130
        have H' := Aside0.mk H
        clear H
        obtain ⟨Ao14, co14, eo14⟩ := Kd.R_slice HO108.out
        subst eo14
        have p109 : 0 ≤ (0 : Int) := (by omega)
        have q109 : 0 < (t106.length : Int) := of_decide_eq_true (by first | (with_reducible assumption) | assumption)
        obtain ⟨ad109, e109, hx109_0⟩ := Kd.at_string (Kd.R_reads' HO108.out).2.2 0 p109 q109
        cases e109
        have qi109 : (0 < t106.length) = True := eq_true (by omega)
        (try rw [show ((0 : Int)).toNat = 0 from rfl] at hx109_0)
        (try rw [Addr.add_zero'] at hx109_0)
        replace p109 := eq_true p109
        replace q109 := eq_true q109
        go_wp2_with (first | (go_at_call 38; (with_reducible refine (http_token.calls k (rdOf ByteArray.empty t106 0) true _ A8.out).mono ?_); rintro e w' ⟨rfl, ⟨nd, rfl⟩⟩; have p111 : 0 ≤ (2 : Int) := (by omega); have q111 : 2 < (t106.length : Int) := of_decide_eq_true (by first | (with_reducible assumption) | assumption); obtain ⟨ad111, e111, hx111_0⟩ := Kd.at_string (Kd.R_reads' HO108.out).2.2 2 p111 q111; obtain rfl : ad109 = ad111 := (by injection e111); (try simp only [show (2 : Int).toNat = 2 from rfl, Nat.reduceMul, Nat.reduceEqDiff, Go.Addr.add, ↓reduceIte] at hx111_0); have qi111 : (2 < t106.length) = True := eq_true (by omega); (try rw [show ((2 : Int)).toNat = 2 from rfl] at hx111_0); replace p111 := eq_true p111; replace q111 := eq_true q111; have p112 : 0 ≤ (1 : Int) := (by omega); have q112 : 1 < (t106.length : Int) := of_decide_eq_true (by first | (with_reducible assumption) | assumption); obtain ⟨ad112, e112, hx112_0⟩ := Kd.at_string (Kd.R_reads' HO108.out).2.2 1 p112 q112; obtain rfl : ad109 = ad112 := (by injection e112); (try simp only [show (1 : Int).toNat = 1 from rfl, Nat.reduceMul, Nat.reduceEqDiff, Go.Addr.add, ↓reduceIte] at hx112_0); have qi112 : (1 < t106.length) = True := eq_true (by omega); (try rw [show ((1 : Int)).toNat = 1 from rfl] at hx112_0); replace p112 := eq_true p112; replace q112 := eq_true q112) | (go_at_call 33; (with_reducible refine (strings_HasPrefix.calls (rdOf ByteArray.empty t106 1) (⟨#[47]⟩ : ByteArray) t113 _ A13.out).mono ?_); rintro e w' ⟨rfl, ⟨nd, rfl⟩⟩))
        go_meet
        case rel => exact ⟨_, (!t113), (by first | rfl | (simp; done) | (simp [*]; done)), H', ⟨by first | omega | exact Nat.le_refl _⟩, ⟨by (with_reducible repeat (first | apply Kd.R_alloc | apply Kd.R_drewN | apply Kd.R_drew)); exact HO108.out⟩, ⟨by (with_reducible repeat (first | refine blk_drewN ?_ _ | refine blk_drew ?_ | refine blk_alloc ?_ _)); exact BK105.out⟩, ⟨by repeat (first | (with_reducible first | exact HB.out | apply below_alloc | apply pw_below_drewN | apply below_drew1 | refine below_set ?_ GE105.out) | exact HB.out)⟩⟩
       ·rw [if_neg c12] at H
        exact absurd H (by simp)
      ·rw [if_neg c11] at H
       have c11b0 : ((rdOf ByteArray.empty t106 2).toList == ([72, 84, 84, 80, 47, 49, 46, 49] : List UInt8)) = false := beq_eq_false_iff_ne.mpr c11
       have c11b1 : ((rdOf ByteArray.empty t106 2).toList != ([72, 84, 84, 80, 47, 49, 46, 49] : List UInt8)) = true := bne_iff_ne.mpr c11
       have H' := Aside0.mk H
       clear H
       obtain ⟨Ao15, co15, eo15⟩ := Kd.R_slice HO108.out
       subst eo15
       have p109 : 0 ≤ (0 : Int) := (by omega)
       have q109 : 0 < (t106.length : Int) := of_decide_eq_true (by first | (with_reducible assumption) | assumption)
       obtain ⟨ad109, e109, hx109_0⟩ := Kd.at_string (Kd.R_reads' HO108.out).2.2 0 p109 q109
       cases e109
       have qi109 : (0 < t106.length) = True := eq_true (by omega)
       (try rw [show ((0 : Int)).toNat = 0 from rfl] at hx109_0)
       (try rw [Addr.add_zero'] at hx109_0)
       replace p109 := eq_true p109
       replace q109 := eq_true q109
       go_wp2_with (first | (go_at_call 38; (with_reducible refine (http_token.calls k (rdOf ByteArray.empty t106 0) true _ A8.out).mono ?_); rintro e w' ⟨rfl, ⟨nd, rfl⟩⟩; have p111 : 0 ≤ (2 : Int) := (by omega); have q111 : 2 < (t106.length : Int) := of_decide_eq_true (by first | (with_reducible assumption) | assumption); obtain ⟨ad111, e111, hx111_0⟩ := Kd.at_string (Kd.R_reads' HO108.out).2.2 2 p111 q111; obtain rfl : ad109 = ad111 := (by injection e111); (try simp only [show (2 : Int).toNat = 2 from rfl, Nat.reduceMul, Nat.reduceEqDiff, Go.Addr.add, ↓reduceIte] at hx111_0); have qi111 : (2 < t106.length) = True := eq_true (by omega); (try rw [show ((2 : Int)).toNat = 2 from rfl] at hx111_0); replace p111 := eq_true p111; replace q111 := eq_true q111))
       go_meet
       case rel => exact ⟨_, (true), (by first | rfl | (simp; done) | (simp [*]; done)), H', ⟨by first | omega | exact Nat.le_refl _⟩, ⟨by (with_reducible repeat (first | apply Kd.R_alloc | apply Kd.R_drewN | apply Kd.R_drew)); exact HO108.out⟩, ⟨by (with_reducible repeat (first | refine blk_drewN ?_ _ | refine blk_drew ?_ | refine blk_alloc ?_ _)); exact BK105.out⟩, ⟨by repeat (first | (with_reducible first | exact HB.out | apply below_alloc | apply pw_below_drewN | apply below_drew1 | refine below_set ?_ GE105.out) | exact HB.out)⟩⟩
     ·rw [if_neg c10] at H
      exact absurd H (by simp)
    ·replace c9 := Bool.eq_false_iff.mpr c9
     subst c9
     have H1 : (http_first.j0 k t106 true) = some (r1, r2, r3, r4, r5) := by rw [if_neg (show ¬ (false = true) by decide)] at H; exact H
     clear H
     have H := H1
     clear H1
     have H' := Aside0.mk H
     clear H
     obtain ⟨Ao16, co16, eo16⟩ := Kd.R_slice HO108.out
     subst eo16
     have p109 : 0 ≤ (0 : Int) := (by omega)
     have q109 : 0 < (t106.length : Int) := of_decide_eq_true (by first | (with_reducible assumption) | assumption)
     obtain ⟨ad109, e109, hx109_0⟩ := Kd.at_string (Kd.R_reads' HO108.out).2.2 0 p109 q109
     cases e109
     have qi109 : (0 < t106.length) = True := eq_true (by omega)
     (try rw [show ((0 : Int)).toNat = 0 from rfl] at hx109_0)
     (try rw [Addr.add_zero'] at hx109_0)
     replace p109 := eq_true p109
     replace q109 := eq_true q109
     go_wp2_with (first | (go_at_call 38; (with_reducible refine (http_token.calls k (rdOf ByteArray.empty t106 0) false _ A8.out).mono ?_); rintro e w' ⟨rfl, ⟨nd, rfl⟩⟩))
     go_meet
     case rel => exact ⟨_, (true), (by first | rfl | (simp; done) | (simp [*]; done)), H', ⟨by first | omega | exact Nat.le_refl _⟩, ⟨by (with_reducible repeat (first | apply Kd.R_alloc | apply Kd.R_drewN | apply Kd.R_drew)); exact HO108.out⟩, ⟨by (with_reducible repeat (first | refine blk_drewN ?_ _ | refine blk_drew ?_ | refine blk_alloc ?_ _)); exact BK105.out⟩, ⟨by repeat (first | (with_reducible first | exact HB.out | apply below_alloc | apply pw_below_drewN | apply below_drew1 | refine below_set ?_ GE105.out) | exact HB.out)⟩⟩
   ·rw [if_neg c7] at H
    exact absurd H (by simp)
  ·rw [if_neg c6] at H
   have c6b0 : ((t106.length : Int) == 3) = false := beq_eq_false_iff_ne.mpr c6
   have c6b1 : ((t106.length : Int) != 3) = true := bne_iff_ne.mpr c6
   (first | rw [c6b0] | (simp only [i64_w, i32_w]; rw [c6b0]) | skip)
   have H' := Aside0.mk H
   clear H
   obtain ⟨Ao17, co17, eo17⟩ := Kd.R_slice HO108.out
   subst eo17
   go_wp2
   go_meet
   case rel => exact ⟨_, (true), (by first | rfl | (simp; done) | (simp [*]; done)), H', ⟨by first | omega | exact Nat.le_refl _⟩, ⟨by (with_reducible repeat (first | apply Kd.R_alloc | apply Kd.R_drewN | apply Kd.R_drew)); exact HO108.out⟩, ⟨by (with_reducible repeat (first | refine blk_drewN ?_ _ | refine blk_drew ?_ | refine blk_alloc ?_ _)); exact BK105.out⟩, ⟨by repeat (first | (with_reducible first | exact HB.out | apply below_alloc | apply pw_below_drewN | apply below_drew1 | refine below_set ?_ GE105.out) | exact HB.out)⟩⟩
 case rest =>
  clear HC3
  try clear c1
  try clear p1
  try clear q1
  try clear hx1
  try clear qi1
  try clear c2
  try clear p2
  try clear c3
  try clear c6
  try clear c6b0
  try clear c6b1
  try clear c7
  try clear c7b0
  try clear c7b1
  try clear c9
  try clear c10
  try clear c10b0
  try clear c10b1
  try clear p10
  try clear q10
  try clear hx10
  try clear qi10
  try clear c11
  try clear c11b0
  try clear c11b1
  try clear p11
  try clear q11
  try clear hx11
  try clear qi11
  try clear c12
  try clear c12b0
  try clear c12b1
  try clear hx109_0
  try clear hx111_0
  try clear hx112_0
  try clear p109
  try clear p111
  try clear p112
  try clear q109
  try clear q111
  try clear q112
  obtain ⟨kq, x30_2, rfl, HA, HJ2, HO_4, BK105, HB⟩ := hcut
  cases kq with
  | zero => exact absurd HA.out (by simp [http_first.j0])
  | succ kj2 =>
   have H := HA.out
   clear HA
   simp only [http_first.j0] at H
   by_cases c18 : x30_2 = true
   ·subst c18
    have H1 : (some ((⟨#[]⟩ : ByteArray), (⟨#[]⟩ : ByteArray), (⟨#[]⟩ : ByteArray), false, false)) = some (r1, r2, r3, r4, r5) := by rw [if_pos rfl] at H; exact H
    clear H
    have H := H1
    clear H1
    simp only [Option.some.injEq, Prod.mk.injEq] at H
    obtain ⟨rfl, rfl, rfl, rfl, rfl⟩ := H
    have hcz19_0 : wc.cell? ⟨gb105, 0, none⟩ = some (.string (⟨#[]⟩ : ByteArray)) := (blk_cell BK105.out 0).trans rfl
    have hcz19_1 : wc.cell? ⟨gb105, 1, none⟩ = some (.string (⟨#[]⟩ : ByteArray)) := (blk_cell BK105.out 1).trans rfl
    have hcz19_2 : wc.cell? ⟨gb105, 2, none⟩ = some (.string (⟨#[]⟩ : ByteArray)) := (blk_cell BK105.out 2).trans rfl
    have hcz19_3 : wc.cell? ⟨gb105, 3, none⟩ = some (.bool false) := (blk_cell BK105.out 3).trans rfl
    have hfz19_0 := blk_frozen BK105.out 0
    have hfz19_1 := blk_frozen BK105.out 1
    have hfz19_2 := blk_frozen BK105.out 2
    have hfz19_3 := blk_frozen BK105.out 3
    go_wp2
    refine bodyPost_ret (results_ct rfl _ _ gb105 24 #[.string (⟨#[]⟩ : ByteArray), .string (⟨#[]⟩ : ByteArray), .string (⟨#[]⟩ : ByteArray), .bool false] (0, 0) _ rfl (by (with_reducible repeat (first | refine blk_drewN ?_ _ | refine blk_drew ?_ | refine blk_alloc ?_ _)); refine blk_put (cs := #[.string (⟨#[]⟩ : ByteArray), .string (⟨#[]⟩ : ByteArray), .string (⟨#[]⟩ : ByteArray), .bool false]) ?_ 3 _ rfl; (with_reducible repeat (first | refine blk_drewN ?_ _ | refine blk_drew ?_ | refine blk_alloc ?_ _)); refine blk_put (cs := #[.string (⟨#[]⟩ : ByteArray), .string (⟨#[]⟩ : ByteArray), .string (⟨#[]⟩ : ByteArray), .bool false]) ?_ 2 _ rfl; (with_reducible repeat (first | refine blk_drewN ?_ _ | refine blk_drew ?_ | refine blk_alloc ?_ _)); refine blk_put (cs := #[.string (⟨#[]⟩ : ByteArray), .string (⟨#[]⟩ : ByteArray), .string (⟨#[]⟩ : ByteArray), .bool false]) ?_ 1 _ rfl; (with_reducible repeat (first | refine blk_drewN ?_ _ | refine blk_drew ?_ | refine blk_alloc ?_ _)); refine blk_put (cs := #[.string (⟨#[]⟩ : ByteArray), .string (⟨#[]⟩ : ByteArray), .string (⟨#[]⟩ : ByteArray), .bool false]) ?_ 0 _ rfl; (with_reducible repeat (first | refine blk_drewN ?_ _ | refine blk_drew ?_ | refine blk_alloc ?_ _)); exact BK105.out) Tryd.underlying24 rfl (by kernel_rfl)) rfl ?_
    exact ⟨by first | rfl | (simp [errW_none, errW_some] <;> rfl) | (simp [*, errW_none, errW_some] <;> rfl), by repeat (first | (with_reducible first | exact HB.out | apply below_alloc | apply pw_below_drewN | apply below_drew1 | refine below_set ?_ GE105.out) | exact HB.out)⟩
   ·replace c18 := Bool.eq_false_iff.mpr c18
    subst c18
    have H1 : (if 1 < (t106.length : Int) then (http_first.l0 kj2 t106 ((rdOf ByteArray.empty t106 1).size : Int) 0) else (none)) = some (r1, r2, r3, r4, r5) := by rw [if_neg (show ¬ (false = true) by decide)] at H; exact H
    clear H
    have H := H1
    clear H1
    by_cases c20 : 1 < (t106.length : Int)
    ·rw [if_pos c20] at H
     have c20b0 : decide (1 < (t106.length : Int)) = true := decide_eq_true c20
     have c20b1 : decide (1 < t106.length) = true := decide_eq_true (by omega)
     clear c20
     have H' := Aside0.mk H
     clear H
     obtain ⟨Ao21, co21, eo21⟩ := Kd.R_slice HO_4.out
     subst eo21
     have p114 : 0 ≤ (1 : Int) := (by omega)
     have q114 : 1 < (t106.length : Int) := of_decide_eq_true (by first | (with_reducible assumption) | assumption)
     obtain ⟨ad114, e114, hx114_0⟩ := Kd.at_string (Kd.R_reads' HO_4.out).2.2 1 p114 q114
     cases e114
     (try simp only [show (1 : Int).toNat = 1 from rfl, Nat.reduceMul, Nat.reduceEqDiff, Go.Addr.add, ↓reduceIte] at hx114_0)
     have qi114 : (1 < t106.length) = True := eq_true (by omega)
     (try rw [show ((1 : Int)).toNat = 1 from rfl] at hx114_0)
     replace p114 := eq_true p114
     replace q114 := eq_true q114
     go_wp2
     go_loopg [36] kj2 (fun kq v36 w' => ∃ (x36_2 : Int) (x106000_2 : ByteArray) (x106001_2 : ByteArray) (x106002_2 : ByteArray) (x106003_2 : Bool), v36 = .int .i64 x36_2 ∧ Aside0 (http_first.l0 kq t106 ((rdOf ByteArray.empty t106 1).size : Int) x36_2 = some (r1, r2, r3, r4, r5)) ∧ Aside0 (kq ≤ kj2) ∧ Aside0 (Kd.R Kd.string 9 w' w.heap.size (fun _ => True) (.slice (some ad114) t106.length co21) t106) ∧ Aside0 (w'.heap[gb105]? = some (.cells #[.string x106000_2, .string x106001_2, .string x106002_2, .bool x106003_2] 24 (0, 0))) ∧ Aside0 (Below w.heap.size w w'))
     case atStart => exact ⟨(0), ((⟨#[]⟩ : ByteArray)), ((⟨#[]⟩ : ByteArray)), ((⟨#[]⟩ : ByteArray)), (false), (by first | rfl | (simp; done) | (simp [*]; done)), H', ⟨Nat.le_refl _⟩, ⟨by (with_reducible repeat (first | apply Kd.R_alloc | apply Kd.R_drewN | apply Kd.R_drew)); exact HO_4.out⟩, ⟨by (with_reducible repeat (first | refine blk_drewN ?_ _ | refine blk_drew ?_ | refine blk_alloc ?_ _)); exact BK105.out⟩, ⟨by repeat (first | (with_reducible first | exact HB.out | apply below_alloc | apply pw_below_drewN | apply below_drew1 | refine below_set ?_ GE105.out) | exact HB.out)⟩⟩
     case round =>
      clear H'
      try clear c1
      try clear p1
      try clear q1
      try clear hx1
      try clear qi1
      try clear c2
      try clear p2
      try clear c3
      try clear c6
      try clear c6b0
      try clear c6b1
      try clear c7
      try clear c7b0
      try clear c7b1
      try clear c9
      try clear c10
      try clear c10b0
      try clear c10b1
      try clear p10
      try clear q10
      try clear hx10
      try clear qi10
      try clear c11
      try clear c11b0
      try clear c11b1
      try clear p11
      try clear q11
      try clear hx11
      try clear qi11
      try clear c12
      try clear c12b0
      try clear c12b1
      try clear c18
      try clear c20
      try clear c20b0
      try clear c20b1
      try clear hcz19_0
      try clear hcz19_1
      try clear hcz19_2
      try clear hcz19_3
      try clear hfz19_0
      try clear hfz19_1
      try clear hfz19_2
      try clear hfz19_3
      try clear hx109_0
      try clear hx111_0
      try clear hx112_0
      try clear hx114_0
      try clear p1
      try clear p10
      try clear p109
      try clear p11
      try clear p111
      try clear p112
      try clear p114
      try clear p2
      try clear q1
      try clear q10
      try clear q109
      try clear q11
      try clear q111
      try clear q112
      try clear q114
      obtain ⟨x36_2, x106000_2, x106001_2, x106002_2, x106003_2, rfl, HA, HK2, HO_4, BK105, HB⟩ := hrel
      cases gk with
      | zero => exact absurd HA.out (by simp [http_first.l0])
      | succ k2 =>
       have H := HA.out
       clear HA
       simp only [http_first.l0] at H
       by_cases c22 : x36_2 < ((rdOf ByteArray.empty t106 1).size : Int)
       ·rw [if_pos c22] at H
        have c22b0 : decide (x36_2 < ((rdOf ByteArray.empty t106 1).size : Int)) = true := decide_eq_true c22
        clear c22
        by_cases c23 : 1 < (t106.length : Int)
        ·rw [if_pos c23] at H
         have c23b0 : decide (1 < (t106.length : Int)) = true := decide_eq_true c23
         have c23b1 : decide (1 < t106.length) = true := decide_eq_true (by omega)
         clear c23
         by_cases c24 : 0 ≤ x36_2
         ·rw [if_pos c24] at H
          have c24b0 : decide (0 ≤ x36_2) = true := decide_eq_true c24
          clear c24
          by_cases c25 : x36_2 < ((rdOf ByteArray.empty t106 1).size : Int)
          ·rw [if_pos c25] at H
           have c25b0 : decide (x36_2 < ((rdOf ByteArray.empty t106 1).size : Int)) = true := decide_eq_true c25
           clear c25
           by_cases c27 : (bt (rdOf ByteArray.empty t106 1) x36_2) ≤ 32
           ·rw [if_pos c27] at H
            have c27b0 : decide ((bt (rdOf ByteArray.empty t106 1) x36_2) ≤ 32) = true := decide_eq_true c27
            clear c27
            simp only [Option.some.injEq, Prod.mk.injEq] at H
            obtain ⟨rfl, rfl, rfl, rfl, rfl⟩ := H
            have p115 : 0 ≤ (1 : Int) := (by omega)
            have q115 : 1 < (t106.length : Int) := of_decide_eq_true (by first | (with_reducible assumption) | assumption)
            obtain ⟨ad115, e115, hx115_0⟩ := Kd.at_string (Kd.R_reads' HO_4.out).2.2 1 p115 q115
            obtain rfl : ad114 = ad115 := (by injection e115)
            (try simp only [show (1 : Int).toNat = 1 from rfl, Nat.reduceMul, Nat.reduceEqDiff, Go.Addr.add, ↓reduceIte] at hx115_0)
            have qi115 : (1 < t106.length) = True := eq_true (by omega)
            (try rw [show ((1 : Int)).toNat = 1 from rfl] at hx115_0)
            replace p115 := eq_true p115
            replace q115 := eq_true q115
            have p26 : 0 ≤ (x36_2 : Int) := of_decide_eq_true (by first | (with_reducible assumption) | assumption)
            have q26 : x36_2 < ((rdOf ByteArray.empty t106 1).size : Int) := of_decide_eq_true (by first | (with_reducible assumption) | assumption)
            have hx26 := bt_at (rdOf ByteArray.empty t106 1) x36_2
            replace p26 := eq_true p26
            replace q26 := eq_true q26
            have hcz28_0 : wr.cell? ⟨gb105, 0, none⟩ = some (.string x106000_2) := (blk_cell BK105.out 0).trans rfl
            have hcz28_1 : wr.cell? ⟨gb105, 1, none⟩ = some (.string x106001_2) := (blk_cell BK105.out 1).trans rfl
            have hcz28_2 : wr.cell? ⟨gb105, 2, none⟩ = some (.string x106002_2) := (blk_cell BK105.out 2).trans rfl
            have hcz28_3 : wr.cell? ⟨gb105, 3, none⟩ = some (.bool x106003_2) := (blk_cell BK105.out 3).trans rfl
            have hfz28_0 := blk_frozen BK105.out 0
            have hfz28_1 := blk_frozen BK105.out 1
            have hfz28_2 := blk_frozen BK105.out 2
            have hfz28_3 := blk_frozen BK105.out 3
            go_wp2
            refine bodyPost_ret (results_ct rfl _ _ gb105 24 #[.string (⟨#[]⟩ : ByteArray), .string (⟨#[]⟩ : ByteArray), .string (⟨#[]⟩ : ByteArray), .bool false] (0, 0) _ rfl (by (with_reducible repeat (first | refine blk_drewN ?_ _ | refine blk_drew ?_ | refine blk_alloc ?_ _)); refine blk_put (cs := #[.string (⟨#[]⟩ : ByteArray), .string (⟨#[]⟩ : ByteArray), .string (⟨#[]⟩ : ByteArray), .bool x106003_2]) ?_ 3 _ rfl; (with_reducible repeat (first | refine blk_drewN ?_ _ | refine blk_drew ?_ | refine blk_alloc ?_ _)); refine blk_put (cs := #[.string (⟨#[]⟩ : ByteArray), .string (⟨#[]⟩ : ByteArray), .string x106002_2, .bool x106003_2]) ?_ 2 _ rfl; (with_reducible repeat (first | refine blk_drewN ?_ _ | refine blk_drew ?_ | refine blk_alloc ?_ _)); refine blk_put (cs := #[.string (⟨#[]⟩ : ByteArray), .string x106001_2, .string x106002_2, .bool x106003_2]) ?_ 1 _ rfl; (with_reducible repeat (first | refine blk_drewN ?_ _ | refine blk_drew ?_ | refine blk_alloc ?_ _)); refine blk_put (cs := #[.string x106000_2, .string x106001_2, .string x106002_2, .bool x106003_2]) ?_ 0 _ rfl; (with_reducible repeat (first | refine blk_drewN ?_ _ | refine blk_drew ?_ | refine blk_alloc ?_ _)); exact BK105.out) Tryd.underlying24 rfl (by kernel_rfl)) rfl ?_
            exact ⟨by first | rfl | (simp [errW_none, errW_some] <;> rfl) | (simp [*, errW_none, errW_some] <;> rfl), by repeat (first | (with_reducible first | exact HB.out | apply below_alloc | apply pw_below_drewN | apply below_drew1 | refine below_set ?_ GE105.out) | exact HB.out)⟩
           ·rw [if_neg c27] at H
            have c27b0 : decide ((bt (rdOf ByteArray.empty t106 1) x36_2) ≤ 32) = false := decide_eq_false c27
            clear c27
            by_cases c30 : (bt (rdOf ByteArray.empty t106 1) x36_2) > 126
            ·rw [if_pos c30] at H
             have c30b0 : decide (126 < (bt (rdOf ByteArray.empty t106 1) x36_2)) = true := decide_eq_true c30
             clear c30
             simp only [Option.some.injEq, Prod.mk.injEq] at H
             obtain ⟨rfl, rfl, rfl, rfl, rfl⟩ := H
             have p115 : 0 ≤ (1 : Int) := (by omega)
             have q115 : 1 < (t106.length : Int) := of_decide_eq_true (by first | (with_reducible assumption) | assumption)
             obtain ⟨ad115, e115, hx115_0⟩ := Kd.at_string (Kd.R_reads' HO_4.out).2.2 1 p115 q115
             obtain rfl : ad114 = ad115 := (by injection e115)
             (try simp only [show (1 : Int).toNat = 1 from rfl, Nat.reduceMul, Nat.reduceEqDiff, Go.Addr.add, ↓reduceIte] at hx115_0)
             have qi115 : (1 < t106.length) = True := eq_true (by omega)
             (try rw [show ((1 : Int)).toNat = 1 from rfl] at hx115_0)
             replace p115 := eq_true p115
             replace q115 := eq_true q115
             have p26 : 0 ≤ (x36_2 : Int) := of_decide_eq_true (by first | (with_reducible assumption) | assumption)
             have q26 : x36_2 < ((rdOf ByteArray.empty t106 1).size : Int) := of_decide_eq_true (by first | (with_reducible assumption) | assumption)
             have hx26 := bt_at (rdOf ByteArray.empty t106 1) x36_2
             replace p26 := eq_true p26
             replace q26 := eq_true q26
             have p116 : 0 ≤ (1 : Int) := (by omega)
             have q116 : 1 < (t106.length : Int) := of_decide_eq_true (by first | (with_reducible assumption) | assumption)
             obtain ⟨ad116, e116, hx116_0⟩ := Kd.at_string (Kd.R_reads' HO_4.out).2.2 1 p116 q116
             obtain rfl : ad114 = ad116 := (by injection e116)
             (try simp only [show (1 : Int).toNat = 1 from rfl, Nat.reduceMul, Nat.reduceEqDiff, Go.Addr.add, ↓reduceIte] at hx116_0)
             have qi116 : (1 < t106.length) = True := eq_true (by omega)
             (try rw [show ((1 : Int)).toNat = 1 from rfl] at hx116_0)
             replace p116 := eq_true p116
             replace q116 := eq_true q116
             have p29 : 0 ≤ (x36_2 : Int) := of_decide_eq_true (by first | (with_reducible assumption) | assumption)
             have q29 : x36_2 < ((rdOf ByteArray.empty t106 1).size : Int) := of_decide_eq_true (by first | (with_reducible assumption) | assumption)
             have hx29 := bt_at (rdOf ByteArray.empty t106 1) x36_2
             replace p29 := eq_true p29
             replace q29 := eq_true q29
             have hcz31_0 : wr.cell? ⟨gb105, 0, none⟩ = some (.string x106000_2) := (blk_cell BK105.out 0).trans rfl
             have hcz31_1 : wr.cell? ⟨gb105, 1, none⟩ = some (.string x106001_2) := (blk_cell BK105.out 1).trans rfl
             have hcz31_2 : wr.cell? ⟨gb105, 2, none⟩ = some (.string x106002_2) := (blk_cell BK105.out 2).trans rfl
             have hcz31_3 : wr.cell? ⟨gb105, 3, none⟩ = some (.bool x106003_2) := (blk_cell BK105.out 3).trans rfl
             have hfz31_0 := blk_frozen BK105.out 0
             have hfz31_1 := blk_frozen BK105.out 1
             have hfz31_2 := blk_frozen BK105.out 2
             have hfz31_3 := blk_frozen BK105.out 3
             go_wp2
             refine bodyPost_ret (results_ct rfl _ _ gb105 24 #[.string (⟨#[]⟩ : ByteArray), .string (⟨#[]⟩ : ByteArray), .string (⟨#[]⟩ : ByteArray), .bool false] (0, 0) _ rfl (by (with_reducible repeat (first | refine blk_drewN ?_ _ | refine blk_drew ?_ | refine blk_alloc ?_ _)); refine blk_put (cs := #[.string (⟨#[]⟩ : ByteArray), .string (⟨#[]⟩ : ByteArray), .string (⟨#[]⟩ : ByteArray), .bool x106003_2]) ?_ 3 _ rfl; (with_reducible repeat (first | refine blk_drewN ?_ _ | refine blk_drew ?_ | refine blk_alloc ?_ _)); refine blk_put (cs := #[.string (⟨#[]⟩ : ByteArray), .string (⟨#[]⟩ : ByteArray), .string x106002_2, .bool x106003_2]) ?_ 2 _ rfl; (with_reducible repeat (first | refine blk_drewN ?_ _ | refine blk_drew ?_ | refine blk_alloc ?_ _)); refine blk_put (cs := #[.string (⟨#[]⟩ : ByteArray), .string x106001_2, .string x106002_2, .bool x106003_2]) ?_ 1 _ rfl; (with_reducible repeat (first | refine blk_drewN ?_ _ | refine blk_drew ?_ | refine blk_alloc ?_ _)); refine blk_put (cs := #[.string x106000_2, .string x106001_2, .string x106002_2, .bool x106003_2]) ?_ 0 _ rfl; (with_reducible repeat (first | refine blk_drewN ?_ _ | refine blk_drew ?_ | refine blk_alloc ?_ _)); exact BK105.out) Tryd.underlying24 rfl (by kernel_rfl)) rfl ?_
             exact ⟨by first | rfl | (simp [errW_none, errW_some] <;> rfl) | (simp [*, errW_none, errW_some] <;> rfl), by repeat (first | (with_reducible first | exact HB.out | apply below_alloc | apply pw_below_drewN | apply below_drew1 | refine below_set ?_ GE105.out) | exact HB.out)⟩
            ·rw [if_neg c30] at H
             have c30b0 : decide (126 < (bt (rdOf ByteArray.empty t106 1) x36_2)) = false := decide_eq_false c30
             clear c30
             have H' := Aside0.mk H
             clear H
             have p115 : 0 ≤ (1 : Int) := (by omega)
             have q115 : 1 < (t106.length : Int) := of_decide_eq_true (by first | (with_reducible assumption) | assumption)
             obtain ⟨ad115, e115, hx115_0⟩ := Kd.at_string (Kd.R_reads' HO_4.out).2.2 1 p115 q115
             obtain rfl : ad114 = ad115 := (by injection e115)
             (try simp only [show (1 : Int).toNat = 1 from rfl, Nat.reduceMul, Nat.reduceEqDiff, Go.Addr.add, ↓reduceIte] at hx115_0)
             have qi115 : (1 < t106.length) = True := eq_true (by omega)
             (try rw [show ((1 : Int)).toNat = 1 from rfl] at hx115_0)
             replace p115 := eq_true p115
             replace q115 := eq_true q115
             have p26 : 0 ≤ (x36_2 : Int) := of_decide_eq_true (by first | (with_reducible assumption) | assumption)
             have q26 : x36_2 < ((rdOf ByteArray.empty t106 1).size : Int) := of_decide_eq_true (by first | (with_reducible assumption) | assumption)
             have hx26 := bt_at (rdOf ByteArray.empty t106 1) x36_2
             replace p26 := eq_true p26
             replace q26 := eq_true q26
             have p116 : 0 ≤ (1 : Int) := (by omega)
             have q116 : 1 < (t106.length : Int) := of_decide_eq_true (by first | (with_reducible assumption) | assumption)
             obtain ⟨ad116, e116, hx116_0⟩ := Kd.at_string (Kd.R_reads' HO_4.out).2.2 1 p116 q116
             obtain rfl : ad114 = ad116 := (by injection e116)
             (try simp only [show (1 : Int).toNat = 1 from rfl, Nat.reduceMul, Nat.reduceEqDiff, Go.Addr.add, ↓reduceIte] at hx116_0)
             have qi116 : (1 < t106.length) = True := eq_true (by omega)
             (try rw [show ((1 : Int)).toNat = 1 from rfl] at hx116_0)
             replace p116 := eq_true p116
             replace q116 := eq_true q116
             have p29 : 0 ≤ (x36_2 : Int) := of_decide_eq_true (by first | (with_reducible assumption) | assumption)
             have q29 : x36_2 < ((rdOf ByteArray.empty t106 1).size : Int) := of_decide_eq_true (by first | (with_reducible assumption) | assumption)
             have hx29 := bt_at (rdOf ByteArray.empty t106 1) x36_2
             replace p29 := eq_true p29
             replace q29 := eq_true q29
             go_wp2
             go_roundg k2
             case measure => have := HJ2.out; have := HK2.out; omega
             case rel => exact ⟨(wrap64 (x36_2 + 1)), (x106000_2), (x106001_2), (x106002_2), (x106003_2), (by first | rfl | (simp; done) | (simp [*]; done)), H', ⟨by have := HJ2.out; have := HK2.out; omega⟩, ⟨by (with_reducible repeat (first | apply Kd.R_alloc | apply Kd.R_drewN | apply Kd.R_drew)); exact HO_4.out⟩, ⟨by (with_reducible repeat (first | refine blk_drewN ?_ _ | refine blk_drew ?_ | refine blk_alloc ?_ _)); exact BK105.out⟩, ⟨by repeat (first | (with_reducible first | exact HB.out | apply below_alloc | apply pw_below_drewN | apply below_drew1 | refine below_set ?_ GE105.out) | exact HB.out)⟩⟩
          ·rw [if_neg c25] at H
           exact absurd H (by simp)
         ·rw [if_neg c24] at H
          exact absurd H (by simp)
        ·rw [if_neg c23] at H
         exact absurd H (by simp)
       ·rw [if_neg c22] at H
        have c22b0 : decide (x36_2 < ((rdOf ByteArray.empty t106 1).size : Int)) = false := decide_eq_false c22
        clear c22
        by_cases c32 : 0 < (t106.length : Int)
        ·rw [if_pos c32] at H
         have c32b0 : decide (0 < (t106.length : Int)) = true := decide_eq_true c32
         have c32b1 : decide (0 < t106.length) = true := decide_eq_true (by omega)
         clear c32
         by_cases c33 : 1 < (t106.length : Int)
         ·rw [if_pos c33] at H
          have c33b0 : decide (1 < (t106.length : Int)) = true := decide_eq_true c33
          have c33b1 : decide (1 < t106.length) = true := decide_eq_true (by omega)
          clear c33
          simp only [Option.some.injEq, Prod.mk.injEq] at H
          obtain ⟨rfl, rfl, rfl, rfl, rfl⟩ := H
          try go_wp2
          (try (rw [drewN_self wr]; generalize hq_ : World.drewN wr _ = wr; have n0_ : Aside0 (Kd.R Kd.string 9 wr w.heap.size (fun _ => True) (.slice (some ad114) t106.length co21) t106) := ⟨by rw [← hq_]; exact (by (with_reducible repeat (first | apply Kd.R_alloc | apply Kd.R_drewN | apply Kd.R_drew)); exact HO_4.out)⟩; have n1_ : Aside0 (wr.heap[gb105]? = some (.cells #[.string x106000_2, .string x106001_2, .string x106002_2, .bool x106003_2] 24 (0, 0))) := ⟨by rw [← hq_]; exact (by (with_reducible repeat (first | refine blk_drewN ?_ _ | refine blk_drew ?_ | refine blk_alloc ?_ _)); exact BK105.out)⟩; have n2_ : Aside0 (Below w.heap.size w wr) := ⟨by rw [← hq_]; exact (by repeat (first | (with_reducible first | exact HB.out | apply below_alloc | apply pw_below_drewN | apply below_drew1 | refine below_set ?_ GE105.out) | exact HB.out))⟩; clear HO_4 BK105 HB hq_; have HO_4 := n0_; have BK105 := n1_; have HB := n2_; clear n0_ n1_ n2_))
          have n0_ := Aside0.mk (Kd.R_drew HO_4.out)
          have n1_ := Aside0.mk (blk_drew BK105.out)
          have n2_ := Aside0.mk (below_drew1 HB.out)
          clear HO_4
          clear BK105
          clear HB
          have HO_4 := n0_
          have BK105 := n1_
          have HB := n2_
          clear n0_ n1_ n2_
          have p117 : 0 ≤ (0 : Int) := (by omega)
          have q117 : 0 < (t106.length : Int) := of_decide_eq_true (by first | (with_reducible assumption) | assumption)
          obtain ⟨ad117, e117, hx117_0⟩ := Kd.at_string (Kd.R_reads' HO_4.out).2.2 0 p117 q117
          obtain rfl : ad114 = ad117 := (by injection e117)
          have qi117 : (0 < t106.length) = True := eq_true (by omega)
          (try rw [show ((0 : Int)).toNat = 0 from rfl] at hx117_0)
          (try rw [Addr.add_zero'] at hx117_0)
          replace p117 := eq_true p117
          replace q117 := eq_true q117
          have p118 : 0 ≤ (1 : Int) := (by omega)
          have q118 : 1 < (t106.length : Int) := of_decide_eq_true (by first | (with_reducible assumption) | assumption)
          obtain ⟨ad118, e118, hx118_0⟩ := Kd.at_string (Kd.R_reads' HO_4.out).2.2 1 p118 q118
          obtain rfl : ad114 = ad118 := (by injection e118)
          (try simp only [show (1 : Int).toNat = 1 from rfl, Nat.reduceMul, Nat.reduceEqDiff, Go.Addr.add, ↓reduceIte] at hx118_0)
          have qi118 : (1 < t106.length) = True := eq_true (by omega)
          (try rw [show ((1 : Int)).toNat = 1 from rfl] at hx118_0)
          replace p118 := eq_true p118
          replace q118 := eq_true q118
          refine start_ (n := 9) (S := fun w' => w'.cell? ad114 = some (.string (rdOf ByteArray.empty t106 0)) ∧ w'.cell? ⟨ad114.block, ad114.off + 1, none⟩ = some (.string (rdOf ByteArray.empty t106 1))) (ds := []) #[false, false, false, false, false, false, false, false, false] (by kernel_rfl) rfl rfl ⟨hx117_0, hx118_0⟩ (fun hHeld => ?_); refine with_tabW http_first.tab10 http_first.bits10 (fun HT_ HW_ => ?_)
          generalize wr.drew = w34 at HO_4 BK105 HB hx117_0 hx118_0 hHeld ⊢
          refine pure_ (i := 0) (N := some 55) (v := ?_) (a' := ?_) #[true, false, false, false, false, false, false, false, false] rfl rfl (any_of HT_.out (by kernel_rfl)) (fun _ _ _ h => h) (Or.inl ⟨by rfl, ?_⟩) ?_ ?_
          rotate_left
          ·intro w'
           go_simp
           with_reducible rfl
          rotate_left
          ·simp only [Act.put, List.setIfInBounds_toArray, List.set_cons_zero, List.set_cons_succ, i64_w, i32_w]
           rfl
          refine pure_ (i := 1) (N := some 56) (v := ?_) (a' := ?_) #[true, true, false, false, false, false, false, false, false] rfl rfl (any_of HT_.out (by kernel_rfl)) (fun _ _ _ h => h) (Or.inl ⟨by rfl, ?_⟩) ?_ ?_
          rotate_left
          ·intro w'
           go_simp
           with_reducible rfl
          rotate_left
          ·simp only [Act.put, List.setIfInBounds_toArray, List.set_cons_zero, List.set_cons_succ, i64_w, i32_w]
           rfl
          refine pure_ (i := 3) (N := some 58) (v := ?_) (a' := ?_) #[true, true, false, true, false, false, false, false, false] rfl rfl (any_of HT_.out (by kernel_rfl)) (fun _ _ _ h => h) (Or.inl ⟨by rfl, ?_⟩) ?_ ?_
          rotate_left
          ·intro w'
           go_simp
           with_reducible rfl
          rotate_left
          ·simp only [Act.put, List.setIfInBounds_toArray, List.set_cons_zero, List.set_cons_succ, i64_w, i32_w]
           rfl
          refine pure_ (i := 4) (N := some 59) (v := ?_) (a' := ?_) #[true, true, false, true, true, false, false, false, false] rfl rfl (any_of HT_.out (by kernel_rfl)) (fun _ _ _ h => h) (Or.inl ⟨by rfl, ?_⟩) ?_ ?_
          rotate_left
          ·intro w'
           go_simp
           with_reducible rfl
          rotate_left
          ·simp only [Act.put, List.setIfInBounds_toArray, List.set_cons_zero, List.set_cons_succ, i64_w, i32_w]
           rfl
          refine take_ (i := 2) (N := some 57) (v := ?_) (a' := ?_) #[true, true, true, true, true, false, false, false, false] rfl rfl (take_ofW HT_.out HW_.out (by kernel_rfl)) (fun _ _ _ h => h) (Or.inl ⟨by rfl, ?_⟩) hHeld ?_ ?_
          rotate_left
          ·rintro w' ⟨s0, s1⟩
           go_simp
           with_reducible rfl
          rotate_left
          ·simp only [Act.put, List.setIfInBounds_toArray, List.set_cons_zero, List.set_cons_succ, i64_w, i32_w]
           rfl
          refine take_ (i := 5) (N := some 60) (v := ?_) (a' := ?_) #[true, true, true, true, true, true, false, false, false] rfl rfl (take_ofW HT_.out HW_.out (by kernel_rfl)) (fun _ _ _ h => h) (Or.inl ⟨by rfl, ?_⟩) hHeld ?_ ?_
          rotate_left
          ·rintro w' ⟨s0, s1⟩
           go_simp
           with_reducible rfl
          rotate_left
          ·simp only [Act.put, List.setIfInBounds_toArray, List.set_cons_zero, List.set_cons_succ, i64_w, i32_w]
           rfl
          refine pure_ (i := 6) (N := some 61) (v := ?_) (a' := ?_) #[true, true, true, true, true, true, true, false, false] rfl rfl (any_of HT_.out (by kernel_rfl)) (fun _ _ _ h => h) (Or.inl ⟨by rfl, ?_⟩) ?_ ?_
          rotate_left
          ·intro w'
           go_simp
           with_reducible rfl
          rotate_left
          ·simp only [Act.put, List.setIfInBounds_toArray, List.set_cons_zero, List.set_cons_succ, i64_w, i32_w]
           rfl
          refine one_ (i := 7) (N := none) #[true, true, true, true, true, true, true, true, false] rfl rfl (one_of HT_.out (by kernel_rfl)) (by decide) (fun K hK => ?_)
          have hs35 : w34.cell? ⟨gb105, 0, none⟩ = some (.string x106000_2) := (blk_cell BK105.out 0).trans rfl
          have hfs35 := blk_frozen BK105.out 0
          have hs36 : w34.cell? ⟨gb105, 1, none⟩ = some (.string x106001_2) := (blk_cell BK105.out 1).trans rfl
          have hfs36 := blk_frozen BK105.out 1
          have hs37 : w34.cell? ⟨gb105, 2, none⟩ = some (.string x106002_2) := (blk_cell BK105.out 2).trans rfl
          have hfs37 := blk_frozen BK105.out 2
          have hs38 : w34.cell? ⟨gb105, 3, none⟩ = some (.bool x106003_2) := (blk_cell BK105.out 3).trans rfl
          have hfs38 := blk_frozen BK105.out 3
          refine skip_ (w1 := ?_) (by rfl) rfl ?_ ?_
          rotate_left
          ·go_simp
           rfl
          refine hK.out _ _ ⟨((cell_far (p := ⟨gb105, _, none⟩) (by first | exact Kd.own_blk (Kd.R_ne HO_4.out BK105.out (by decide)) | (rw [add_block]; exact Kd.own_blk (Kd.R_ne HO_4.out BK105.out (by decide))) | (show (Addr.add _ _).block ≠ _; rw [add_block]; exact Kd.own_blk (Kd.R_ne HO_4.out BK105.out (by decide))) | (dsimp only; exact Kd.own_blk (Kd.R_ne HO_4.out BK105.out (by decide)))) _).trans (((cell_far (p := ⟨gb105, _, none⟩) (by first | exact Kd.own_blk (Kd.R_ne HO_4.out BK105.out (by decide)) | (rw [add_block]; exact Kd.own_blk (Kd.R_ne HO_4.out BK105.out (by decide))) | (show (Addr.add _ _).block ≠ _; rw [add_block]; exact Kd.own_blk (Kd.R_ne HO_4.out BK105.out (by decide))) | (dsimp only; exact Kd.own_blk (Kd.R_ne HO_4.out BK105.out (by decide)))) _).trans (((cell_far (p := ⟨gb105, _, none⟩) (by first | exact Kd.own_blk (Kd.R_ne HO_4.out BK105.out (by decide)) | (rw [add_block]; exact Kd.own_blk (Kd.R_ne HO_4.out BK105.out (by decide))) | (show (Addr.add _ _).block ≠ _; rw [add_block]; exact Kd.own_blk (Kd.R_ne HO_4.out BK105.out (by decide))) | (dsimp only; exact Kd.own_blk (Kd.R_ne HO_4.out BK105.out (by decide)))) _).trans (((cell_far (p := ⟨gb105, _, none⟩) (by first | exact Kd.own_blk (Kd.R_ne HO_4.out BK105.out (by decide)) | (rw [add_block]; exact Kd.own_blk (Kd.R_ne HO_4.out BK105.out (by decide))) | (show (Addr.add _ _).block ≠ _; rw [add_block]; exact Kd.own_blk (Kd.R_ne HO_4.out BK105.out (by decide))) | (dsimp only; exact Kd.own_blk (Kd.R_ne HO_4.out BK105.out (by decide)))) _).trans (hHeld.1)))))))), ((cell_far (p := ⟨gb105, _, none⟩) (by first | exact Kd.own_blk (Kd.R_ne HO_4.out BK105.out (by decide)) | (rw [add_block]; exact Kd.own_blk (Kd.R_ne HO_4.out BK105.out (by decide))) | (show (Addr.add _ _).block ≠ _; rw [add_block]; exact Kd.own_blk (Kd.R_ne HO_4.out BK105.out (by decide))) | (dsimp only; exact Kd.own_blk (Kd.R_ne HO_4.out BK105.out (by decide)))) _).trans (((cell_far (p := ⟨gb105, _, none⟩) (by first | exact Kd.own_blk (Kd.R_ne HO_4.out BK105.out (by decide)) | (rw [add_block]; exact Kd.own_blk (Kd.R_ne HO_4.out BK105.out (by decide))) | (show (Addr.add _ _).block ≠ _; rw [add_block]; exact Kd.own_blk (Kd.R_ne HO_4.out BK105.out (by decide))) | (dsimp only; exact Kd.own_blk (Kd.R_ne HO_4.out BK105.out (by decide)))) _).trans (((cell_far (p := ⟨gb105, _, none⟩) (by first | exact Kd.own_blk (Kd.R_ne HO_4.out BK105.out (by decide)) | (rw [add_block]; exact Kd.own_blk (Kd.R_ne HO_4.out BK105.out (by decide))) | (show (Addr.add _ _).block ≠ _; rw [add_block]; exact Kd.own_blk (Kd.R_ne HO_4.out BK105.out (by decide))) | (dsimp only; exact Kd.own_blk (Kd.R_ne HO_4.out BK105.out (by decide)))) _).trans (((cell_far (p := ⟨gb105, _, none⟩) (by first | exact Kd.own_blk (Kd.R_ne HO_4.out BK105.out (by decide)) | (rw [add_block]; exact Kd.own_blk (Kd.R_ne HO_4.out BK105.out (by decide))) | (show (Addr.add _ _).block ≠ _; rw [add_block]; exact Kd.own_blk (Kd.R_ne HO_4.out BK105.out (by decide))) | (dsimp only; exact Kd.own_blk (Kd.R_ne HO_4.out BK105.out (by decide)))) _).trans (hHeld.2))))))))⟩ (fun hHeld => ?_)
          clear hK K
          refine pure_ (i := 8) (N := some 3) (v := ?_) (a' := ?_) #[true, true, true, true, true, true, true, true, true] rfl rfl (any_of HT_.out (by kernel_rfl)) (fun _ _ _ h => h) (Or.inl ⟨by rfl, ?_⟩) ?_ ?_
          rotate_left
          ·intro w'
           go_simp
           with_reducible rfl
          rotate_left
          ·simp only [Act.put, List.setIfInBounds_toArray, List.set_cons_zero, List.set_cons_succ, i64_w, i32_w]
           rfl
          refine done_ (done_of HT_.out (by kernel_rfl)) ?_
          try go_wp2
          refine bodyPost_ret (results_ct rfl _ _ gb105 24 #[.string (rdOf ByteArray.empty t106 0), .string (rdOf ByteArray.empty t106 1), .string (⟨#[]⟩ : ByteArray), .bool false] (0, 0) _ rfl (by (with_reducible repeat (first | refine blk_drewN ?_ _ | refine blk_drew ?_ | refine blk_alloc ?_ _)); refine blk_put (cs := #[.string (rdOf ByteArray.empty t106 0), .string (rdOf ByteArray.empty t106 1), .string (⟨#[]⟩ : ByteArray), .bool x106003_2]) ?_ 3 _ rfl; (with_reducible repeat (first | refine blk_drewN ?_ _ | refine blk_drew ?_ | refine blk_alloc ?_ _)); refine blk_put (cs := #[.string (rdOf ByteArray.empty t106 0), .string (rdOf ByteArray.empty t106 1), .string x106002_2, .bool x106003_2]) ?_ 2 _ rfl; (with_reducible repeat (first | refine blk_drewN ?_ _ | refine blk_drew ?_ | refine blk_alloc ?_ _)); refine blk_put (cs := #[.string (rdOf ByteArray.empty t106 0), .string x106001_2, .string x106002_2, .bool x106003_2]) ?_ 1 _ rfl; (with_reducible repeat (first | refine blk_drewN ?_ _ | refine blk_drew ?_ | refine blk_alloc ?_ _)); refine blk_put (cs := #[.string x106000_2, .string x106001_2, .string x106002_2, .bool x106003_2]) ?_ 0 _ rfl; (with_reducible repeat (first | refine blk_drewN ?_ _ | refine blk_drew ?_ | refine blk_alloc ?_ _)); exact BK105.out) Tryd.underlying24 rfl (by kernel_rfl)) rfl ?_
          exact ⟨by first | rfl | (simp [errW_none, errW_some] <;> rfl) | (simp [*, errW_none, errW_some] <;> rfl), by repeat (first | (with_reducible first | exact HB.out | apply below_alloc | apply pw_below_drewN | apply below_drew1 | refine below_set ?_ GE105.out) | exact HB.out)⟩
         ·rw [if_neg c33] at H
          exact absurd H (by simp)
        ·rw [if_neg c32] at H
         exact absurd H (by simp)
    ·rw [if_neg c20] at H
     exact absurd H (by simp)

end Go.Proofs.YtpigloohccpfiaaDoor.PHttpAnswers
