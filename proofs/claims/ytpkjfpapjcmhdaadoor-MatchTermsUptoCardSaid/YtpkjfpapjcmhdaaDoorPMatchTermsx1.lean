-- WRITTEN BY A PROGRAM OF THIS SESSION (wip/patch_print.py: the kit's printer with rules of this session's own); Lean checks it.
import Derived.Test.YtpkjfpapjcmhdaaDoorPMatchTermsx0
namespace Go.Proofs.YtpkjfpapjcmhdaaDoor.PMatchTerms
open Go.RowKit Go.Proofs.YtpkjfpapjcmhdaaDoorW.PrintWords Go.Proofs.YtpkjfpapjcmhdaaDoorW.PrintLast Go.Proofs.YtpkjfpapjcmhdaaDoorW.PrintMore
open Go.Proofs.YtpkjfpapjcmhdaaDoor.G
attribute [local go_sem] max2_int min2_int max_two min_two max_three min_three max_four min_four   -- for this text's walks alone
set_option linter.unusedVariables false
set_option linter.unusedSimpArgs false

/-! ### fascineref05_letter: function 29 -/
mutual
def fascineref05_letter.j0 : Nat → Int → Bool → Option (ByteArray × Int)
  | 0, _, _ => none
  | k + 1, x6, x19 => if x19 = true then (some (strOfNums (([(x6 + 32) % 256] : List Int)), 1)) else (if x6 ≥ 97 then (if x6 ≤ 122 then (fascineref05_letter.j1 k x6 true) else (if x6 ≥ 48 then (fascineref05_letter.j1 k x6 (decide (x6 ≤ 57))) else (fascineref05_letter.j1 k x6 false))) else (if x6 ≥ 48 then (fascineref05_letter.j1 k x6 (decide (x6 ≤ 57))) else (fascineref05_letter.j1 k x6 false)))
def fascineref05_letter.j1 : Nat → Int → Bool → Option (ByteArray × Int)
  | 0, _, _ => none
  | k + 1, x6, x37 => if x37 = true then (some (strOfNums (([x6] : List Int)), 1)) else (some ((⟨#[]⟩ : ByteArray), 1))
end
def fascineref05_letter.f (k : Nat) (a0 : ByteArray) (a1 : Int) : Option (ByteArray × Int) := if 0 ≤ a1 then (if a1 < (a0.size : Int) then (if (bt a0 a1) < 128 then (if (bt a0 a1) ≥ 65 then (fascineref05_letter.j0 k (bt a0 a1) (decide ((bt a0 a1) ≤ 90))) else (fascineref05_letter.j0 k (bt a0 a1) false)) else (if a1 ≤ (a0.size : Int) then ((utf8_DecodeRuneInString.f (a0.extract (a1 : Int).toNat a0.size)).bind fun bt107 => (if bt107.1 = 65533 then (if bt107.2 < 3 then (some ((⟨#[]⟩ : ByteArray), 1)) else (if a1 ≤ (wrap64 (a1 + bt107.2)) then (if (wrap64 (a1 + bt107.2)) ≤ (a0.size : Int) then (some (a0.extract (a1 : Int).toNat ((wrap64 (a1 + bt107.2)) : Int).toNat, bt107.2)) else (none)) else (none))) else (if a1 ≤ (wrap64 (a1 + bt107.2)) then (if (wrap64 (a1 + bt107.2)) ≤ (a0.size : Int) then (some (a0.extract (a1 : Int).toNat ((wrap64 (a1 + bt107.2)) : Int).toNat, bt107.2)) else (none)) else (none)))) else (none))) else (none)) else (none)
theorem fascineref05_letter.mono_l : ∀ k, (∀ y0 y1, LeO (fascineref05_letter.j0 k y0 y1) (fascineref05_letter.j0 (k + 1) y0 y1)) ∧ (∀ y0 y1, LeO (fascineref05_letter.j1 k y0 y1) (fascineref05_letter.j1 (k + 1) y0 y1))
  | 0 => ⟨fun _ _ r h => by simp [fascineref05_letter.j0] at h, fun _ _ r h => by simp [fascineref05_letter.j1] at h⟩
  | k + 1 => by
    obtain ⟨ih0, ih1⟩ := fascineref05_letter.mono_l k
    refine ⟨?_, ?_⟩
    · intro y0 y1
      unfold fascineref05_letter.j0
      repeat' first
      | (with_reducible exact ih0 _ _)
      | (with_reducible exact ih1 _ _)
      | (with_reducible exact LeO.refl _)
      | (with_reducible exact LeO.none _)
      | (with_reducible refine LeO.ite ?_ ?_)
      | (with_reducible refine LeO.bind ?_ (fun _ => ?_))
      | exact ih0 _ _
      | exact ih1 _ _
      | exact LeO.none _
      | refine LeO.ite ?_ ?_
      | refine LeO.bind ?_ (fun _ => ?_)
    · intro y0 y1
      unfold fascineref05_letter.j1
      repeat' first
      | (with_reducible exact ih0 _ _)
      | (with_reducible exact ih1 _ _)
      | (with_reducible exact LeO.refl _)
      | (with_reducible exact LeO.none _)
      | (with_reducible refine LeO.ite ?_ ?_)
      | (with_reducible refine LeO.bind ?_ (fun _ => ?_))
      | exact ih0 _ _
      | exact ih1 _ _
      | exact LeO.none _
      | refine LeO.ite ?_ ?_
      | refine LeO.bind ?_ (fun _ => ?_)
theorem fascineref05_letter.mono : ∀ a0 a1 k, LeO (fascineref05_letter.f k a0 a1) (fascineref05_letter.f (k + 1) a0 a1) := by
  intro a0 a1 k
  obtain ⟨ih0, ih1⟩ := fascineref05_letter.mono_l k
  unfold fascineref05_letter.f
  repeat' first
      | (with_reducible exact ih0 _ _)
      | (with_reducible exact ih1 _ _)
      | (with_reducible exact LeO.refl _)
      | (with_reducible exact LeO.none _)
      | (with_reducible refine LeO.ite ?_ ?_)
      | (with_reducible refine LeO.bind ?_ (fun _ => ?_))
      | exact ih0 _ _
      | exact ih1 _ _
      | exact LeO.none _
      | refine LeO.ite ?_ ?_
      | refine LeO.bind ?_ (fun _ => ?_)
set_option maxHeartbeats 8000000 in
set_option maxRecDepth 100000 in
theorem fascineref05_letter.calls (k : Nat) (a0 : ByteArray) (a1 : Int) (r1 : ByteArray) (r2 : Int) (w : World) (hT : tabs w) (h : fascineref05_letter.f k a0 a1 = some (r1, r2)) :
    Calls Tryd.prog 29 #[.string a0, .int .i64 a1] w fun e w' => e = .returned (.tuple #[.string r1, .int .i64 r2]) ∧ Below w.heap.size w w' := by
  have HT := Aside0.mk hT
  clear hT
  have HB := Aside0.mk (Below.refl w.heap.size w)
  have H : (if 0 ≤ a1 then (if a1 < (a0.size : Int) then (if (bt a0 a1) < 128 then (if (bt a0 a1) ≥ 65 then (fascineref05_letter.j0 k (bt a0 a1) (decide ((bt a0 a1) ≤ 90))) else (fascineref05_letter.j0 k (bt a0 a1) false)) else (if a1 ≤ (a0.size : Int) then ((utf8_DecodeRuneInString.f (a0.extract (a1 : Int).toNat a0.size)).bind fun bt107 => (if bt107.1 = 65533 then (if bt107.2 < 3 then (some ((⟨#[]⟩ : ByteArray), 1)) else (if a1 ≤ (wrap64 (a1 + bt107.2)) then (if (wrap64 (a1 + bt107.2)) ≤ (a0.size : Int) then (some (a0.extract (a1 : Int).toNat ((wrap64 (a1 + bt107.2)) : Int).toNat, bt107.2)) else (none)) else (none))) else (if a1 ≤ (wrap64 (a1 + bt107.2)) then (if (wrap64 (a1 + bt107.2)) ≤ (a0.size : Int) then (some (a0.extract (a1 : Int).toNat ((wrap64 (a1 + bt107.2)) : Int).toNat, bt107.2)) else (none)) else (none)))) else (none))) else (none)) else (none)) = some (r1, r2) := h
  clear h
  by_cases c3 : 0 ≤ a1
  · rw [if_pos c3] at H
    have c3b0 : decide (0 ≤ a1) = true := decide_eq_true c3
    clear c3
    by_cases c4 : a1 < (a0.size : Int)
    · rw [if_pos c4] at H
      have c4b0 : decide (a1 < (a0.size : Int)) = true := decide_eq_true c4
      clear c4
      by_cases c6 : (bt a0 a1) < 128
      · rw [if_pos c6] at H
        have c6b0 : decide ((bt a0 a1) < 128) = true := decide_eq_true c6
        clear c6
        have HC7 := Aside0.mk H
        clear H
        have p5 : 0 ≤ (a1 : Int) := of_decide_eq_true (by first | (with_reducible assumption) | assumption)
        have q5 : a1 < (a0.size : Int) := of_decide_eq_true (by first | (with_reducible assumption) | assumption)
        have hx5 := bt_at a0 a1
        replace p5 := eq_true p5
        replace q5 := eq_true q5
        go_enter Tryd.func29, Tryd.ntmps29
        go_upto_region 3 with (fail)
        go_cut [19] (fun v19 wc => ∃ (kq : Nat) (x19_6 : Bool), v19 = .bool x19_6 ∧ Aside0 (fascineref05_letter.j0 kq (bt a0 a1) x19_6 = some (r1, r2)) ∧ Aside0 (kq ≤ k) ∧ Aside0 (Below w.heap.size w wc))
        case first =>
          have H := HC7.out
          clear HC7
          by_cases c8 : (bt a0 a1) ≥ 65
          · rw [if_pos c8] at H
            have c8b0 : decide (65 ≤ (bt a0 a1)) = true := decide_eq_true c8
            clear c8
            (first | rw [c8b0] | (simp only [i64_w, i32_w]; rw [c8b0]) | skip)
            have H' := Aside0.mk H
            clear H
            go_wp2
            go_meet
            case rel => exact ⟨_, (decide ((bt a0 a1) ≤ 90)), (by first | rfl | (simp; done) | (simp [*]; done)), H', ⟨by first | omega | exact Nat.le_refl _⟩, ⟨by repeat (first | (with_reducible first | exact HB.out | apply below_alloc | apply pw_below_drewN | apply below_drew1) | exact HB.out)⟩⟩
          · rw [if_neg c8] at H
            have c8b0 : decide (65 ≤ (bt a0 a1)) = false := decide_eq_false c8
            clear c8
            (first | rw [c8b0] | (simp only [i64_w, i32_w]; rw [c8b0]) | skip)
            have H' := Aside0.mk H
            clear H
            go_wp2
            go_meet
            case rel => exact ⟨_, (false), (by first | rfl | (simp; done) | (simp [*]; done)), H', ⟨by first | omega | exact Nat.le_refl _⟩, ⟨by repeat (first | (with_reducible first | exact HB.out | apply below_alloc | apply pw_below_drewN | apply below_drew1) | exact HB.out)⟩⟩
        case rest =>
          clear HC7
          try clear c2
          try clear p2
          try clear c3
          try clear c3b0
          try clear c4
          try clear c4b0
          try clear p5
          try clear q5
          try clear hx5
          try clear c6
          try clear c6b0
          try clear p6
          try clear c8
          try clear c8b0
          try clear p5
          try clear q5
          obtain ⟨kq, x19_6, rfl, HA, HJ6, HB⟩ := hcut
          cases kq with
          | zero => exact absurd HA.out (by simp [fascineref05_letter.j0])
          | succ kj6 =>
            have H := HA.out
            clear HA
            simp only [fascineref05_letter.j0] at H
            by_cases c9 : x19_6 = true
            · subst c9
              have H1 : (some (strOfNums (([((bt a0 a1) + 32) % 256] : List Int)), 1)) = some (r1, r2) := by rw [if_pos rfl] at H; exact H
              clear H
              have H := H1
              clear H1
              obtain ⟨y101, hy101⟩ : ∃ y_ : List Int, y_ = (([((bt a0 a1) + 32) % 256] : List Int)) := ⟨_, rfl⟩
              replace H : (some (strOfNums y101, 1)) = some (r1, r2) := by first | (rw [hy101]; with_reducible exact H) | (have H2_ := (Option.bind_some _ _).symm.trans H; rw [hy101]; with_reducible exact H2_) | (have H2_ := (Option.bind_some _ _).symm.trans H; with_reducible exact H2_) | with_reducible exact H | (rw [hy101]; exact H) | exact H
              have Ny101 := Aside0.mk hy101
              clear hy101
              simp only [Option.some.injEq, Prod.mk.injEq] at H
              obtain ⟨rfl, rfl⟩ := H
              go_wp2_with (first | ((with_reducible refine gate_dst (N := 22) rfl ?_); refine Kd.R_lit (Kd.int .u8) _ 5 ?hg (N := 22) ?hd (xs := ([((bt a0 a1) + 32) % 256] : List Int)) (inner := [.int .u8 (((bt a0 a1) + 32) % 256)]) (ok := fun _ => True) (okp := fun _ => True) ?hr ?hp (fun _ hk => hk) trivial (Below.refl _ _) (Nat.le_refl _) (by simp) ?_; (case hd => rfl); (case hg => rfl); (case hr => first | (go_simp; done) | (go_simp; rfl)); (case hp => exact (Reps.one (show Kd.M (Kd.int .u8) _ _ _ (((bt a0 a1) + 32) % 256) [.int .u8 (((bt a0 a1) + 32) % 256)] from rfl) (Reps.none _ _))); intro v102 w10 ho11 hb hg_ hnew_; clear hg_ hnew_; (first | rw [← Ny101.out] at ho11 | (simp only [Int.reduceToNat] at ho11; rw [← Ny101.out] at ho11)); have n0_ := Aside0.mk (Kd.R_lower ho11 (below_size (by repeat (first | (with_reducible first | exact HB.out | apply below_alloc | apply pw_below_drewN | apply below_drew1) | exact HB.out)))); have n1_ := Aside0.mk (below_step (by repeat (first | (with_reducible first | exact HB.out | apply below_alloc | apply pw_below_drewN | apply below_drew1) | exact HB.out)) hb); clear HB; have HO103 := n0_; have HB := n1_; clear n0_ n1_; clear hb ho11; have hcv12 := own_string (P := Tryd.prog) Tryd.underlying50 Tryd.underlying5 Tryd.underlying9 (Kd.own_of_R HO103.out); have hcq13 := fun (nq_ : Nat) => own_string (P := Tryd.prog) Tryd.underlying50 Tryd.underlying5 Tryd.underlying9 (Kd.own_of_R (Kd.R_drewN HO103.out nq_))))
              go_ret2
              exact ⟨by first | rfl | (simp [errW_none, errW_some] <;> rfl) | (simp [*, errW_none, errW_some] <;> rfl), by repeat (first | (with_reducible first | exact HB.out | apply below_alloc | apply pw_below_drewN | apply below_drew1) | exact HB.out)⟩
            · replace c9 := Bool.eq_false_iff.mpr c9
              subst c9
              have H1 : (if (bt a0 a1) ≥ 97 then (if (bt a0 a1) ≤ 122 then (fascineref05_letter.j1 kj6 (bt a0 a1) true) else (if (bt a0 a1) ≥ 48 then (fascineref05_letter.j1 kj6 (bt a0 a1) (decide ((bt a0 a1) ≤ 57))) else (fascineref05_letter.j1 kj6 (bt a0 a1) false))) else (if (bt a0 a1) ≥ 48 then (fascineref05_letter.j1 kj6 (bt a0 a1) (decide ((bt a0 a1) ≤ 57))) else (fascineref05_letter.j1 kj6 (bt a0 a1) false))) = some (r1, r2) := by rw [if_neg (show ¬ (false = true) by decide)] at H; exact H
              clear H
              have H := H1
              clear H1
              have HC14 := Aside0.mk H
              clear H
              go_upto_region 5 with (fail)
              go_cut [37] (fun v37 wc => ∃ (kq : Nat) (x37_13 : Bool), v37 = .bool x37_13 ∧ Aside0 (fascineref05_letter.j1 kq (bt a0 a1) x37_13 = some (r1, r2)) ∧ Aside0 (kq ≤ kj6) ∧ Aside0 (Below w.heap.size w wc))
              case first =>
                have H := HC14.out
                clear HC14
                by_cases c15 : (bt a0 a1) ≥ 97
                · rw [if_pos c15] at H
                  have c15b0 : decide (97 ≤ (bt a0 a1)) = true := decide_eq_true c15
                  clear c15
                  (first | rw [c15b0] | (simp only [i64_w, i32_w]; rw [c15b0]) | skip)
                  by_cases c16 : (bt a0 a1) ≤ 122
                  · rw [if_pos c16] at H
                    have c16b0 : decide ((bt a0 a1) ≤ 122) = true := decide_eq_true c16
                    clear c16
                    have H' := Aside0.mk H
                    clear H
                    go_wp2
                    go_meet
                    case rel => exact ⟨_, (true), (by first | rfl | (simp; done) | (simp [*]; done)), H', ⟨by have := HJ6.out; first | omega | exact Nat.le_refl _⟩, ⟨by repeat (first | (with_reducible first | exact HB.out | apply below_alloc | apply pw_below_drewN | apply below_drew1) | exact HB.out)⟩⟩
                  · rw [if_neg c16] at H
                    have c16b0 : decide ((bt a0 a1) ≤ 122) = false := decide_eq_false c16
                    clear c16
                    by_cases c17 : (bt a0 a1) ≥ 48
                    · rw [if_pos c17] at H
                      have c17b0 : decide (48 ≤ (bt a0 a1)) = true := decide_eq_true c17
                      clear c17
                      have H' := Aside0.mk H
                      clear H
                      go_wp2
                      go_meet
                      case rel => exact ⟨_, (decide ((bt a0 a1) ≤ 57)), (by first | rfl | (simp; done) | (simp [*]; done)), H', ⟨by have := HJ6.out; first | omega | exact Nat.le_refl _⟩, ⟨by repeat (first | (with_reducible first | exact HB.out | apply below_alloc | apply pw_below_drewN | apply below_drew1) | exact HB.out)⟩⟩
                    · rw [if_neg c17] at H
                      have c17b0 : decide (48 ≤ (bt a0 a1)) = false := decide_eq_false c17
                      clear c17
                      have H' := Aside0.mk H
                      clear H
                      go_wp2
                      go_meet
                      case rel => exact ⟨_, (false), (by first | rfl | (simp; done) | (simp [*]; done)), H', ⟨by have := HJ6.out; first | omega | exact Nat.le_refl _⟩, ⟨by repeat (first | (with_reducible first | exact HB.out | apply below_alloc | apply pw_below_drewN | apply below_drew1) | exact HB.out)⟩⟩
                · rw [if_neg c15] at H
                  have c15b0 : decide (97 ≤ (bt a0 a1)) = false := decide_eq_false c15
                  clear c15
                  (first | rw [c15b0] | (simp only [i64_w, i32_w]; rw [c15b0]) | skip)
                  by_cases c18 : (bt a0 a1) ≥ 48
                  · rw [if_pos c18] at H
                    have c18b0 : decide (48 ≤ (bt a0 a1)) = true := decide_eq_true c18
                    clear c18
                    have H' := Aside0.mk H
                    clear H
                    go_wp2
                    go_meet
                    case rel => exact ⟨_, (decide ((bt a0 a1) ≤ 57)), (by first | rfl | (simp; done) | (simp [*]; done)), H', ⟨by have := HJ6.out; first | omega | exact Nat.le_refl _⟩, ⟨by repeat (first | (with_reducible first | exact HB.out | apply below_alloc | apply pw_below_drewN | apply below_drew1) | exact HB.out)⟩⟩
                  · rw [if_neg c18] at H
                    have c18b0 : decide (48 ≤ (bt a0 a1)) = false := decide_eq_false c18
                    clear c18
                    have H' := Aside0.mk H
                    clear H
                    go_wp2
                    go_meet
                    case rel => exact ⟨_, (false), (by first | rfl | (simp; done) | (simp [*]; done)), H', ⟨by have := HJ6.out; first | omega | exact Nat.le_refl _⟩, ⟨by repeat (first | (with_reducible first | exact HB.out | apply below_alloc | apply pw_below_drewN | apply below_drew1) | exact HB.out)⟩⟩
              case rest =>
                clear HC14
                try clear c1
                try clear q1
                try clear hcv1
                try clear c2
                try clear p2
                try clear c3
                try clear c3b0
                try clear c4
                try clear c4b0
                try clear p5
                try clear q5
                try clear hx5
                try clear c6
                try clear c6b0
                try clear p6
                try clear c8
                try clear c8b0
                try clear c9
                try clear hcv12
                try clear q13
                try clear c15
                try clear c15b0
                try clear c16
                try clear c16b0
                try clear c17
                try clear c17b0
                try clear c18
                try clear c18b0
                try clear p2
                try clear p5
                try clear p6
                try clear q5
                obtain ⟨kq, x37_13, rfl, HA, HJ13, HB⟩ := hcut
                cases kq with
                | zero => exact absurd HA.out (by simp [fascineref05_letter.j1])
                | succ kj13 =>
                  have H := HA.out
                  clear HA
                  simp only [fascineref05_letter.j1] at H
                  by_cases c19 : x37_13 = true
                  · subst c19
                    have H1 : (some (strOfNums (([(bt a0 a1)] : List Int)), 1)) = some (r1, r2) := by rw [if_pos rfl] at H; exact H
                    clear H
                    have H := H1
                    clear H1
                    obtain ⟨y104, hy104⟩ : ∃ y_ : List Int, y_ = (([(bt a0 a1)] : List Int)) := ⟨_, rfl⟩
                    replace H : (some (strOfNums y104, 1)) = some (r1, r2) := by first | (rw [hy104]; with_reducible exact H) | (have H2_ := (Option.bind_some _ _).symm.trans H; rw [hy104]; with_reducible exact H2_) | (have H2_ := (Option.bind_some _ _).symm.trans H; with_reducible exact H2_) | with_reducible exact H | (rw [hy104]; exact H) | exact H
                    have Ny104 := Aside0.mk hy104
                    clear hy104
                    simp only [Option.some.injEq, Prod.mk.injEq] at H
                    obtain ⟨rfl, rfl⟩ := H
                    go_wp2_with (first | ((with_reducible refine gate_dst (N := 39) rfl ?_); refine Kd.R_lit (Kd.int .u8) _ 5 ?hg (N := 39) ?hd (xs := ([(bt a0 a1)] : List Int)) (inner := [.int .u8 (bt a0 a1)]) (ok := fun _ => True) (okp := fun _ => True) ?hr ?hp (fun _ hk => hk) trivial (Below.refl _ _) (Nat.le_refl _) (by simp) ?_; (case hd => rfl); (case hg => rfl); (case hr => first | (go_simp; done) | (go_simp; rfl)); (case hp => exact (Reps.one (show Kd.M (Kd.int .u8) _ _ _ (bt a0 a1) [.int .u8 (bt a0 a1)] from rfl) (Reps.none _ _))); intro v105 w20 ho21 hb hg_ hnew_; clear hg_ hnew_; (first | rw [← Ny104.out] at ho21 | (simp only [Int.reduceToNat] at ho21; rw [← Ny104.out] at ho21)); have n0_ := Aside0.mk (Kd.R_lower ho21 (below_size (by repeat (first | (with_reducible first | exact HB.out | apply below_alloc | apply pw_below_drewN | apply below_drew1) | exact HB.out)))); have n1_ := Aside0.mk (below_step (by repeat (first | (with_reducible first | exact HB.out | apply below_alloc | apply pw_below_drewN | apply below_drew1) | exact HB.out)) hb); clear HB; have HO106 := n0_; have HB := n1_; clear n0_ n1_; clear hb ho21; have hcv22 := own_string (P := Tryd.prog) Tryd.underlying50 Tryd.underlying5 Tryd.underlying9 (Kd.own_of_R HO106.out); have hcq23 := fun (nq_ : Nat) => own_string (P := Tryd.prog) Tryd.underlying50 Tryd.underlying5 Tryd.underlying9 (Kd.own_of_R (Kd.R_drewN HO106.out nq_))))
                    go_ret2
                    exact ⟨by first | rfl | (simp [errW_none, errW_some] <;> rfl) | (simp [*, errW_none, errW_some] <;> rfl), by repeat (first | (with_reducible first | exact HB.out | apply below_alloc | apply pw_below_drewN | apply below_drew1) | exact HB.out)⟩
                  · replace c19 := Bool.eq_false_iff.mpr c19
                    subst c19
                    have H1 : (some ((⟨#[]⟩ : ByteArray), 1)) = some (r1, r2) := by rw [if_neg (show ¬ (false = true) by decide)] at H; exact H
                    clear H
                    have H := H1
                    clear H1
                    simp only [Option.some.injEq, Prod.mk.injEq] at H
                    obtain ⟨rfl, rfl⟩ := H
                    go_wp2
                    go_ret2
                    exact ⟨by first | rfl | (simp [errW_none, errW_some] <;> rfl) | (simp [*, errW_none, errW_some] <;> rfl), by repeat (first | (with_reducible first | exact HB.out | apply below_alloc | apply pw_below_drewN | apply below_drew1) | exact HB.out)⟩
      · rw [if_neg c6] at H
        have c6b0 : decide ((bt a0 a1) < 128) = false := decide_eq_false c6
        clear c6
        have c24b0 := eq_true (of_decide_eq_true (by first | (with_reducible assumption) | assumption) : 0 ≤ a1)
        by_cases c25 : a1 ≤ (a0.size : Int)
        · rw [if_pos c25] at H
          have c25b0 := eq_true c25
          have c25b1 : decide (a1 ≤ (a0.size : Int)) = true := decide_eq_true c25
          clear c25
          replace H := Option.bind_eq_some_iff.mp H
          obtain ⟨⟨t107, t108⟩, A260, H⟩ := H
          replace H : (if t107 = 65533 then (if t108 < 3 then (some ((⟨#[]⟩ : ByteArray), 1)) else (if a1 ≤ (wrap64 (a1 + t108)) then (if (wrap64 (a1 + t108)) ≤ (a0.size : Int) then (some (a0.extract (a1 : Int).toNat ((wrap64 (a1 + t108)) : Int).toNat, t108)) else (none)) else (none))) else (if a1 ≤ (wrap64 (a1 + t108)) then (if (wrap64 (a1 + t108)) ≤ (a0.size : Int) then (some (a0.extract (a1 : Int).toNat ((wrap64 (a1 + t108)) : Int).toNat, t108)) else (none)) else (none))) = some (r1, r2) := H
          have A26 := Aside0.mk A260
          clear A260
          by_cases c27 : t107 = 65533
          · rw [if_pos c27] at H
            have c27b0 : (t107 == 65533) = true := beq_iff_eq.mpr c27
            have c27b1 : (t107 != 65533) = false := bne_eq_false_iff_eq.mpr c27
            clear c27
            by_cases c28 : t108 < 3
            · rw [if_pos c28] at H
              have c28b0 : decide (t108 < 3) = true := decide_eq_true c28
              clear c28
              simp only [Option.some.injEq, Prod.mk.injEq] at H
              obtain ⟨rfl, rfl⟩ := H
              have p5 : 0 ≤ (a1 : Int) := of_decide_eq_true (by first | (with_reducible assumption) | assumption)
              have q5 : a1 < (a0.size : Int) := of_decide_eq_true (by first | (with_reducible assumption) | assumption)
              have hx5 := bt_at a0 a1
              replace p5 := eq_true p5
              replace q5 := eq_true q5
              go_enter Tryd.func29, Tryd.ntmps29
              go_wp2_with (first | ((with_reducible refine gate_callee (f := 30) rfl ?_); refine goesL_ (some 45) rfl rfl Tryd.func30 (by kernel_rfl) rfl #[.string (a0.extract (a1 : Int).toNat a0.size)] rfl (by (try simp only [List.map_toArray, List.map_cons, List.map_nil]); first | done | rfl | (simp only [List.length_drop, List.length_take]; rfl)) ?_; (with_reducible refine (utf8_DecodeRuneInString.calls (a0.extract (a1 : Int).toNat a0.size) t107 t108 _ ?side1 A26.out).mono ?_); (case side1 => first | exact HT.out | exact tabs_below HT.out (by repeat (first | (with_reducible first | exact HB.out | apply below_alloc | apply pw_below_drewN | apply below_drew1) | exact HB.out))); rintro e w29 ⟨rfl, hb⟩; refine ⟨_, rfl, ?_⟩; have n0_ := Aside0.mk (below_step (by repeat (first | (with_reducible first | exact HB.out | apply below_alloc | apply pw_below_drewN | apply below_drew1) | exact HB.out)) hb); clear HB; have HB := n0_; clear n0_; (try clear hb); (try clear hb2); (try clear hk); (try clear hi)))
              go_ret2
              exact ⟨by first | rfl | (simp [errW_none, errW_some] <;> rfl) | (simp [*, errW_none, errW_some] <;> rfl), by repeat (first | (with_reducible first | exact HB.out | apply below_alloc | apply pw_below_drewN | apply below_drew1) | exact HB.out)⟩
            · rw [if_neg c28] at H
              have c28b0 : decide (t108 < 3) = false := decide_eq_false c28
              clear c28
              have c30b0 := eq_true (of_decide_eq_true (by first | (with_reducible assumption) | assumption) : 0 ≤ a1)
              by_cases c31 : a1 ≤ (wrap64 (a1 + t108))
              · rw [if_pos c31] at H
                have c31b0 := eq_true c31
                have c31b1 : decide (a1 ≤ (wrap64 (a1 + t108))) = true := decide_eq_true c31
                by_cases c32 : (wrap64 (a1 + t108)) ≤ (a0.size : Int)
                · rw [if_pos c32] at H
                  have c32b0 := eq_true c32
                  have c32b1 : decide ((wrap64 (a1 + t108)) ≤ (a0.size : Int)) = true := decide_eq_true c32
                  simp only [Option.some.injEq, Prod.mk.injEq] at H
                  obtain ⟨rfl, rfl⟩ := H
                  have p5 : 0 ≤ (a1 : Int) := of_decide_eq_true (by first | (with_reducible assumption) | assumption)
                  have q5 : a1 < (a0.size : Int) := of_decide_eq_true (by first | (with_reducible assumption) | assumption)
                  have hx5 := bt_at a0 a1
                  replace p5 := eq_true p5
                  replace q5 := eq_true q5
                  go_enter Tryd.func29, Tryd.ntmps29
                  go_wp2_with (first | ((with_reducible refine gate_callee (f := 30) rfl ?_); refine goesL_ (some 45) rfl rfl Tryd.func30 (by kernel_rfl) rfl #[.string (a0.extract (a1 : Int).toNat a0.size)] rfl (by (try simp only [List.map_toArray, List.map_cons, List.map_nil]); first | done | rfl | (simp only [List.length_drop, List.length_take]; rfl)) ?_; (with_reducible refine (utf8_DecodeRuneInString.calls (a0.extract (a1 : Int).toNat a0.size) t107 t108 _ ?side1 A26.out).mono ?_); (case side1 => first | exact HT.out | exact tabs_below HT.out (by repeat (first | (with_reducible first | exact HB.out | apply below_alloc | apply pw_below_drewN | apply below_drew1) | exact HB.out))); rintro e w33 ⟨rfl, hb⟩; refine ⟨_, rfl, ?_⟩; have n0_ := Aside0.mk (below_step (by repeat (first | (with_reducible first | exact HB.out | apply below_alloc | apply pw_below_drewN | apply below_drew1) | exact HB.out)) hb); clear HB; have HB := n0_; clear n0_; (try clear hb); (try clear hb2); (try clear hk); (try clear hi)))
                  go_ret2
                  exact ⟨by first | rfl | (simp [errW_none, errW_some] <;> rfl) | (simp [*, errW_none, errW_some] <;> rfl), by repeat (first | (with_reducible first | exact HB.out | apply below_alloc | apply pw_below_drewN | apply below_drew1) | exact HB.out)⟩
                · rw [if_neg c32] at H
                  exact absurd H (by simp)
              · rw [if_neg c31] at H
                exact absurd H (by simp)
          · rw [if_neg c27] at H
            have c27b0 : (t107 == 65533) = false := beq_eq_false_iff_ne.mpr c27
            have c27b1 : (t107 != 65533) = true := bne_iff_ne.mpr c27
            have c34b0 := eq_true (of_decide_eq_true (by first | (with_reducible assumption) | assumption) : 0 ≤ a1)
            by_cases c35 : a1 ≤ (wrap64 (a1 + t108))
            · rw [if_pos c35] at H
              have c35b0 := eq_true c35
              have c35b1 : decide (a1 ≤ (wrap64 (a1 + t108))) = true := decide_eq_true c35
              by_cases c36 : (wrap64 (a1 + t108)) ≤ (a0.size : Int)
              · rw [if_pos c36] at H
                have c36b0 := eq_true c36
                have c36b1 : decide ((wrap64 (a1 + t108)) ≤ (a0.size : Int)) = true := decide_eq_true c36
                simp only [Option.some.injEq, Prod.mk.injEq] at H
                obtain ⟨rfl, rfl⟩ := H
                have p5 : 0 ≤ (a1 : Int) := of_decide_eq_true (by first | (with_reducible assumption) | assumption)
                have q5 : a1 < (a0.size : Int) := of_decide_eq_true (by first | (with_reducible assumption) | assumption)
                have hx5 := bt_at a0 a1
                replace p5 := eq_true p5
                replace q5 := eq_true q5
                go_enter Tryd.func29, Tryd.ntmps29
                go_wp2_with (first | ((with_reducible refine gate_callee (f := 30) rfl ?_); refine goesL_ (some 45) rfl rfl Tryd.func30 (by kernel_rfl) rfl #[.string (a0.extract (a1 : Int).toNat a0.size)] rfl (by (try simp only [List.map_toArray, List.map_cons, List.map_nil]); first | done | rfl | (simp only [List.length_drop, List.length_take]; rfl)) ?_; (with_reducible refine (utf8_DecodeRuneInString.calls (a0.extract (a1 : Int).toNat a0.size) t107 t108 _ ?side1 A26.out).mono ?_); (case side1 => first | exact HT.out | exact tabs_below HT.out (by repeat (first | (with_reducible first | exact HB.out | apply below_alloc | apply pw_below_drewN | apply below_drew1) | exact HB.out))); rintro e w37 ⟨rfl, hb⟩; refine ⟨_, rfl, ?_⟩; have n0_ := Aside0.mk (below_step (by repeat (first | (with_reducible first | exact HB.out | apply below_alloc | apply pw_below_drewN | apply below_drew1) | exact HB.out)) hb); clear HB; have HB := n0_; clear n0_; (try clear hb); (try clear hb2); (try clear hk); (try clear hi)))
                go_ret2
                exact ⟨by first | rfl | (simp [errW_none, errW_some] <;> rfl) | (simp [*, errW_none, errW_some] <;> rfl), by repeat (first | (with_reducible first | exact HB.out | apply below_alloc | apply pw_below_drewN | apply below_drew1) | exact HB.out)⟩
              · rw [if_neg c36] at H
                exact absurd H (by simp)
            · rw [if_neg c35] at H
              exact absurd H (by simp)
        · rw [if_neg c25] at H
          exact absurd H (by simp)
    · rw [if_neg c4] at H
      exact absurd H (by simp)
  · rw [if_neg c3] at H
    exact absurd H (by simp)

/-! ### fascineref05_Words: function 16 -/
mutual
def fascineref05_Words.l0 : Nat → ByteArray → List (S35) → Int → Option ((List (S35)))
  | 0, _, _, _ => none
  | k + 1, x0, x3, x4 => if x4 < (x0.size : Int) then ((fascineref05_letter.f k x0 x4).bind fun bt109 => (if bt109.1.toList = ([] : List UInt8) then (fascineref05_Words.l0 k x0 x3 (wrap64 (x4 + bt109.2))) else (fascineref05_Words.l1 k x0 x3 x4 (⟨#[]⟩ : ByteArray) x4 0))) else (some x3)
def fascineref05_Words.l1 : Nat → ByteArray → List (S35) → Int → ByteArray → Int → Int → Option ((List (S35)))
  | 0, _, _, _, _, _, _ => none
  | k + 1, x0, x3, x4, x112000, x112001, x112002 => if x4 < (x0.size : Int) then ((fascineref05_letter.f k x0 x4).bind fun bt112 => (if bt112.1.toList = ([] : List UInt8) then (if x3.length < 4398046511104 then (fascineref05_Words.l0 k x0 (x3 ++ [(⟨x112000, x112001, x4⟩ : S35)]) x4) else (none)) else (if (wrap64 ((x112000.size : Int) + bt112.2)) > 32 then (if x3.length < 4398046511104 then (fascineref05_Words.l0 k x0 (x3 ++ [(⟨x112000, x112001, x4⟩ : S35)]) x4) else (none)) else (if x112000.size + bt112.1.size ≤ 9223372036854775807 then (fascineref05_Words.l1 k x0 x3 (wrap64 (x4 + bt112.2)) (x112000 ++ bt112.1) x112001 x112002) else (none))))) else (if x3.length < 4398046511104 then (fascineref05_Words.l0 k x0 (x3 ++ [(⟨x112000, x112001, x4⟩ : S35)]) x4) else (none))
end
def fascineref05_Words.f (k : Nat) (a0 : ByteArray) : Option ((List (S35))) := fascineref05_Words.l0 k a0 ([] : List (S35)) 0
theorem fascineref05_Words.mono_l : ∀ k, (∀ y0 y1 y2, LeO (fascineref05_Words.l0 k y0 y1 y2) (fascineref05_Words.l0 (k + 1) y0 y1 y2)) ∧ (∀ y0 y1 y2 y3 y4 y5, LeO (fascineref05_Words.l1 k y0 y1 y2 y3 y4 y5) (fascineref05_Words.l1 (k + 1) y0 y1 y2 y3 y4 y5))
  | 0 => ⟨fun _ _ _ r h => by simp [fascineref05_Words.l0] at h, fun _ _ _ _ _ _ r h => by simp [fascineref05_Words.l1] at h⟩
  | k + 1 => by
    obtain ⟨ih0, ih1⟩ := fascineref05_Words.mono_l k
    refine ⟨?_, ?_⟩
    · intro y0 y1 y2
      unfold fascineref05_Words.l0
      repeat' first
      | (with_reducible exact ih0 _ _ _)
      | (with_reducible exact ih1 _ _ _ _ _ _)
      | (with_reducible exact fascineref05_letter.mono _ _ _)
      | (with_reducible exact LeO.refl _)
      | (with_reducible exact LeO.none _)
      | (with_reducible refine LeO.ite ?_ ?_)
      | (with_reducible refine LeO.bind ?_ (fun _ => ?_))
      | exact ih0 _ _ _
      | exact ih1 _ _ _ _ _ _
      | exact fascineref05_letter.mono _ _ _
      | exact LeO.none _
      | refine LeO.ite ?_ ?_
      | refine LeO.bind ?_ (fun _ => ?_)
    · intro y0 y1 y2 y3 y4 y5
      unfold fascineref05_Words.l1
      repeat' first
      | (with_reducible exact ih0 _ _ _)
      | (with_reducible exact ih1 _ _ _ _ _ _)
      | (with_reducible exact fascineref05_letter.mono _ _ _)
      | (with_reducible exact LeO.refl _)
      | (with_reducible exact LeO.none _)
      | (with_reducible refine LeO.ite ?_ ?_)
      | (with_reducible refine LeO.bind ?_ (fun _ => ?_))
      | exact ih0 _ _ _
      | exact ih1 _ _ _ _ _ _
      | exact fascineref05_letter.mono _ _ _
      | exact LeO.none _
      | refine LeO.ite ?_ ?_
      | refine LeO.bind ?_ (fun _ => ?_)
theorem fascineref05_Words.mono : ∀ a0 k, LeO (fascineref05_Words.f k a0) (fascineref05_Words.f (k + 1) a0) := by
  intro a0 k
  obtain ⟨ih0, ih1⟩ := fascineref05_Words.mono_l k
  unfold fascineref05_Words.f
  repeat' first
      | (with_reducible exact ih0 _ _ _)
      | (with_reducible exact ih1 _ _ _ _ _ _)
      | (with_reducible exact fascineref05_letter.mono _ _ _)
      | (with_reducible exact LeO.refl _)
      | (with_reducible exact LeO.none _)
      | (with_reducible refine LeO.ite ?_ ?_)
      | (with_reducible refine LeO.bind ?_ (fun _ => ?_))
      | exact ih0 _ _ _
      | exact ih1 _ _ _ _ _ _
      | exact fascineref05_letter.mono _ _ _
      | exact LeO.none _
      | refine LeO.ite ?_ ?_
      | refine LeO.bind ?_ (fun _ => ?_)
set_option maxHeartbeats 8000000 in
set_option maxRecDepth 100000 in
theorem fascineref05_Words.calls (k : Nat) (a0 : ByteArray) (r : List (S35)) (w : World) (hT : tabs w) (h : fascineref05_Words.f k a0 = some r) :
    Calls Tryd.prog 16 #[.string a0] w fun e w' => ∃ v0_ : Value, e = .returned (v0_) ∧ Kd.R k35 35 w' w.heap.size (fun _ => True) v0_ r ∧ Below w.heap.size w w' := by
  have hu35 := Tryd.underlying35
  have HT := Aside0.mk hT
  clear hT
  have HB := Aside0.mk (Below.refl w.heap.size w)
  have H : (fascineref05_Words.l0 k a0 ([] : List (S35)) 0) = some r := h
  clear h
  have H' := Aside0.mk H
  clear H
  go_enter Tryd.func16, Tryd.ntmps16
  go_wp2
  go_loopg [3, 4] k (fun kq v3 v4 w' => ∃ (x3_1 : List (S35)) (x4_1 : Int), v4 = .int .i64 x4_1 ∧ Aside0 (fascineref05_Words.l0 kq a0 x3_1 x4_1 = some r) ∧ Aside0 (kq ≤ k) ∧ Aside0 (Kd.R k35 35 w' w.heap.size (fun _ => True) v3 x3_1) ∧ Aside0 (Below w.heap.size w w'))
  case atStart => exact ⟨(([] : List (S35))), (0), (by first | rfl | (simp; done) | (simp [*]; done)), H', ⟨Nat.le_refl _⟩, ⟨by first | exact Kd.R_nil _ _ _ _ _ | exact Kd.N_nil _ _ _ _ _ | exact Kd.V_nil _ _ _ _ _ | exact Kd.Q_nil _ _ _ _ _ | exact Kd.S_nil _ _ _ _ _⟩, ⟨by repeat (first | (with_reducible first | exact HB.out | apply below_alloc | apply pw_below_drewN | apply below_drew1) | exact HB.out)⟩⟩
  case round =>
    clear H'
    try clear c1
    obtain ⟨x3_1, x4_1, rfl, HA, HK1, HO_3, HB⟩ := hrel
    cases gk with
    | zero => exact absurd HA.out (by simp [fascineref05_Words.l0])
    | succ k1 =>
      have H := HA.out
      clear HA
      simp only [fascineref05_Words.l0] at H
      by_cases c2 : x4_1 < (a0.size : Int)
      · rw [if_pos c2] at H
        have c2b0 : decide (x4_1 < (a0.size : Int)) = true := decide_eq_true c2
        clear c2
        replace H := Option.bind_eq_some_iff.mp H
        obtain ⟨⟨t109, t110⟩, A30, H⟩ := H
        replace H : (if t109.toList = ([] : List UInt8) then (fascineref05_Words.l0 k1 a0 x3_1 (wrap64 (x4_1 + t110))) else (fascineref05_Words.l1 k1 a0 x3_1 x4_1 (⟨#[]⟩ : ByteArray) x4_1 0)) = some r := H
        have A3 := Aside0.mk A30
        clear A30
        by_cases c4 : t109.toList = ([] : List UInt8)
        · rw [if_pos c4] at H
          have c4b0 : (t109.toList == ([] : List UInt8)) = true := beq_iff_eq.mpr c4
          have c4b1 : (t109.toList != ([] : List UInt8)) = false := bne_eq_false_iff_eq.mpr c4
          clear c4
          have H' := Aside0.mk H
          clear H
          go_wp2_with (first | ((with_reducible refine gate_callee (f := 29) rfl ?_); refine goesL_ (some 15) rfl rfl Tryd.func29 (by kernel_rfl) rfl #[.string a0, .int .i64 x4_1] rfl (by (try simp only [List.map_toArray, List.map_cons, List.map_nil]); first | done | rfl | (simp only [List.length_drop, List.length_take]; rfl)) ?_; (with_reducible refine (fascineref05_letter.calls k1 a0 x4_1 t109 t110 _ ?side1 A3.out).mono ?_); (case side1 => first | exact HT.out | exact tabs_below HT.out (by repeat (first | (with_reducible first | exact HB.out | apply below_alloc | apply pw_below_drewN | apply below_drew1) | exact HB.out))); rintro e w5 ⟨rfl, hb⟩; refine ⟨_, rfl, ?_⟩; have n0_ := Aside0.mk (Kd.R_below (by (with_reducible repeat (first | apply Kd.R_alloc | apply Kd.R_drewN | apply Kd.R_drew)); exact HO_3.out) hb); have n1_ := Aside0.mk (below_step (by repeat (first | (with_reducible first | exact HB.out | apply below_alloc | apply pw_below_drewN | apply below_drew1) | exact HB.out)) hb); clear HO_3; clear HB; have HO_3 := n0_; have HB := n1_; clear n0_ n1_; (try clear hb); (try clear hb2); (try clear hk); (try clear hi)))
          go_roundg k1
          case measure => have := HK1.out; omega
          case rel => exact ⟨(x3_1), (wrap64 (x4_1 + t110)), (by first | rfl | (simp; done) | (simp [*]; done)), H', ⟨by have := HK1.out; omega⟩, ⟨by (with_reducible repeat (first | apply Kd.R_alloc | apply Kd.R_drewN | apply Kd.R_drew)); exact HO_3.out⟩, ⟨by repeat (first | (with_reducible first | exact HB.out | apply below_alloc | apply pw_below_drewN | apply below_drew1) | exact HB.out)⟩⟩
        · rw [if_neg c4] at H
          have c4b0 : (t109.toList == ([] : List UInt8)) = false := beq_eq_false_iff_ne.mpr c4
          have c4b1 : (t109.toList != ([] : List UInt8)) = true := bne_iff_ne.mpr c4
          have H' := Aside0.mk H
          clear H
          go_wp2_with (first | ((with_reducible refine gate_callee (f := 29) rfl ?_); refine goesL_ (some 15) rfl rfl Tryd.func29 (by kernel_rfl) rfl #[.string a0, .int .i64 x4_1] rfl (by (try simp only [List.map_toArray, List.map_cons, List.map_nil]); first | done | rfl | (simp only [List.length_drop, List.length_take]; rfl)) ?_; (with_reducible refine (fascineref05_letter.calls k1 a0 x4_1 t109 t110 _ ?side1 A3.out).mono ?_); (case side1 => first | exact HT.out | exact tabs_below HT.out (by repeat (first | (with_reducible first | exact HB.out | apply below_alloc | apply pw_below_drewN | apply below_drew1) | exact HB.out))); rintro e w6 ⟨rfl, hb⟩; refine ⟨_, rfl, ?_⟩; have n0_ := Aside0.mk (Kd.R_below (by (with_reducible repeat (first | apply Kd.R_alloc | apply Kd.R_drewN | apply Kd.R_drew)); exact HO_3.out) hb); have n1_ := Aside0.mk (below_step (by repeat (first | (with_reducible first | exact HB.out | apply below_alloc | apply pw_below_drewN | apply below_drew1) | exact HB.out)) hb); clear HO_3; clear HB; have HO_3 := n0_; have HB := n1_; clear n0_ n1_; (try clear hb); (try clear hb2); (try clear hk); (try clear hi)) | ((with_reducible refine gate_dst (N := 7) rfl ?_); (try (refine gate_guard (by rfl) ?_; dsimp only)); refine box_event ?hg (N := 7) ?hd (cs := #[.string (⟨#[]⟩ : ByteArray), .int .i64 0, .int .i64 0]) (t := 35) ?hr ?_; (case hd => rfl); (case hg => rfl); (case hr => first | (go_simp; done) | (go_simp; rfl)); intro gb111 hg w7 hbox hb; have n0_ := Aside0.mk (Kd.R_below (Kd.R_elderB (by (with_reducible repeat (first | apply Kd.R_alloc | apply Kd.R_drewN | apply Kd.R_drew)); exact HO_3.out) gb111 (Nat.le_of_eq hg.symm)) hb); have n1_ := Aside0.mk (below_step (by repeat (first | (with_reducible first | exact HB.out | apply below_alloc | apply pw_below_drewN | apply below_drew1) | exact HB.out)) hb); have n2_ := Aside0.mk (hbox); have n3_ := Aside0.mk ((by rw [hg]; exact (below_size (by repeat (first | (with_reducible first | exact HB.out | apply below_alloc | apply pw_below_drewN | apply below_drew1) | exact HB.out))) : w.heap.size ≤ gb111)); have n4_ := Aside0.mk ((by rw [hg]; exact (below_size (by repeat (first | (with_reducible first | exact HB.out | apply below_alloc | apply pw_below_drewN | apply below_drew1) | exact HB.out))) : w.heap.size ≤ gb111)); clear HO_3; clear HB; have HO_3 := n0_; have HB := n1_; have BK111 := n2_; have GW111 := n3_; have GE111 := n4_; clear n0_ n1_ n2_ n3_ n4_; clear hb hbox hg; have hcz8_0 : w7.cell? ⟨gb111, 0, none⟩ = some (.string (⟨#[]⟩ : ByteArray)) := (blk_cell BK111.out 0).trans rfl; have hcz8_1 : w7.cell? ⟨gb111, 1, none⟩ = some (.int .i64 0) := (blk_cell BK111.out 1).trans rfl; have hcz8_2 : w7.cell? ⟨gb111, 2, none⟩ = some (.int .i64 0) := (blk_cell BK111.out 2).trans rfl; have hfz8_0 := blk_frozen BK111.out 0; have hfz8_1 := blk_frozen BK111.out 1; have hfz8_2 := blk_frozen BK111.out 2))
          go_loopg [4] k1 (fun kq v4 w' => ∃ (x4_2 : Int) (x112000_2 : ByteArray), v4 = .int .i64 x4_2 ∧ Aside0 (fascineref05_Words.l1 kq a0 x3_1 x4_2 x112000_2 x4_1 0 = some r) ∧ Aside0 (kq ≤ k1) ∧ Aside0 (Kd.R k35 35 w' w.heap.size (fun k_ => k_ ≠ gb111) u3 x3_1) ∧ Aside0 (w'.heap[gb111]? = some (.cells #[.string x112000_2, .int .i64 x4_1, .int .i64 0] 35 (0, 0))) ∧ Aside0 (Below w.heap.size w w'))
          case atStart => exact ⟨(x4_1), ((⟨#[]⟩ : ByteArray)), (by first | rfl | (simp; done) | (simp [*]; done)), H', ⟨Nat.le_refl _⟩, ⟨by (with_reducible repeat (first | apply Kd.R_alloc | apply Kd.R_drewN | apply Kd.R_drew)); exact Kd.R_mono (Kd.R_far (p := ⟨gb111, 2, none⟩) (Kd.R_far (p := ⟨gb111, 1, none⟩) (Kd.R_far (p := ⟨gb111, 0, none⟩) (Kd.R_mono HO_3.out (fun k_ hk => (⟨hk, hk.2⟩ : _ ∧ k_ ≠ gb111))) (fun _ hk => hk.2) (.string (⟨#[]⟩ : ByteArray))) (fun _ hk => hk.2) (.int .i64 x4_1)) (fun _ hk => hk.2) (.int .i64 0)) (fun _ hk => hk.1.2)⟩, ⟨by (with_reducible repeat (first | refine blk_drewN ?_ _ | refine blk_drew ?_ | refine blk_alloc ?_ _)); refine blk_put (cs := #[.string (⟨#[]⟩ : ByteArray), .int .i64 x4_1, .int .i64 0]) ?_ 2 _ rfl; (with_reducible repeat (first | refine blk_drewN ?_ _ | refine blk_drew ?_ | refine blk_alloc ?_ _)); refine blk_put (cs := #[.string (⟨#[]⟩ : ByteArray), .int .i64 0, .int .i64 0]) ?_ 1 _ rfl; (with_reducible repeat (first | refine blk_drewN ?_ _ | refine blk_drew ?_ | refine blk_alloc ?_ _)); refine blk_put (cs := #[.string (⟨#[]⟩ : ByteArray), .int .i64 0, .int .i64 0]) ?_ 0 _ rfl; (with_reducible repeat (first | refine blk_drewN ?_ _ | refine blk_drew ?_ | refine blk_alloc ?_ _)); exact BK111.out⟩, ⟨by repeat (first | (with_reducible first | exact HB.out | apply below_alloc | apply pw_below_drewN | apply below_drew1 | refine below_set ?_ GE111.out) | exact HB.out)⟩⟩
          case round =>
            clear H'
            try clear c1
            try clear c2
            try clear c2b0
            try clear p2
            try clear c4
            try clear c4b0
            try clear c4b1
            try clear p6
            try clear hcz8_0
            try clear hcz8_1
            try clear hcz8_2
            try clear hfz8_0
            try clear hfz8_1
            try clear hfz8_2
            obtain ⟨x4_2, x112000_2, rfl, HA, HK2, HO_3, BK111, HB⟩ := hrel
            cases gk with
            | zero => exact absurd HA.out (by simp [fascineref05_Words.l1])
            | succ k2 =>
              have H := HA.out
              clear HA
              simp only [fascineref05_Words.l1] at H
              by_cases c9 : x4_2 < (a0.size : Int)
              · rw [if_pos c9] at H
                have c9b0 : decide (x4_2 < (a0.size : Int)) = true := decide_eq_true c9
                clear c9
                replace H := Option.bind_eq_some_iff.mp H
                obtain ⟨⟨t112, t113⟩, A100, H⟩ := H
                replace H : (if t112.toList = ([] : List UInt8) then (if x3_1.length < 4398046511104 then (fascineref05_Words.l0 k2 a0 (x3_1 ++ [(⟨x112000_2, x4_1, x4_2⟩ : S35)]) x4_2) else (none)) else (if (wrap64 ((x112000_2.size : Int) + t113)) > 32 then (if x3_1.length < 4398046511104 then (fascineref05_Words.l0 k2 a0 (x3_1 ++ [(⟨x112000_2, x4_1, x4_2⟩ : S35)]) x4_2) else (none)) else (if x112000_2.size + t112.size ≤ 9223372036854775807 then (fascineref05_Words.l1 k2 a0 x3_1 (wrap64 (x4_2 + t113)) (x112000_2 ++ t112) x4_1 0) else (none)))) = some r := H
                have A10 := Aside0.mk A100
                clear A100
                by_cases c11 : t112.toList = ([] : List UInt8)
                · rw [if_pos c11] at H
                  have c11b0 : (t112.toList == ([] : List UInt8)) = true := beq_iff_eq.mpr c11
                  have c11b1 : (t112.toList != ([] : List UInt8)) = false := bne_eq_false_iff_eq.mpr c11
                  clear c11
                  by_cases c12 : x3_1.length < 4398046511104
                  · rw [if_pos c12] at H
                    have LMc12 := Aside0.mk c12
                    clear c12
                    obtain ⟨y114, hy114⟩ : ∃ y_ : List (S35), y_ = (x3_1 ++ [(⟨x112000_2, x4_1, x4_2⟩ : S35)]) := ⟨_, rfl⟩
                    replace H : (fascineref05_Words.l0 k2 a0 y114 x4_2) = some r := by first | (rw [hy114]; with_reducible exact H) | (have H2_ := (Option.bind_some _ _).symm.trans H; rw [hy114]; with_reducible exact H2_) | (have H2_ := (Option.bind_some _ _).symm.trans H; with_reducible exact H2_) | with_reducible exact H | (rw [hy114]; exact H) | exact H
                    have Ny114 := Aside0.mk hy114
                    clear hy114
                    have H' := Aside0.mk H
                    clear H
                    go_wp2_with (first | ((with_reducible refine gate_callee (f := 29) rfl ?_); refine goesL_ (some 32) rfl rfl Tryd.func29 (by kernel_rfl) rfl #[.string a0, .int .i64 x4_2] rfl (by (try simp only [List.map_toArray, List.map_cons, List.map_nil]); first | done | rfl | (simp only [List.length_drop, List.length_take]; rfl)) ?_; (with_reducible refine (fascineref05_letter.calls k2 a0 x4_2 t112 t113 _ ?side1 A10.out).mono ?_); (case side1 => first | exact HT.out | exact tabs_below HT.out (by repeat (first | (with_reducible first | exact HB.out | apply below_alloc | apply pw_below_drewN | apply below_drew1 | refine below_set ?_ GE111.out) | exact HB.out))); rintro e w13 ⟨rfl, hb⟩; refine ⟨_, rfl, ?_⟩; have n0_ := Aside0.mk (Kd.R_below (by (with_reducible repeat (first | apply Kd.R_alloc | apply Kd.R_drewN | apply Kd.R_drew)); exact HO_3.out) hb); have n1_ := Aside0.mk (blk_below (g := gb111) (o := .cells #[.string x112000_2, .int .i64 x4_1, .int .i64 0] 35 (0, 0)) (by (with_reducible repeat (first | refine blk_drewN ?_ _ | refine blk_drew ?_ | refine blk_alloc ?_ _)); exact BK111.out) hb); have n2_ := Aside0.mk (below_step (by repeat (first | (with_reducible first | exact HB.out | apply below_alloc | apply pw_below_drewN | apply below_drew1 | refine below_set ?_ GE111.out) | exact HB.out)) hb); clear HO_3; clear BK111; clear HB; have HO_3 := n0_; have BK111 := n1_; have HB := n2_; clear n0_ n1_ n2_; (try clear hb); (try clear hb2); (try clear hk); (try clear hi); have hcz14_0 : w13.cell? ⟨gb111, 0, none⟩ = some (.string x112000_2) := (blk_cell BK111.out 0).trans rfl; have hcz14_1 : w13.cell? ⟨gb111, 1, none⟩ = some (.int .i64 x4_1) := (blk_cell BK111.out 1).trans rfl; have hcz14_2 : w13.cell? ⟨gb111, 2, none⟩ = some (.int .i64 0) := (blk_cell BK111.out 2).trans rfl; have hfz14_0 := blk_frozen BK111.out 0; have hfz14_1 := blk_frozen BK111.out 1; have hfz14_2 := blk_frozen BK111.out 2) | ((with_reducible refine gate_builtin (b := .append) (xs := #[.tmp 55, .tmp 57]) rfl ?_); (try (refine gate_guard (by rfl) ?_; dsimp only)); at_builtin; refine Kd.R_append k35 (w0 := w) w.heap.size rfl (.tmp 55) (.tmp 57) 28 35 (.agg #[(.string ⟨#[]⟩), (.int .i64 0), (.int .i64 0)]) 32 rfl Tryd.underlying28 info35 rfl (by decide) (by omega) u3 x3_1 (⟨x112000_2, x4_1, x4_2⟩ : S35) [.string x112000_2, .int .i64 x4_1, .int .i64 x4_2] (fun k_ => k_ ≠ gb111) (fun _ => False) rfl (by first | (go_simp; done) | (go_simp; rfl)) ?aP (fun _ hk => hk.elim) ?aF ?aO ?aB ?aS ?aL ?_; (case aP => exact k35_mkM _ _ _ (⟨x112000_2, x4_1, x4_2⟩ : S35)); (case aB => exact (by repeat (first | (with_reducible first | exact HB.out | apply below_alloc | apply pw_below_drewN | apply below_drew1 | refine below_set ?_ GE111.out) | exact HB.out))); (case aF => exact (fun k_ hk => Kd.freshB (g := gb111) (o := .cells #[.string x112000_2, .int .i64 x4_1, .int .i64 x4_2] 35 (0, 0)) (by (with_reducible repeat (first | refine blk_drewN ?_ _ | refine blk_drew ?_ | refine blk_alloc ?_ _)); refine blk_put (cs := #[.string x112000_2, .int .i64 x4_1, .int .i64 0]) ?_ 2 _ rfl; (with_reducible repeat (first | refine blk_drewN ?_ _ | refine blk_drew ?_ | refine blk_alloc ?_ _)); exact BK111.out) k_ hk)); (case aO => exact (by (with_reducible repeat (first | apply Kd.R_alloc | apply Kd.R_drewN | apply Kd.R_drew)); exact Kd.R_mono (Kd.R_far (p := ⟨gb111, 2, none⟩) (Kd.R_mono HO_3.out (fun k_ hk => (⟨hk, hk⟩ : _ ∧ k_ ≠ gb111))) (fun _ hk => hk.2) (.int .i64 x4_2)) (fun _ hk => hk.1))); (case aS => exact (below_size (by repeat (first | (with_reducible first | exact HB.out | apply below_alloc | apply pw_below_drewN | apply below_drew1 | refine below_set ?_ GE111.out) | exact HB.out)))); (case aL => have := LMc12.out; omega); intro v115 w15 ho hb hg hat; rw [← Ny114.out] at ho; have n0_ := Aside0.mk (blk_grown (g := gb111) (o := .cells #[.string x112000_2, .int .i64 x4_1, .int .i64 x4_2] 35 (0, 0)) (by (with_reducible repeat (first | refine blk_drewN ?_ _ | refine blk_drew ?_ | refine blk_alloc ?_ _)); refine blk_put (cs := #[.string x112000_2, .int .i64 x4_1, .int .i64 0]) ?_ 2 _ rfl; (with_reducible repeat (first | refine blk_drewN ?_ _ | refine blk_drew ?_ | refine blk_alloc ?_ _)); exact BK111.out) hg (Kd.R_away HO_3.out (fun _ hk => hk))); have n1_ := Aside0.mk (hb); have n2_ := Aside0.mk (ho); clear BK111; clear HB; clear HO_3; have BK111 := n0_; have HB := n1_; have HO116 := n2_; clear n0_ n1_ n2_; clear ho hb hg hat))
                    go_roundg k2
                    case measure => have := HK1.out; have := HK2.out; omega
                    case rel => exact ⟨(y114), (x4_2), (by first | rfl | (simp; done) | (simp [*]; done)), H', ⟨by have := HK1.out; have := HK2.out; omega⟩, ⟨by (with_reducible repeat (first | apply Kd.R_alloc | apply Kd.R_drewN | apply Kd.R_drew)); exact Kd.R_mono HO116.out (fun _ hk => trivial)⟩, ⟨by repeat (first | (with_reducible first | exact HB.out | apply below_alloc | apply pw_below_drewN | apply below_drew1 | refine below_set ?_ GE111.out) | exact HB.out)⟩⟩
                  · rw [if_neg c12] at H
                    exact absurd H (by simp)
                · rw [if_neg c11] at H
                  have c11b0 : (t112.toList == ([] : List UInt8)) = false := beq_eq_false_iff_ne.mpr c11
                  have c11b1 : (t112.toList != ([] : List UInt8)) = true := bne_iff_ne.mpr c11
                  by_cases c16 : (wrap64 ((x112000_2.size : Int) + t113)) > 32
                  · rw [if_pos c16] at H
                    have c16b0 : decide (32 < (wrap64 ((x112000_2.size : Int) + t113))) = true := decide_eq_true c16
                    clear c16
                    by_cases c17 : x3_1.length < 4398046511104
                    · rw [if_pos c17] at H
                      have LMc17 := Aside0.mk c17
                      clear c17
                      obtain ⟨y117, hy117⟩ : ∃ y_ : List (S35), y_ = (x3_1 ++ [(⟨x112000_2, x4_1, x4_2⟩ : S35)]) := ⟨_, rfl⟩
                      replace H : (fascineref05_Words.l0 k2 a0 y117 x4_2) = some r := by first | (rw [hy117]; with_reducible exact H) | (have H2_ := (Option.bind_some _ _).symm.trans H; rw [hy117]; with_reducible exact H2_) | (have H2_ := (Option.bind_some _ _).symm.trans H; with_reducible exact H2_) | with_reducible exact H | (rw [hy117]; exact H) | exact H
                      have Ny117 := Aside0.mk hy117
                      clear hy117
                      have H' := Aside0.mk H
                      clear H
                      go_wp2_with (first | ((with_reducible refine gate_callee (f := 29) rfl ?_); refine goesL_ (some 32) rfl rfl Tryd.func29 (by kernel_rfl) rfl #[.string a0, .int .i64 x4_2] rfl (by (try simp only [List.map_toArray, List.map_cons, List.map_nil]); first | done | rfl | (simp only [List.length_drop, List.length_take]; rfl)) ?_; (with_reducible refine (fascineref05_letter.calls k2 a0 x4_2 t112 t113 _ ?side1 A10.out).mono ?_); (case side1 => first | exact HT.out | exact tabs_below HT.out (by repeat (first | (with_reducible first | exact HB.out | apply below_alloc | apply pw_below_drewN | apply below_drew1 | refine below_set ?_ GE111.out) | exact HB.out))); rintro e w18 ⟨rfl, hb⟩; refine ⟨_, rfl, ?_⟩; have n0_ := Aside0.mk (Kd.R_below (by (with_reducible repeat (first | apply Kd.R_alloc | apply Kd.R_drewN | apply Kd.R_drew)); exact HO_3.out) hb); have n1_ := Aside0.mk (blk_below (g := gb111) (o := .cells #[.string x112000_2, .int .i64 x4_1, .int .i64 0] 35 (0, 0)) (by (with_reducible repeat (first | refine blk_drewN ?_ _ | refine blk_drew ?_ | refine blk_alloc ?_ _)); exact BK111.out) hb); have n2_ := Aside0.mk (below_step (by repeat (first | (with_reducible first | exact HB.out | apply below_alloc | apply pw_below_drewN | apply below_drew1 | refine below_set ?_ GE111.out) | exact HB.out)) hb); clear HO_3; clear BK111; clear HB; have HO_3 := n0_; have BK111 := n1_; have HB := n2_; clear n0_ n1_ n2_; (try clear hb); (try clear hb2); (try clear hk); (try clear hi); have hcz19_0 : w18.cell? ⟨gb111, 0, none⟩ = some (.string x112000_2) := (blk_cell BK111.out 0).trans rfl; have hcz19_1 : w18.cell? ⟨gb111, 1, none⟩ = some (.int .i64 x4_1) := (blk_cell BK111.out 1).trans rfl; have hcz19_2 : w18.cell? ⟨gb111, 2, none⟩ = some (.int .i64 0) := (blk_cell BK111.out 2).trans rfl; have hfz19_0 := blk_frozen BK111.out 0; have hfz19_1 := blk_frozen BK111.out 1; have hfz19_2 := blk_frozen BK111.out 2) | ((with_reducible refine gate_builtin (b := .append) (xs := #[.tmp 55, .tmp 57]) rfl ?_); (try (refine gate_guard (by rfl) ?_; dsimp only)); at_builtin; refine Kd.R_append k35 (w0 := w) w.heap.size rfl (.tmp 55) (.tmp 57) 28 35 (.agg #[(.string ⟨#[]⟩), (.int .i64 0), (.int .i64 0)]) 32 rfl Tryd.underlying28 info35 rfl (by decide) (by omega) u3 x3_1 (⟨x112000_2, x4_1, x4_2⟩ : S35) [.string x112000_2, .int .i64 x4_1, .int .i64 x4_2] (fun k_ => k_ ≠ gb111) (fun _ => False) rfl (by first | (go_simp; done) | (go_simp; rfl)) ?aP (fun _ hk => hk.elim) ?aF ?aO ?aB ?aS ?aL ?_; (case aP => exact k35_mkM _ _ _ (⟨x112000_2, x4_1, x4_2⟩ : S35)); (case aB => exact (by repeat (first | (with_reducible first | exact HB.out | apply below_alloc | apply pw_below_drewN | apply below_drew1 | refine below_set ?_ GE111.out) | exact HB.out))); (case aF => exact (fun k_ hk => Kd.freshB (g := gb111) (o := .cells #[.string x112000_2, .int .i64 x4_1, .int .i64 x4_2] 35 (0, 0)) (by (with_reducible repeat (first | refine blk_drewN ?_ _ | refine blk_drew ?_ | refine blk_alloc ?_ _)); refine blk_put (cs := #[.string x112000_2, .int .i64 x4_1, .int .i64 0]) ?_ 2 _ rfl; (with_reducible repeat (first | refine blk_drewN ?_ _ | refine blk_drew ?_ | refine blk_alloc ?_ _)); exact BK111.out) k_ hk)); (case aO => exact (by (with_reducible repeat (first | apply Kd.R_alloc | apply Kd.R_drewN | apply Kd.R_drew)); exact Kd.R_mono (Kd.R_far (p := ⟨gb111, 2, none⟩) (Kd.R_mono HO_3.out (fun k_ hk => (⟨hk, hk⟩ : _ ∧ k_ ≠ gb111))) (fun _ hk => hk.2) (.int .i64 x4_2)) (fun _ hk => hk.1))); (case aS => exact (below_size (by repeat (first | (with_reducible first | exact HB.out | apply below_alloc | apply pw_below_drewN | apply below_drew1 | refine below_set ?_ GE111.out) | exact HB.out)))); (case aL => have := LMc17.out; omega); intro v118 w20 ho hb hg hat; rw [← Ny117.out] at ho; have n0_ := Aside0.mk (blk_grown (g := gb111) (o := .cells #[.string x112000_2, .int .i64 x4_1, .int .i64 x4_2] 35 (0, 0)) (by (with_reducible repeat (first | refine blk_drewN ?_ _ | refine blk_drew ?_ | refine blk_alloc ?_ _)); refine blk_put (cs := #[.string x112000_2, .int .i64 x4_1, .int .i64 0]) ?_ 2 _ rfl; (with_reducible repeat (first | refine blk_drewN ?_ _ | refine blk_drew ?_ | refine blk_alloc ?_ _)); exact BK111.out) hg (Kd.R_away HO_3.out (fun _ hk => hk))); have n1_ := Aside0.mk (hb); have n2_ := Aside0.mk (ho); clear BK111; clear HB; clear HO_3; have BK111 := n0_; have HB := n1_; have HO119 := n2_; clear n0_ n1_ n2_; clear ho hb hg hat))
                      go_roundg k2
                      case measure => have := HK1.out; have := HK2.out; omega
                      case rel => exact ⟨(y117), (x4_2), (by first | rfl | (simp; done) | (simp [*]; done)), H', ⟨by have := HK1.out; have := HK2.out; omega⟩, ⟨by (with_reducible repeat (first | apply Kd.R_alloc | apply Kd.R_drewN | apply Kd.R_drew)); exact Kd.R_mono HO119.out (fun _ hk => trivial)⟩, ⟨by repeat (first | (with_reducible first | exact HB.out | apply below_alloc | apply pw_below_drewN | apply below_drew1 | refine below_set ?_ GE111.out) | exact HB.out)⟩⟩
                    · rw [if_neg c17] at H
                      exact absurd H (by simp)
                  · rw [if_neg c16] at H
                    have c16b0 : decide (32 < (wrap64 ((x112000_2.size : Int) + t113))) = false := decide_eq_false c16
                    clear c16
                    by_cases c21 : x112000_2.size + t112.size ≤ 9223372036854775807
                    · rw [if_pos c21] at H
                      have c21b0 := eq_true c21
                      have c21b1 : decide (x112000_2.size + t112.size ≤ 9223372036854775807) = true := decide_eq_true c21
                      try have c21b2 : (9223372036854775807 < x112000_2.size + t112.size) = False := eq_false (Nat.not_lt.2 c21)
                      have H' := Aside0.mk H
                      clear H
                      go_wp2_with (first | ((with_reducible refine gate_callee (f := 29) rfl ?_); refine goesL_ (some 32) rfl rfl Tryd.func29 (by kernel_rfl) rfl #[.string a0, .int .i64 x4_2] rfl (by (try simp only [List.map_toArray, List.map_cons, List.map_nil]); first | done | rfl | (simp only [List.length_drop, List.length_take]; rfl)) ?_; (with_reducible refine (fascineref05_letter.calls k2 a0 x4_2 t112 t113 _ ?side1 A10.out).mono ?_); (case side1 => first | exact HT.out | exact tabs_below HT.out (by repeat (first | (with_reducible first | exact HB.out | apply below_alloc | apply pw_below_drewN | apply below_drew1 | refine below_set ?_ GE111.out) | exact HB.out))); rintro e w22 ⟨rfl, hb⟩; refine ⟨_, rfl, ?_⟩; have n0_ := Aside0.mk (Kd.R_below (by (with_reducible repeat (first | apply Kd.R_alloc | apply Kd.R_drewN | apply Kd.R_drew)); exact HO_3.out) hb); have n1_ := Aside0.mk (blk_below (g := gb111) (o := .cells #[.string x112000_2, .int .i64 x4_1, .int .i64 0] 35 (0, 0)) (by (with_reducible repeat (first | refine blk_drewN ?_ _ | refine blk_drew ?_ | refine blk_alloc ?_ _)); exact BK111.out) hb); have n2_ := Aside0.mk (below_step (by repeat (first | (with_reducible first | exact HB.out | apply below_alloc | apply pw_below_drewN | apply below_drew1 | refine below_set ?_ GE111.out) | exact HB.out)) hb); clear HO_3; clear BK111; clear HB; have HO_3 := n0_; have BK111 := n1_; have HB := n2_; clear n0_ n1_ n2_; (try clear hb); (try clear hb2); (try clear hk); (try clear hi); have hcz23_0 : w22.cell? ⟨gb111, 0, none⟩ = some (.string x112000_2) := (blk_cell BK111.out 0).trans rfl; have hcz23_1 : w22.cell? ⟨gb111, 1, none⟩ = some (.int .i64 x4_1) := (blk_cell BK111.out 1).trans rfl; have hcz23_2 : w22.cell? ⟨gb111, 2, none⟩ = some (.int .i64 0) := (blk_cell BK111.out 2).trans rfl; have hfz23_0 := blk_frozen BK111.out 0; have hfz23_1 := blk_frozen BK111.out 1; have hfz23_2 := blk_frozen BK111.out 2))
                      go_roundg k2
                      case measure => have := HK1.out; have := HK2.out; omega
                      case rel => exact ⟨(wrap64 (x4_2 + t113)), (x112000_2 ++ t112), (by first | rfl | (simp; done) | (simp [*]; done)), H', ⟨by have := HK1.out; have := HK2.out; omega⟩, ⟨by (with_reducible repeat (first | apply Kd.R_alloc | apply Kd.R_drewN | apply Kd.R_drew)); exact Kd.R_mono (Kd.R_far (p := ⟨gb111, 0, none⟩) (Kd.R_mono HO_3.out (fun k_ hk => (⟨hk, hk⟩ : _ ∧ k_ ≠ gb111))) (fun _ hk => hk.2) (.string (x112000_2 ++ t112))) (fun _ hk => hk.1)⟩, ⟨by (with_reducible repeat (first | refine blk_drewN ?_ _ | refine blk_drew ?_ | refine blk_alloc ?_ _)); refine blk_put (cs := #[.string x112000_2, .int .i64 x4_1, .int .i64 0]) ?_ 0 _ rfl; (with_reducible repeat (first | refine blk_drewN ?_ _ | refine blk_drew ?_ | refine blk_alloc ?_ _)); exact BK111.out⟩, ⟨by repeat (first | (with_reducible first | exact HB.out | apply below_alloc | apply pw_below_drewN | apply below_drew1 | refine below_set ?_ GE111.out) | exact HB.out)⟩⟩
                    · rw [if_neg c21] at H
                      exact absurd H (by simp)
              · rw [if_neg c9] at H
                have c9b0 : decide (x4_2 < (a0.size : Int)) = false := decide_eq_false c9
                clear c9
                by_cases c24 : x3_1.length < 4398046511104
                · rw [if_pos c24] at H
                  have LMc24 := Aside0.mk c24
                  clear c24
                  obtain ⟨y120, hy120⟩ : ∃ y_ : List (S35), y_ = (x3_1 ++ [(⟨x112000_2, x4_1, x4_2⟩ : S35)]) := ⟨_, rfl⟩
                  replace H : (fascineref05_Words.l0 k2 a0 y120 x4_2) = some r := by first | (rw [hy120]; with_reducible exact H) | (have H2_ := (Option.bind_some _ _).symm.trans H; rw [hy120]; with_reducible exact H2_) | (have H2_ := (Option.bind_some _ _).symm.trans H; with_reducible exact H2_) | with_reducible exact H | (rw [hy120]; exact H) | exact H
                  have Ny120 := Aside0.mk hy120
                  clear hy120
                  have H' := Aside0.mk H
                  clear H
                  have hcz25_0 : wr.cell? ⟨gb111, 0, none⟩ = some (.string x112000_2) := (blk_cell BK111.out 0).trans rfl
                  have hcz25_1 : wr.cell? ⟨gb111, 1, none⟩ = some (.int .i64 x4_1) := (blk_cell BK111.out 1).trans rfl
                  have hcz25_2 : wr.cell? ⟨gb111, 2, none⟩ = some (.int .i64 0) := (blk_cell BK111.out 2).trans rfl
                  have hfz25_0 := blk_frozen BK111.out 0
                  have hfz25_1 := blk_frozen BK111.out 1
                  have hfz25_2 := blk_frozen BK111.out 2
                  go_wp2_with (first | ((with_reducible refine gate_builtin (b := .append) (xs := #[.tmp 55, .tmp 57]) rfl ?_); (try (refine gate_guard (by rfl) ?_; dsimp only)); at_builtin; refine Kd.R_append k35 (w0 := w) w.heap.size rfl (.tmp 55) (.tmp 57) 28 35 (.agg #[(.string ⟨#[]⟩), (.int .i64 0), (.int .i64 0)]) 32 rfl Tryd.underlying28 info35 rfl (by decide) (by omega) u3 x3_1 (⟨x112000_2, x4_1, x4_2⟩ : S35) [.string x112000_2, .int .i64 x4_1, .int .i64 x4_2] (fun k_ => k_ ≠ gb111) (fun _ => False) rfl (by first | (go_simp; done) | (go_simp; rfl)) ?aP (fun _ hk => hk.elim) ?aF ?aO ?aB ?aS ?aL ?_; (case aP => exact k35_mkM _ _ _ (⟨x112000_2, x4_1, x4_2⟩ : S35)); (case aB => exact (by repeat (first | (with_reducible first | exact HB.out | apply below_alloc | apply pw_below_drewN | apply below_drew1 | refine below_set ?_ GE111.out) | exact HB.out))); (case aF => exact (fun k_ hk => Kd.freshB (g := gb111) (o := .cells #[.string x112000_2, .int .i64 x4_1, .int .i64 x4_2] 35 (0, 0)) (by (with_reducible repeat (first | refine blk_drewN ?_ _ | refine blk_drew ?_ | refine blk_alloc ?_ _)); refine blk_put (cs := #[.string x112000_2, .int .i64 x4_1, .int .i64 0]) ?_ 2 _ rfl; (with_reducible repeat (first | refine blk_drewN ?_ _ | refine blk_drew ?_ | refine blk_alloc ?_ _)); exact BK111.out) k_ hk)); (case aO => exact (by (with_reducible repeat (first | apply Kd.R_alloc | apply Kd.R_drewN | apply Kd.R_drew)); exact Kd.R_mono (Kd.R_far (p := ⟨gb111, 2, none⟩) (Kd.R_mono HO_3.out (fun k_ hk => (⟨hk, hk⟩ : _ ∧ k_ ≠ gb111))) (fun _ hk => hk.2) (.int .i64 x4_2)) (fun _ hk => hk.1))); (case aS => exact (below_size (by repeat (first | (with_reducible first | exact HB.out | apply below_alloc | apply pw_below_drewN | apply below_drew1 | refine below_set ?_ GE111.out) | exact HB.out)))); (case aL => have := LMc24.out; omega); intro v121 w26 ho hb hg hat; rw [← Ny120.out] at ho; have n0_ := Aside0.mk (blk_grown (g := gb111) (o := .cells #[.string x112000_2, .int .i64 x4_1, .int .i64 x4_2] 35 (0, 0)) (by (with_reducible repeat (first | refine blk_drewN ?_ _ | refine blk_drew ?_ | refine blk_alloc ?_ _)); refine blk_put (cs := #[.string x112000_2, .int .i64 x4_1, .int .i64 0]) ?_ 2 _ rfl; (with_reducible repeat (first | refine blk_drewN ?_ _ | refine blk_drew ?_ | refine blk_alloc ?_ _)); exact BK111.out) hg (Kd.R_away HO_3.out (fun _ hk => hk))); have n1_ := Aside0.mk (hb); have n2_ := Aside0.mk (ho); clear BK111; clear HB; clear HO_3; have BK111 := n0_; have HB := n1_; have HO122 := n2_; clear n0_ n1_ n2_; clear ho hb hg hat))
                  go_roundg k2
                  case measure => have := HK1.out; have := HK2.out; omega
                  case rel => exact ⟨(y120), (x4_2), (by first | rfl | (simp; done) | (simp [*]; done)), H', ⟨by have := HK1.out; have := HK2.out; omega⟩, ⟨by (with_reducible repeat (first | apply Kd.R_alloc | apply Kd.R_drewN | apply Kd.R_drew)); exact Kd.R_mono HO122.out (fun _ hk => trivial)⟩, ⟨by repeat (first | (with_reducible first | exact HB.out | apply below_alloc | apply pw_below_drewN | apply below_drew1 | refine below_set ?_ GE111.out) | exact HB.out)⟩⟩
                · rw [if_neg c24] at H
                  exact absurd H (by simp)
      · rw [if_neg c2] at H
        have c2b0 : decide (x4_1 < (a0.size : Int)) = false := decide_eq_false c2
        clear c2
        obtain rfl := Option.some.inj H
        go_wp2
        go_ret
        exact ⟨_, by first | rfl | (simp [errW_none, errW_some] <;> rfl) | (simp [*, errW_none, errW_some] <;> rfl), by (with_reducible repeat (first | apply Kd.R_alloc | apply Kd.R_drewN | apply Kd.R_drew)); exact HO_3.out, by repeat (first | (with_reducible first | exact HB.out | apply below_alloc | apply pw_below_drewN | apply below_drew1) | exact HB.out)⟩

/-! ### fascineref05_put: function 28 -/
def fascineref05_put.l0 : Nat → List ByteArray → ByteArray → Int → Option (List ByteArray)
  | 0, _, _, _ => none
  | k + 1, x0, x1, x6 => if x6 < (x0.length : Int) then (if 0 ≤ x6 then (if (Op.bytesLess ((rdOf ByteArray.empty x0 x6).toList) x1.toList) = true then (fascineref05_put.l0 k x0 x1 (wrap64 (x6 + 1))) else (if (rdOf ByteArray.empty x0 x6).toList = x1.toList then (some x0) else (if x6 ≤ (x0.length : Int) then ((some (x0.take (x6 : Int).toNat : List ByteArray)).bind fun y125 => (if ([] : List ByteArray).length + y125.length < 8796093022208 then ((some (([] : List ByteArray) ++ y125 : List ByteArray)).bind fun y130 => (if y130.length < 8796093022208 then ((some (y130 ++ [x1] : List ByteArray)).bind fun y133 => ((some (x0.drop (x6 : Int).toNat : List ByteArray)).bind fun y136 => (if y133.length + y136.length < 8796093022208 then (some (y133 ++ y136)) else (none)))) else (none))) else (none))) else (none)))) else (none)) else (if 0 ≤ x6 then (if x6 ≤ (x0.length : Int) then ((some (x0.take (x6 : Int).toNat : List ByteArray)).bind fun y144 => (if ([] : List ByteArray).length + y144.length < 8796093022208 then ((some (([] : List ByteArray) ++ y144 : List ByteArray)).bind fun y149 => (if y149.length < 8796093022208 then ((some (y149 ++ [x1] : List ByteArray)).bind fun y152 => ((some (x0.drop (x6 : Int).toNat : List ByteArray)).bind fun y155 => (if y152.length + y155.length < 8796093022208 then (some (y152 ++ y155)) else (none)))) else (none))) else (none))) else (none)) else (none))
def fascineref05_put.f (k : Nat) (l0 : List ByteArray) (a1 : ByteArray) : Option (List ByteArray) := fascineref05_put.l0 k l0 a1 0
theorem fascineref05_put.mono_l : ∀ k, (∀ y0 y1 y2, LeO (fascineref05_put.l0 k y0 y1 y2) (fascineref05_put.l0 (k + 1) y0 y1 y2))
  | 0 => fun _ _ _ r h => by simp [fascineref05_put.l0] at h
  | k + 1 => by
    have ih0 := fascineref05_put.mono_l k
    · intro y0 y1 y2
      unfold fascineref05_put.l0
      repeat' first
      | (with_reducible exact ih0 _ _ _)
      | (with_reducible exact LeO.refl _)
      | (with_reducible exact LeO.none _)
      | (with_reducible refine LeO.ite ?_ ?_)
      | (with_reducible refine LeO.bind ?_ (fun _ => ?_))
      | exact ih0 _ _ _
      | exact LeO.none _
      | refine LeO.ite ?_ ?_
      | refine LeO.bind ?_ (fun _ => ?_)
theorem fascineref05_put.mono : ∀ a0 a1 k, LeO (fascineref05_put.f k a0 a1) (fascineref05_put.f (k + 1) a0 a1) := by
  intro a0 a1 k
  have ih0 := fascineref05_put.mono_l k
  unfold fascineref05_put.f
  repeat' first
      | (with_reducible exact ih0 _ _ _)
      | (with_reducible exact LeO.refl _)
      | (with_reducible exact LeO.none _)
      | (with_reducible refine LeO.ite ?_ ?_)
      | (with_reducible refine LeO.bind ?_ (fun _ => ?_))
      | exact ih0 _ _ _
      | exact LeO.none _
      | refine LeO.ite ?_ ?_
      | refine LeO.bind ?_ (fun _ => ?_)
set_option maxHeartbeats 8000000 in
set_option maxRecDepth 100000 in
theorem fascineref05_put.calls (k : Nat) (P0_ : Nat → Prop) (A0 : Option Addr) (c0 : Nat) (l0 : List ByteArray) (a1 : ByteArray) (r : List ByteArray) (w : World) (hs0 : Kd.V Kd.string 9 w w.heap.size (fun k_ => P0_ k_) (.slice A0 l0.length c0) l0) (h : fascineref05_put.f k l0 a1 = some r) :
    Calls Tryd.prog 28 #[.slice A0 l0.length c0, .string a1] w fun e w' => ∃ v0_ : Value, e = .returned (v0_) ∧ Kd.V Kd.string 9 w' w.heap.size (fun k_ => (P0_ k_ ∨ w.heap.size ≤ k_)) v0_ r ∧ Below w.heap.size w w' := by
  have HO0 := Aside0.mk (show Kd.V Kd.string 9 w w.heap.size (fun k_ => (P0_ k_ ∨ w.heap.size ≤ k_)) (.slice A0 l0.length c0) l0 from Kd.V_mono hs0 (fun k_ hk => .inl hk))
  have HB := Aside0.mk (Below.refl w.heap.size w)
  have H : (fascineref05_put.l0 k l0 a1 0) = some r := h
  clear h
  have H' := Aside0.mk H
  clear H
  go_enter Tryd.func28, Tryd.ntmps28
  go_wp2
  go_loopg [6] k (fun kq v6 w' => ∃ (x6_1 : Int), v6 = .int .i64 x6_1 ∧ Aside0 (fascineref05_put.l0 kq l0 a1 x6_1 = some r) ∧ Aside0 (kq ≤ k) ∧ Aside0 (Kd.V Kd.string 9 w' w.heap.size (fun k_ => (P0_ k_ ∨ w.heap.size ≤ k_)) (.slice A0 l0.length c0) l0) ∧ Aside0 (Below w.heap.size w w'))
  case atStart => exact ⟨(0), (by first | rfl | (simp; done) | (simp [*]; done)), H', ⟨Nat.le_refl _⟩, ⟨by (with_reducible repeat (first | apply Kd.V_alloc | apply Kd.V_drewN | apply Kd.V_drew)); exact HO0.out⟩, ⟨by repeat (first | (with_reducible first | exact HB.out | apply below_alloc | apply pw_below_drewN | apply below_drew1) | exact HB.out)⟩⟩
  case round =>
    clear H'
    try clear c2
    try clear p2
    obtain ⟨x6_1, rfl, HA, HK1, HO_0, HB⟩ := hrel
    cases gk with
    | zero => exact absurd HA.out (by simp [fascineref05_put.l0])
    | succ k1 =>
      have H := HA.out
      clear HA
      simp only [fascineref05_put.l0] at H
      by_cases c3 : x6_1 < (l0.length : Int)
      · rw [if_pos c3] at H
        have c3b0 : decide (x6_1 < (l0.length : Int)) = true := decide_eq_true c3
        clear c3
        by_cases c4 : 0 ≤ x6_1
        · rw [if_pos c4] at H
          have c4b0 : decide (0 ≤ x6_1) = true := decide_eq_true c4
          clear c4
          by_cases c5 : (Op.bytesLess ((rdOf ByteArray.empty l0 x6_1).toList) a1.toList) = true
          · rw [if_pos c5] at H
            have c5b0 : (Op.bytesLess ((rdOf ByteArray.empty l0 x6_1).toList) a1.toList) = true := c5
            clear c5
            have H' := Aside0.mk H
            clear H
            have p123 : 0 ≤ (x6_1 : Int) := of_decide_eq_true (by first | (with_reducible assumption) | assumption)
            have q123 : x6_1 < (l0.length : Int) := of_decide_eq_true (by first | (with_reducible assumption) | assumption)
            obtain ⟨ad123, e123, hx123_0⟩ := Kd.at_string (Kd.V_reads' HO_0.out).2.2 x6_1 p123 q123
            cases e123
            replace p123 := eq_true p123
            replace q123 := eq_true q123
            go_wp2
            go_roundg k1
            case measure => have := HK1.out; omega
            case rel => exact ⟨(wrap64 (x6_1 + 1)), (by first | rfl | (simp; done) | (simp [*]; done)), H', ⟨by have := HK1.out; omega⟩, ⟨by (with_reducible repeat (first | apply Kd.V_alloc | apply Kd.V_drewN | apply Kd.V_drew)); exact HO_0.out⟩, ⟨by repeat (first | (with_reducible first | exact HB.out | apply below_alloc | apply pw_below_drewN | apply below_drew1) | exact HB.out)⟩⟩
          · rw [if_neg c5] at H
            have c5b0 : (Op.bytesLess ((rdOf ByteArray.empty l0 x6_1).toList) a1.toList) = false := (by first | exact Bool.eq_false_iff.mpr c5 | simpa using c5)
            clear c5
            by_cases c6 : (rdOf ByteArray.empty l0 x6_1).toList = a1.toList
            · rw [if_pos c6] at H
              have c6b0 : ((rdOf ByteArray.empty l0 x6_1).toList == a1.toList) = true := beq_iff_eq.mpr c6
              have c6b1 : ((rdOf ByteArray.empty l0 x6_1).toList != a1.toList) = false := bne_eq_false_iff_eq.mpr c6
              clear c6
              obtain rfl := Option.some.inj H
              have p123 : 0 ≤ (x6_1 : Int) := of_decide_eq_true (by first | (with_reducible assumption) | assumption)
              have q123 : x6_1 < (l0.length : Int) := of_decide_eq_true (by first | (with_reducible assumption) | assumption)
              obtain ⟨ad123, e123, hx123_0⟩ := Kd.at_string (Kd.V_reads' HO_0.out).2.2 x6_1 p123 q123
              cases e123
              replace p123 := eq_true p123
              replace q123 := eq_true q123
              have p124 : 0 ≤ (x6_1 : Int) := of_decide_eq_true (by first | (with_reducible assumption) | assumption)
              have q124 : x6_1 < (l0.length : Int) := of_decide_eq_true (by first | (with_reducible assumption) | assumption)
              obtain ⟨ad124, e124, hx124_0⟩ := Kd.at_string (Kd.V_reads' HO_0.out).2.2 x6_1 p124 q124
              obtain rfl : ad123 = ad124 := (by injection e124)
              replace p124 := eq_true p124
              replace q124 := eq_true q124
              go_wp2
              go_ret
              exact ⟨_, by first | rfl | (simp [errW_none, errW_some] <;> rfl) | (simp [*, errW_none, errW_some] <;> rfl), by (with_reducible repeat (first | apply Kd.V_alloc | apply Kd.V_drewN | apply Kd.V_drew)); exact HO_0.out, by repeat (first | (with_reducible first | exact HB.out | apply below_alloc | apply pw_below_drewN | apply below_drew1) | exact HB.out)⟩
            · rw [if_neg c6] at H
              have c6b0 : ((rdOf ByteArray.empty l0 x6_1).toList == a1.toList) = false := beq_eq_false_iff_ne.mpr c6
              have c6b1 : ((rdOf ByteArray.empty l0 x6_1).toList != a1.toList) = true := bne_iff_ne.mpr c6
              have c7b0 := eq_true (of_decide_eq_true (by first | (with_reducible assumption) | assumption) : 0 ≤ x6_1)
              by_cases c8 : x6_1 ≤ (l0.length : Int)
              · rw [if_pos c8] at H
                have c8b0 := eq_true c8
                have c8b1 : decide (x6_1 ≤ (l0.length : Int)) = true := decide_eq_true c8
                clear c8
                obtain ⟨y125, hy125⟩ : ∃ y_ : List ByteArray, y_ = (l0.take (x6_1 : Int).toNat) := ⟨_, rfl⟩
                replace H : (if ([] : List ByteArray).length + y125.length < 8796093022208 then ((some (([] : List ByteArray) ++ y125 : List ByteArray)).bind fun y130 => (if y130.length < 8796093022208 then ((some (y130 ++ [a1] : List ByteArray)).bind fun y133 => ((some (l0.drop (x6_1 : Int).toNat : List ByteArray)).bind fun y136 => (if y133.length + y136.length < 8796093022208 then (some (y133 ++ y136)) else (none)))) else (none))) else (none)) = some r := by first | (rw [hy125]; with_reducible exact H) | (have H2_ := (Option.bind_some _ _).symm.trans H; rw [hy125]; with_reducible exact H2_) | (have H2_ := (Option.bind_some _ _).symm.trans H; with_reducible exact H2_) | with_reducible exact H | (rw [hy125]; exact H) | exact H
                have Ny125 := Aside0.mk hy125
                clear hy125
                by_cases c9 : ([] : List ByteArray).length + y125.length < 8796093022208
                · rw [if_pos c9] at H
                  have LMc9 := Aside0.mk c9
                  clear c9
                  obtain ⟨y130, hy130⟩ : ∃ y_ : List ByteArray, y_ = (([] : List ByteArray) ++ y125) := ⟨_, rfl⟩
                  replace H : (if y130.length < 8796093022208 then ((some (y130 ++ [a1] : List ByteArray)).bind fun y133 => ((some (l0.drop (x6_1 : Int).toNat : List ByteArray)).bind fun y136 => (if y133.length + y136.length < 8796093022208 then (some (y133 ++ y136)) else (none)))) else (none)) = some r := by first | (rw [hy130]; with_reducible exact H) | (have H2_ := (Option.bind_some _ _).symm.trans H; rw [hy130]; with_reducible exact H2_) | (have H2_ := (Option.bind_some _ _).symm.trans H; with_reducible exact H2_) | with_reducible exact H | (rw [hy130]; exact H) | exact H
                  have Ny130 := Aside0.mk hy130
                  clear hy130
                  by_cases c10 : y130.length < 8796093022208
                  · rw [if_pos c10] at H
                    have LMc10 := Aside0.mk c10
                    clear c10
                    obtain ⟨y133, hy133⟩ : ∃ y_ : List ByteArray, y_ = (y130 ++ [a1]) := ⟨_, rfl⟩
                    replace H : ((some (l0.drop (x6_1 : Int).toNat : List ByteArray)).bind fun y136 => (if y133.length + y136.length < 8796093022208 then (some (y133 ++ y136)) else (none))) = some r := by first | (rw [hy133]; with_reducible exact H) | (have H2_ := (Option.bind_some _ _).symm.trans H; rw [hy133]; with_reducible exact H2_) | (have H2_ := (Option.bind_some _ _).symm.trans H; with_reducible exact H2_) | with_reducible exact H | (rw [hy133]; exact H) | exact H
                    have Ny133 := Aside0.mk hy133
                    clear hy133
                    have c11b0 := eq_true (of_decide_eq_true (by first | (with_reducible assumption) | assumption) : 0 ≤ x6_1)
                    have c12b0 := eq_true (of_decide_eq_true (by first | (with_reducible assumption) | assumption) : x6_1 ≤ (l0.length : Int))
                    obtain ⟨y136, hy136⟩ : ∃ y_ : List ByteArray, y_ = (l0.drop (x6_1 : Int).toNat) := ⟨_, rfl⟩
                    replace H : (if y133.length + y136.length < 8796093022208 then (some (y133 ++ y136)) else (none)) = some r := by first | (rw [hy136]; with_reducible exact H) | (have H2_ := (Option.bind_some _ _).symm.trans H; rw [hy136]; with_reducible exact H2_) | (have H2_ := (Option.bind_some _ _).symm.trans H; with_reducible exact H2_) | with_reducible exact H | (rw [hy136]; exact H) | exact H
                    have Ny136 := Aside0.mk hy136
                    clear hy136
                    by_cases c13 : y133.length + y136.length < 8796093022208
                    · rw [if_pos c13] at H
                      have LMc13 := Aside0.mk c13
                      clear c13
                      obtain ⟨y141, hy141⟩ : ∃ y_ : List ByteArray, y_ = (y133 ++ y136) := ⟨_, rfl⟩
                      replace H : (some y141) = some r := by first | (rw [hy141]; with_reducible exact H) | (have H2_ := (Option.bind_some _ _).symm.trans H; rw [hy141]; with_reducible exact H2_) | (have H2_ := (Option.bind_some _ _).symm.trans H; with_reducible exact H2_) | with_reducible exact H | (rw [hy141]; exact H) | exact H
                      have Ny141 := Aside0.mk hy141
                      clear hy141
                      obtain rfl := Option.some.inj H
                      have p123 : 0 ≤ (x6_1 : Int) := of_decide_eq_true (by first | (with_reducible assumption) | assumption)
                      have q123 : x6_1 < (l0.length : Int) := of_decide_eq_true (by first | (with_reducible assumption) | assumption)
                      obtain ⟨ad123, e123, hx123_0⟩ := Kd.at_string (Kd.V_reads' HO_0.out).2.2 x6_1 p123 q123
                      cases e123
                      replace p123 := eq_true p123
                      replace q123 := eq_true q123
                      have p124 : 0 ≤ (x6_1 : Int) := of_decide_eq_true (by first | (with_reducible assumption) | assumption)
                      have q124 : x6_1 < (l0.length : Int) := of_decide_eq_true (by first | (with_reducible assumption) | assumption)
                      obtain ⟨ad124, e124, hx124_0⟩ := Kd.at_string (Kd.V_reads' HO_0.out).2.2 x6_1 p124 q124
                      obtain rfl : ad123 = ad124 := (by injection e124)
                      replace p124 := eq_true p124
                      replace q124 := eq_true q124
                      have q14 : (x6_1 : Int) ≤ ((l0.length : Int) : Int) := of_decide_eq_true (by first | (with_reducible assumption) | assumption)
                      obtain ⟨i014, hi014, _, hsz14, _⟩ := info_parts info9
                      have hroom14 : l0.length ≤ c0 := (Kd.V_reads' HO_0.out).2.1
                      have hC14 : Kd.F Kd.string _ _ (some ad123) l0.length l0 := (Kd.V_at (base := w.heap.size) HO_0.out).2.2
                      have hcut14 := cut_to (P := Tryd.prog) 23 9 .i64 Tryd.underlying23 hi014 (some ad123) l0.length c0 x6_1 (of_decide_eq_true (by first | (with_reducible assumption) | assumption)) q14 hroom14
                      have hr14 := Kd.F_take (m := (x6_1 : Int).toNat) hC14 (by omega)
                      have hy14 : y125.length = (x6_1 : Int).toNat := (by rw [Ny125.out, List.length_take]; omega)
                      rw [← Ny125.out] at hr14
                      rw [← hy14] at hcut14
                      have HO129 := Aside0.mk (show Kd.V Kd.string 9 _ w.heap.size _ (.slice (some ad123) y125.length c0) y125 from Kd.V_mk (by omega) hr14)
                      have HC129 := Aside0.mk (show y125.length ≤ c0 from by omega)
                      clear hr14 hC14 hroom14 hi014 hsz14
                      have KY14 := Aside0.mk hy14
                      clear hy14
                      replace q14 := eq_true q14
                      go_wp2_with (first | ((with_reducible refine gate_builtin (b := .append) (xs := #[.tmp 34, .tmp 37]) rfl ?_); at_builtin; refine Kd.R_append_rows Kd.string (w0 := w) w.heap.size rfl (.tmp 34) (.tmp 37) 23 9 (.string ⟨#[]⟩) 16 rfl Tryd.underlying23 info9 rfl (by decide) (by omega) (.slice none 0 0) ([] : List ByteArray) y125 _ _ _ (fun k_ => (w.heap.size ≤ k_)) (fun _ => False) rfl rfl ?aO ?aR (fun _ _ h => h) (fun _ h => h.elim) ?aF ?aB ?aS ?aL ?_; (case aR => repeat (first | exact (Kd.V_reads' HO129.out).2.2 | (with_reducible refine Kd.C_alloc ?_ _) | (with_reducible refine Kd.C_drewN ?_ _) | (with_reducible refine Kd.C_drew ?_))); (case aB => exact (by repeat (first | (with_reducible first | exact HB.out | apply below_alloc | apply pw_below_drewN | apply below_drew1) | exact HB.out))); (case aF => exact (fun k_ hk => (Nat.le_trans (below_size (by repeat (first | (with_reducible first | exact HB.out | apply below_alloc | apply pw_below_drewN | apply below_drew1) | exact HB.out))) hk))); (case aO => exact ((Kd.R_nil _ _ _ _ (fun k_ => (w.heap.size ≤ k_))))); (case aS => exact (below_size (by repeat (first | (with_reducible first | exact HB.out | apply below_alloc | apply pw_below_drewN | apply below_drew1) | exact HB.out)))); (case aL => have := LMc9.out; omega); intro v131 w15 ho hb hg hat; rw [← Ny130.out] at ho; have n0_ := Aside0.mk (Kd.V_afterv (Kd.V_apart_nil (by (with_reducible repeat (first | apply Kd.V_alloc | apply Kd.V_drewN | apply Kd.V_drew)); exact HO_0.out)) hg hat); have n1_ := Aside0.mk (Kd.V_afterv (Kd.V_apart_nil (by (with_reducible repeat (first | apply Kd.V_alloc | apply Kd.V_drewN | apply Kd.V_drew)); exact HO129.out)) hg hat); have n2_ := Aside0.mk (hb); have n3_ := Aside0.mk (ho); clear HO_0; clear HO129; clear HB; have HO_0 := n0_; have HO129 := n1_; have HB := n2_; have HO132 := n3_; clear n0_ n1_ n2_ n3_; clear ho hb hg hat) | ((with_reducible refine gate_builtin (b := .append) (xs := #[.tmp 39, .tmp 41]) rfl ?_); at_builtin; refine Kd.R_append Kd.string (w0 := w) w.heap.size rfl (.tmp 39) (.tmp 41) 23 9 (.string ⟨#[]⟩) 16 rfl Tryd.underlying23 info9 rfl (by decide) (by omega) v131 y130 a1 [.string a1] (fun k_ => (w.heap.size ≤ k_)) (fun _ => False) rfl rfl ?aP (fun _ hk => hk.elim) ?aF ?aO ?aB ?aS ?aL ?_; (case aP => exact rfl); (case aB => exact (by repeat (first | (with_reducible first | exact HB.out | apply below_alloc | apply pw_below_drewN | apply below_drew1) | exact HB.out))); (case aF => exact (fun k_ hk => (Nat.le_trans (below_size (by repeat (first | (with_reducible first | exact HB.out | apply below_alloc | apply pw_below_drewN | apply below_drew1) | exact HB.out))) hk))); (case aO => exact (by (with_reducible repeat (first | apply Kd.R_alloc | apply Kd.R_drewN | apply Kd.R_drew)); exact HO132.out)); (case aS => exact (below_size (by repeat (first | (with_reducible first | exact HB.out | apply below_alloc | apply pw_below_drewN | apply below_drew1) | exact HB.out)))); (case aL => have := LMc10.out; omega); intro v134 w16 ho hb hg hat; rw [← Ny133.out] at ho; have n0_ := Aside0.mk (Kd.V_afterv (ok := (fun k_ => (P0_ k_ ∨ w.heap.size ≤ k_))) (by (with_reducible repeat (first | apply Kd.V_alloc | apply Kd.V_drewN | apply Kd.V_drew)); exact HO_0.out) hg hat); have n1_ := Aside0.mk (Kd.V_afterv (ok := (fun k_ => (P0_ k_ ∨ w.heap.size ≤ k_))) (by (with_reducible repeat (first | apply Kd.V_alloc | apply Kd.V_drewN | apply Kd.V_drew)); exact HO129.out) hg hat); have n2_ := Aside0.mk (hb); have n3_ := Aside0.mk (ho); clear HO_0; clear HO129; clear HB; clear HO132; have HO_0 := n0_; have HO129 := n1_; have HB := n2_; have HO135 := n3_; clear n0_ n1_ n2_ n3_; clear ho hb hg hat; have q17 : (x6_1 : Int) ≤ ((l0.length : Int) : Int) := of_decide_eq_true (by first | (with_reducible assumption) | assumption); obtain ⟨i017, hi017, _, hsz17, _⟩ := info_parts info9; have hroom17 : l0.length ≤ c0 := (Kd.V_reads' HO_0.out).2.1; have hC17 : Kd.F Kd.string _ _ (some ad123) l0.length l0 := (Kd.V_at (base := w.heap.size) HO_0.out).2.2; have q017 : (0 : Int) ≤ (x6_1 : Int) := of_decide_eq_true (by first | (with_reducible assumption) | assumption); have hcut17 := cut_from (P := Tryd.prog) 23 9 .i64 Tryd.underlying23 hi017 1 hsz17 (some ad123) l0.length c0 x6_1 q017 q17; have hr17 := Kd.F_cut (m := (x6_1 : Int).toNat) (c := c0) hC17 (by omega) hroom17; obtain ⟨A17, hA17⟩ : ∃ A1, A1 = (if c0 = (x6_1 : Int).toNat then (some ad123) else ((some ad123) : Option Addr).map (·.add ((x6_1 : Int).toNat * 1))) := ⟨_, rfl⟩; obtain ⟨c17, hc17⟩ : ∃ c1, c1 = c0 - (x6_1 : Int).toNat := ⟨_, rfl⟩; have hy17 : y136.length = l0.length - (x6_1 : Int).toNat := (by rw [Ny136.out, List.length_drop] <;> omega); rw [show (l0).drop (x6_1 : Int).toNat = y136 from Ny136.out.symm] at hr17; replace hr17 : Kd.F Kd.string _ _ A17 y136.length y136 := (by rw [hA17]; exact hr17); rw [← hy17, ← hA17, ← hc17] at hcut17; have HO140 := Aside0.mk (show Kd.V Kd.string 9 _ w.heap.size _ (.slice A17 y136.length c17) y136 from Kd.V_mk (by rw [hy17, hc17]; exact Nat.sub_le_sub_right hroom17 _) hr17); have HC140 := Aside0.mk (show y136.length ≤ c17 from by rw [hy17, hc17]; exact Nat.sub_le_sub_right hroom17 _); clear hr17 hC17 hroom17 hi017 hsz17 hc17; have KY17 := Aside0.mk hy17; have KA17 := Aside0.mk hA17; clear hy17 hA17; replace q17 := eq_true q17) | ((with_reducible refine gate_builtin (b := .append) (xs := #[.tmp 43, .tmp 46]) rfl ?_); at_builtin; refine Kd.R_append_rows Kd.string (w0 := w) w.heap.size rfl (.tmp 43) (.tmp 46) 23 9 (.string ⟨#[]⟩) 16 rfl Tryd.underlying23 info9 rfl (by decide) (by omega) v134 y133 y136 _ _ _ (fun k_ => (w.heap.size ≤ k_)) (fun _ => False) rfl rfl ?aO ?aR (fun _ _ h => h) (fun _ h => h.elim) ?aF ?aB ?aS ?aL ?_; (case aR => repeat (first | exact (Kd.V_reads' HO140.out).2.2 | (with_reducible refine Kd.C_alloc ?_ _) | (with_reducible refine Kd.C_drewN ?_ _) | (with_reducible refine Kd.C_drew ?_))); (case aB => exact (by repeat (first | (with_reducible first | exact HB.out | apply below_alloc | apply pw_below_drewN | apply below_drew1) | exact HB.out))); (case aF => exact (fun k_ hk => (Nat.le_trans (below_size (by repeat (first | (with_reducible first | exact HB.out | apply below_alloc | apply pw_below_drewN | apply below_drew1) | exact HB.out))) hk))); (case aO => exact (by (with_reducible repeat (first | apply Kd.R_alloc | apply Kd.R_drewN | apply Kd.R_drew)); exact HO135.out)); (case aS => exact (below_size (by repeat (first | (with_reducible first | exact HB.out | apply below_alloc | apply pw_below_drewN | apply below_drew1) | exact HB.out)))); (case aL => have := LMc13.out; omega); intro v142 w18 ho hb hg hat; rw [← Ny141.out] at ho; have n0_ := Aside0.mk (Kd.V_afterv (ok := (fun k_ => (P0_ k_ ∨ w.heap.size ≤ k_))) (by (with_reducible repeat (first | apply Kd.V_alloc | apply Kd.V_drewN | apply Kd.V_drew)); exact HO_0.out) hg hat); have n1_ := Aside0.mk (Kd.V_afterv (ok := (fun k_ => (P0_ k_ ∨ w.heap.size ≤ k_))) (by (with_reducible repeat (first | apply Kd.V_alloc | apply Kd.V_drewN | apply Kd.V_drew)); exact HO129.out) hg hat); have n2_ := Aside0.mk (Kd.V_afterv (ok := (fun k_ => (P0_ k_ ∨ w.heap.size ≤ k_))) (by (with_reducible repeat (first | apply Kd.V_alloc | apply Kd.V_drewN | apply Kd.V_drew)); exact HO140.out) hg hat); have n3_ := Aside0.mk (hb); have n4_ := Aside0.mk (ho); clear HO_0; clear HO129; clear HO140; clear HB; clear HO135; have HO_0 := n0_; have HO129 := n1_; have HO140 := n2_; have HB := n3_; have HO143 := n4_; clear n0_ n1_ n2_ n3_ n4_; clear ho hb hg hat))
                      go_ret
                      exact ⟨_, by first | rfl | (simp [errW_none, errW_some] <;> rfl) | (simp [*, errW_none, errW_some] <;> rfl), Kd.V_mono (Kd.R_V (by (with_reducible repeat (first | apply Kd.R_alloc | apply Kd.R_drewN | apply Kd.R_drew)); exact HO143.out)) (fun k_ hk => by first | exact ⟨(.inr (hk.1)), hk.2⟩ | exact (.inr (hk))), by repeat (first | (with_reducible first | exact HB.out | apply below_alloc | apply pw_below_drewN | apply below_drew1) | exact HB.out)⟩
                    · rw [if_neg c13] at H
                      exact absurd H (by simp)
                  · rw [if_neg c10] at H
                    exact absurd H (by simp)
                · rw [if_neg c9] at H
                  exact absurd H (by simp)
              · rw [if_neg c8] at H
                exact absurd H (by simp)
        · rw [if_neg c4] at H
          exact absurd H (by simp)
      · rw [if_neg c3] at H
        have c3b0 : decide (x6_1 < (l0.length : Int)) = false := decide_eq_false c3
        clear c3
        by_cases c19 : 0 ≤ x6_1
        · rw [if_pos c19] at H
          have c19b0 := eq_true c19
          have c19b1 : decide (0 ≤ x6_1) = true := decide_eq_true c19
          clear c19
          by_cases c20 : x6_1 ≤ (l0.length : Int)
          · rw [if_pos c20] at H
            have c20b0 := eq_true c20
            have c20b1 : decide (x6_1 ≤ (l0.length : Int)) = true := decide_eq_true c20
            clear c20
            obtain ⟨y144, hy144⟩ : ∃ y_ : List ByteArray, y_ = (l0.take (x6_1 : Int).toNat) := ⟨_, rfl⟩
            replace H : (if ([] : List ByteArray).length + y144.length < 8796093022208 then ((some (([] : List ByteArray) ++ y144 : List ByteArray)).bind fun y149 => (if y149.length < 8796093022208 then ((some (y149 ++ [a1] : List ByteArray)).bind fun y152 => ((some (l0.drop (x6_1 : Int).toNat : List ByteArray)).bind fun y155 => (if y152.length + y155.length < 8796093022208 then (some (y152 ++ y155)) else (none)))) else (none))) else (none)) = some r := by first | (rw [hy144]; with_reducible exact H) | (have H2_ := (Option.bind_some _ _).symm.trans H; rw [hy144]; with_reducible exact H2_) | (have H2_ := (Option.bind_some _ _).symm.trans H; with_reducible exact H2_) | with_reducible exact H | (rw [hy144]; exact H) | exact H
            have Ny144 := Aside0.mk hy144
            clear hy144
            by_cases c21 : ([] : List ByteArray).length + y144.length < 8796093022208
            · rw [if_pos c21] at H
              have LMc21 := Aside0.mk c21
              clear c21
              obtain ⟨y149, hy149⟩ : ∃ y_ : List ByteArray, y_ = (([] : List ByteArray) ++ y144) := ⟨_, rfl⟩
              replace H : (if y149.length < 8796093022208 then ((some (y149 ++ [a1] : List ByteArray)).bind fun y152 => ((some (l0.drop (x6_1 : Int).toNat : List ByteArray)).bind fun y155 => (if y152.length + y155.length < 8796093022208 then (some (y152 ++ y155)) else (none)))) else (none)) = some r := by first | (rw [hy149]; with_reducible exact H) | (have H2_ := (Option.bind_some _ _).symm.trans H; rw [hy149]; with_reducible exact H2_) | (have H2_ := (Option.bind_some _ _).symm.trans H; with_reducible exact H2_) | with_reducible exact H | (rw [hy149]; exact H) | exact H
              have Ny149 := Aside0.mk hy149
              clear hy149
              by_cases c22 : y149.length < 8796093022208
              · rw [if_pos c22] at H
                have LMc22 := Aside0.mk c22
                clear c22
                obtain ⟨y152, hy152⟩ : ∃ y_ : List ByteArray, y_ = (y149 ++ [a1]) := ⟨_, rfl⟩
                replace H : ((some (l0.drop (x6_1 : Int).toNat : List ByteArray)).bind fun y155 => (if y152.length + y155.length < 8796093022208 then (some (y152 ++ y155)) else (none))) = some r := by first | (rw [hy152]; with_reducible exact H) | (have H2_ := (Option.bind_some _ _).symm.trans H; rw [hy152]; with_reducible exact H2_) | (have H2_ := (Option.bind_some _ _).symm.trans H; with_reducible exact H2_) | with_reducible exact H | (rw [hy152]; exact H) | exact H
                have Ny152 := Aside0.mk hy152
                clear hy152
                have c23b0 := eq_true (of_decide_eq_true (by first | (with_reducible assumption) | assumption) : 0 ≤ x6_1)
                have c24b0 := eq_true (of_decide_eq_true (by first | (with_reducible assumption) | assumption) : x6_1 ≤ (l0.length : Int))
                obtain ⟨y155, hy155⟩ : ∃ y_ : List ByteArray, y_ = (l0.drop (x6_1 : Int).toNat) := ⟨_, rfl⟩
                replace H : (if y152.length + y155.length < 8796093022208 then (some (y152 ++ y155)) else (none)) = some r := by first | (rw [hy155]; with_reducible exact H) | (have H2_ := (Option.bind_some _ _).symm.trans H; rw [hy155]; with_reducible exact H2_) | (have H2_ := (Option.bind_some _ _).symm.trans H; with_reducible exact H2_) | with_reducible exact H | (rw [hy155]; exact H) | exact H
                have Ny155 := Aside0.mk hy155
                clear hy155
                by_cases c25 : y152.length + y155.length < 8796093022208
                · rw [if_pos c25] at H
                  have LMc25 := Aside0.mk c25
                  clear c25
                  obtain ⟨y160, hy160⟩ : ∃ y_ : List ByteArray, y_ = (y152 ++ y155) := ⟨_, rfl⟩
                  replace H : (some y160) = some r := by first | (rw [hy160]; with_reducible exact H) | (have H2_ := (Option.bind_some _ _).symm.trans H; rw [hy160]; with_reducible exact H2_) | (have H2_ := (Option.bind_some _ _).symm.trans H; with_reducible exact H2_) | with_reducible exact H | (rw [hy160]; exact H) | exact H
                  have Ny160 := Aside0.mk hy160
                  clear hy160
                  obtain rfl := Option.some.inj H
                  have q26 : (x6_1 : Int) ≤ ((l0.length : Int) : Int) := of_decide_eq_true (by first | (with_reducible assumption) | assumption)
                  obtain ⟨i026, hi026, _, hsz26, _⟩ := info_parts info9
                  have hroom26 : l0.length ≤ c0 := (Kd.V_reads' HO_0.out).2.1
                  have hC26 : Kd.F Kd.string _ _ A0 l0.length l0 := (Kd.V_at (base := w.heap.size) HO_0.out).2.2
                  have hcut26 := cut_to (P := Tryd.prog) 23 9 .i64 Tryd.underlying23 hi026 A0 l0.length c0 x6_1 (of_decide_eq_true (by first | (with_reducible assumption) | assumption)) q26 hroom26
                  have hr26 := Kd.F_take (m := (x6_1 : Int).toNat) hC26 (by omega)
                  have hy26 : y144.length = (x6_1 : Int).toNat := (by rw [Ny144.out, List.length_take]; omega)
                  rw [← Ny144.out] at hr26
                  rw [← hy26] at hcut26
                  have HO148 := Aside0.mk (show Kd.V Kd.string 9 _ w.heap.size _ (.slice A0 y144.length c0) y144 from Kd.V_mk (by omega) hr26)
                  have HC148 := Aside0.mk (show y144.length ≤ c0 from by omega)
                  clear hr26 hC26 hroom26 hi026 hsz26
                  have KY26 := Aside0.mk hy26
                  clear hy26
                  replace q26 := eq_true q26
                  go_wp2_with (first | ((with_reducible refine gate_builtin (b := .append) (xs := #[.tmp 34, .tmp 37]) rfl ?_); at_builtin; refine Kd.R_append_rows Kd.string (w0 := w) w.heap.size rfl (.tmp 34) (.tmp 37) 23 9 (.string ⟨#[]⟩) 16 rfl Tryd.underlying23 info9 rfl (by decide) (by omega) (.slice none 0 0) ([] : List ByteArray) y144 _ _ _ (fun k_ => (w.heap.size ≤ k_)) (fun _ => False) rfl rfl ?aO ?aR (fun _ _ h => h) (fun _ h => h.elim) ?aF ?aB ?aS ?aL ?_; (case aR => repeat (first | exact (Kd.V_reads' HO148.out).2.2 | (with_reducible refine Kd.C_alloc ?_ _) | (with_reducible refine Kd.C_drewN ?_ _) | (with_reducible refine Kd.C_drew ?_))); (case aB => exact (by repeat (first | (with_reducible first | exact HB.out | apply below_alloc | apply pw_below_drewN | apply below_drew1) | exact HB.out))); (case aF => exact (fun k_ hk => (Nat.le_trans (below_size (by repeat (first | (with_reducible first | exact HB.out | apply below_alloc | apply pw_below_drewN | apply below_drew1) | exact HB.out))) hk))); (case aO => exact ((Kd.R_nil _ _ _ _ (fun k_ => (w.heap.size ≤ k_))))); (case aS => exact (below_size (by repeat (first | (with_reducible first | exact HB.out | apply below_alloc | apply pw_below_drewN | apply below_drew1) | exact HB.out)))); (case aL => have := LMc21.out; omega); intro v150 w27 ho hb hg hat; rw [← Ny149.out] at ho; have n0_ := Aside0.mk (Kd.V_afterv (Kd.V_apart_nil (by (with_reducible repeat (first | apply Kd.V_alloc | apply Kd.V_drewN | apply Kd.V_drew)); exact HO_0.out)) hg hat); have n1_ := Aside0.mk (Kd.V_afterv (Kd.V_apart_nil (by (with_reducible repeat (first | apply Kd.V_alloc | apply Kd.V_drewN | apply Kd.V_drew)); exact HO148.out)) hg hat); have n2_ := Aside0.mk (hb); have n3_ := Aside0.mk (ho); clear HO_0; clear HO148; clear HB; have HO_0 := n0_; have HO148 := n1_; have HB := n2_; have HO151 := n3_; clear n0_ n1_ n2_ n3_; clear ho hb hg hat) | ((with_reducible refine gate_builtin (b := .append) (xs := #[.tmp 39, .tmp 41]) rfl ?_); at_builtin; refine Kd.R_append Kd.string (w0 := w) w.heap.size rfl (.tmp 39) (.tmp 41) 23 9 (.string ⟨#[]⟩) 16 rfl Tryd.underlying23 info9 rfl (by decide) (by omega) v150 y149 a1 [.string a1] (fun k_ => (w.heap.size ≤ k_)) (fun _ => False) rfl rfl ?aP (fun _ hk => hk.elim) ?aF ?aO ?aB ?aS ?aL ?_; (case aP => exact rfl); (case aB => exact (by repeat (first | (with_reducible first | exact HB.out | apply below_alloc | apply pw_below_drewN | apply below_drew1) | exact HB.out))); (case aF => exact (fun k_ hk => (Nat.le_trans (below_size (by repeat (first | (with_reducible first | exact HB.out | apply below_alloc | apply pw_below_drewN | apply below_drew1) | exact HB.out))) hk))); (case aO => exact (by (with_reducible repeat (first | apply Kd.R_alloc | apply Kd.R_drewN | apply Kd.R_drew)); exact HO151.out)); (case aS => exact (below_size (by repeat (first | (with_reducible first | exact HB.out | apply below_alloc | apply pw_below_drewN | apply below_drew1) | exact HB.out)))); (case aL => have := LMc22.out; omega); intro v153 w28 ho hb hg hat; rw [← Ny152.out] at ho; have n0_ := Aside0.mk (Kd.V_afterv (ok := (fun k_ => (P0_ k_ ∨ w.heap.size ≤ k_))) (by (with_reducible repeat (first | apply Kd.V_alloc | apply Kd.V_drewN | apply Kd.V_drew)); exact HO_0.out) hg hat); have n1_ := Aside0.mk (Kd.V_afterv (ok := (fun k_ => (P0_ k_ ∨ w.heap.size ≤ k_))) (by (with_reducible repeat (first | apply Kd.V_alloc | apply Kd.V_drewN | apply Kd.V_drew)); exact HO148.out) hg hat); have n2_ := Aside0.mk (hb); have n3_ := Aside0.mk (ho); clear HO_0; clear HO148; clear HB; clear HO151; have HO_0 := n0_; have HO148 := n1_; have HB := n2_; have HO154 := n3_; clear n0_ n1_ n2_ n3_; clear ho hb hg hat; have q29 : (x6_1 : Int) ≤ ((l0.length : Int) : Int) := of_decide_eq_true (by first | (with_reducible assumption) | assumption); obtain ⟨i029, hi029, _, hsz29, _⟩ := info_parts info9; have hroom29 : l0.length ≤ c0 := (Kd.V_reads' HO_0.out).2.1; have hC29 : Kd.F Kd.string _ _ A0 l0.length l0 := (Kd.V_at (base := w.heap.size) HO_0.out).2.2; have q029 : (0 : Int) ≤ (x6_1 : Int) := of_decide_eq_true (by first | (with_reducible assumption) | assumption); have hcut29 := cut_from (P := Tryd.prog) 23 9 .i64 Tryd.underlying23 hi029 1 hsz29 A0 l0.length c0 x6_1 q029 q29; have hr29 := Kd.F_cut (m := (x6_1 : Int).toNat) (c := c0) hC29 (by omega) hroom29; obtain ⟨A29, hA29⟩ : ∃ A1, A1 = (if c0 = (x6_1 : Int).toNat then A0 else (A0 : Option Addr).map (·.add ((x6_1 : Int).toNat * 1))) := ⟨_, rfl⟩; obtain ⟨c29, hc29⟩ : ∃ c1, c1 = c0 - (x6_1 : Int).toNat := ⟨_, rfl⟩; have hy29 : y155.length = l0.length - (x6_1 : Int).toNat := (by rw [Ny155.out, List.length_drop] <;> omega); rw [show (l0).drop (x6_1 : Int).toNat = y155 from Ny155.out.symm] at hr29; replace hr29 : Kd.F Kd.string _ _ A29 y155.length y155 := (by rw [hA29]; exact hr29); rw [← hy29, ← hA29, ← hc29] at hcut29; have HO159 := Aside0.mk (show Kd.V Kd.string 9 _ w.heap.size _ (.slice A29 y155.length c29) y155 from Kd.V_mk (by rw [hy29, hc29]; exact Nat.sub_le_sub_right hroom29 _) hr29); have HC159 := Aside0.mk (show y155.length ≤ c29 from by rw [hy29, hc29]; exact Nat.sub_le_sub_right hroom29 _); clear hr29 hC29 hroom29 hi029 hsz29 hc29; have KY29 := Aside0.mk hy29; have KA29 := Aside0.mk hA29; clear hy29 hA29; replace q29 := eq_true q29) | ((with_reducible refine gate_builtin (b := .append) (xs := #[.tmp 43, .tmp 46]) rfl ?_); at_builtin; refine Kd.R_append_rows Kd.string (w0 := w) w.heap.size rfl (.tmp 43) (.tmp 46) 23 9 (.string ⟨#[]⟩) 16 rfl Tryd.underlying23 info9 rfl (by decide) (by omega) v153 y152 y155 _ _ _ (fun k_ => (w.heap.size ≤ k_)) (fun _ => False) rfl rfl ?aO ?aR (fun _ _ h => h) (fun _ h => h.elim) ?aF ?aB ?aS ?aL ?_; (case aR => repeat (first | exact (Kd.V_reads' HO159.out).2.2 | (with_reducible refine Kd.C_alloc ?_ _) | (with_reducible refine Kd.C_drewN ?_ _) | (with_reducible refine Kd.C_drew ?_))); (case aB => exact (by repeat (first | (with_reducible first | exact HB.out | apply below_alloc | apply pw_below_drewN | apply below_drew1) | exact HB.out))); (case aF => exact (fun k_ hk => (Nat.le_trans (below_size (by repeat (first | (with_reducible first | exact HB.out | apply below_alloc | apply pw_below_drewN | apply below_drew1) | exact HB.out))) hk))); (case aO => exact (by (with_reducible repeat (first | apply Kd.R_alloc | apply Kd.R_drewN | apply Kd.R_drew)); exact HO154.out)); (case aS => exact (below_size (by repeat (first | (with_reducible first | exact HB.out | apply below_alloc | apply pw_below_drewN | apply below_drew1) | exact HB.out)))); (case aL => have := LMc25.out; omega); intro v161 w30 ho hb hg hat; rw [← Ny160.out] at ho; have n0_ := Aside0.mk (Kd.V_afterv (ok := (fun k_ => (P0_ k_ ∨ w.heap.size ≤ k_))) (by (with_reducible repeat (first | apply Kd.V_alloc | apply Kd.V_drewN | apply Kd.V_drew)); exact HO_0.out) hg hat); have n1_ := Aside0.mk (Kd.V_afterv (ok := (fun k_ => (P0_ k_ ∨ w.heap.size ≤ k_))) (by (with_reducible repeat (first | apply Kd.V_alloc | apply Kd.V_drewN | apply Kd.V_drew)); exact HO148.out) hg hat); have n2_ := Aside0.mk (Kd.V_afterv (ok := (fun k_ => (P0_ k_ ∨ w.heap.size ≤ k_))) (by (with_reducible repeat (first | apply Kd.V_alloc | apply Kd.V_drewN | apply Kd.V_drew)); exact HO159.out) hg hat); have n3_ := Aside0.mk (hb); have n4_ := Aside0.mk (ho); clear HO_0; clear HO148; clear HO159; clear HB; clear HO154; have HO_0 := n0_; have HO148 := n1_; have HO159 := n2_; have HB := n3_; have HO162 := n4_; clear n0_ n1_ n2_ n3_ n4_; clear ho hb hg hat))
                  go_ret
                  exact ⟨_, by first | rfl | (simp [errW_none, errW_some] <;> rfl) | (simp [*, errW_none, errW_some] <;> rfl), Kd.V_mono (Kd.R_V (by (with_reducible repeat (first | apply Kd.R_alloc | apply Kd.R_drewN | apply Kd.R_drew)); exact HO162.out)) (fun k_ hk => by first | exact ⟨(.inr (hk.1)), hk.2⟩ | exact (.inr (hk))), by repeat (first | (with_reducible first | exact HB.out | apply below_alloc | apply pw_below_drewN | apply below_drew1) | exact HB.out)⟩
                · rw [if_neg c25] at H
                  exact absurd H (by simp)
              · rw [if_neg c22] at H
                exact absurd H (by simp)
            · rw [if_neg c21] at H
              exact absurd H (by simp)
          · rw [if_neg c20] at H
            exact absurd H (by simp)
        · rw [if_neg c19] at H
          exact absurd H (by simp)

end Go.Proofs.YtpkjfpapjcmhdaaDoor.PMatchTerms
