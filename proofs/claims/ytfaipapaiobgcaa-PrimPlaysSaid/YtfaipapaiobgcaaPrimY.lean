/- Small calls on slices of whole numbers. -/
import Derived.Test.YtfaipapaiobgcaaPrimI
namespace Go.Proofs.Ytfaipapaiobgcaa.M
open Go.RowKit Go.Maps Go.ChangeMaps Go.Proofs.YtfaipapaiobgcaaW.PrintWords Go.Proofs.YtfaipapaiobgcaaW.PrintLast Go.Proofs.YtfaipapaiobgcaaW.PrintMore Go.Proofs.Ytfaipapaiobgcaa.PPrimPlays
set_option linter.unusedVariables false
set_option linter.unusedSimpArgs false
theorem in_any {A : Option Addr} {c : Nat} {xs : List Int} {w : World} (hC : Kd.C (Kd.int .i64) w A xs.length xs) (hc : xs.length ≤ c) (hl : xs.length ≤ 140737488351232) (y : Int) :
    Calls Try.prog 33 #[.slice A xs.length c, .int .i64 y] w fun e w' => e = .returned (.bool (decide (y ∈ xs))) ∧ ∃ n, w' = w.drewN n := by
  have HC := Aside0.mk hC
  clear hC
  go_enter Try.func33, Try.ntmps33
  go_wp2
  go_loopw [5] (fun i wq => ∃ j d : Nat, i = .int .i64 j ∧ j ≤ xs.length ∧ Aside0 (y ∉ xs.take j) ∧ wq = w.drewN d) (fun i _ => xs.length - (intOf i).toNat)
  case atStart => exact ⟨0, 0, rfl, Nat.zero_le _, ⟨by simp⟩, rfl⟩
  case round =>
    obtain ⟨j, d, rfl, hj, HN, rfl⟩ := hrel
    by_cases hlt : j < xs.length
    · obtain ⟨ad, rfl, hcl⟩ := ints_cell HC.out j hlt
      have htk : xs.take (j + 1) = xs.take j ++ [xs[j]] := List.take_succ_eq_append_getElem hlt
      have HTK := Aside0.mk htk
      have HM := Aside0.mk (List.getElem_mem hlt)
      clear htk
      generalize xs[j] = z at hcl HTK HM
      by_cases hz : z = y
      · have e1 : (z == y) = true := by simpa using hz
        have HZ := Aside0.mk hz
        clear hz
        go_wp2
        go_ret
        refine ⟨?_, _, rfl⟩
        show Ending.returned (.bool true) = _
        rw [decide_eq_true (show y ∈ xs from HZ.out ▸ HM.out)]
      · have e1 : (z == y) = false := by simpa using hz
        have HZ := Aside0.mk hz
        clear hz
        go_wp2
        go_roundw
        case rel => exact ⟨j + 1, _, by go_num, by omega, ⟨by rw [HTK.out, List.mem_append]; rintro (h | h); exact HN.out h; exact HZ.out (List.mem_singleton.1 h).symm⟩, rfl⟩
        case measure => simp [intOf]; omega
    · have hjl : j = xs.length := by omega
      have HJ := Aside0.mk hjl
      clear hjl
      go_wp2
      go_ret
      refine ⟨?_, _, rfl⟩
      show Ending.returned (.bool false) = _
      have := HN.out
      rw [HJ.out, List.take_length] at this
      rw [decide_eq_false this]
def fitB (xs : List Int) : Bool := xs.all fun k => decide (0 ≤ k ∧ k ≤ 4)
theorem fits_any {A : Option Addr} {c : Nat} {xs : List Int} {w : World} (hC : Kd.C (Kd.int .i64) w A xs.length xs) (hc : xs.length ≤ c) (hl : xs.length ≤ 140737488351232) :
    Calls Try.prog 17 #[.slice A xs.length c] w fun e w' => e = .returned (.bool (fitB xs)) ∧ ∃ n, w' = w.drewN n := by
  have HC := Aside0.mk hC
  clear hC
  go_enter Try.func17, Try.ntmps17
  go_wp2
  go_loopw [3] (fun i wq => ∃ j d : Nat, i = .int .i64 j ∧ j ≤ xs.length ∧ Aside0 (fitB (xs.take j) = true) ∧ wq = w.drewN d) (fun i _ => xs.length - (intOf i).toNat)
  case atStart => exact ⟨0, 0, rfl, Nat.zero_le _, ⟨rfl⟩, rfl⟩
  case round =>
    obtain ⟨j, d, rfl, hj, HN, rfl⟩ := hrel
    by_cases hlt : j < xs.length
    · obtain ⟨ad, rfl, hcl⟩ := ints_cell HC.out j hlt
      have htk : xs.take (j + 1) = xs.take j ++ [xs[j]] := List.take_succ_eq_append_getElem hlt
      have HTK := Aside0.mk htk
      have HM := Aside0.mk (List.getElem_mem hlt)
      clear htk
      generalize xs[j] = z at hcl HTK HM
      have hno : ¬ (0 ≤ z ∧ z ≤ 4) → fitB xs = false := fun h => by
        unfold fitB
        rw [List.all_eq_false]
        exact ⟨z, HM.out, by simpa using h⟩
      have HNO := Aside0.mk hno
      clear hno
      by_cases hz0 : z < 0
      · go_wp2
        go_ret
        refine ⟨?_, _, rfl⟩
        show Ending.returned (.bool false) = _
        rw [HNO.out (by omega)]
      · by_cases hz4 : 4 < z
        · go_wp2
          go_ret
          refine ⟨?_, _, rfl⟩
          show Ending.returned (.bool false) = _
          rw [HNO.out (by omega)]
        · go_wp2
          go_roundw
          case rel => exact ⟨j + 1, _, by go_num, by omega, ⟨by rw [HTK.out]; unfold fitB; rw [List.all_append]; have := HN.out; unfold fitB at this; rw [this]; simp; omega⟩, rfl⟩
          case measure => simp [intOf]; omega
    · have hjl : j = xs.length := by omega
      have HJ := Aside0.mk hjl
      clear hjl
      go_wp2
      go_ret
      refine ⟨?_, _, rfl⟩
      have := HN.out
      rw [HJ.out, List.take_length] at this
      show Ending.returned (.bool true) = _
      rw [this]
theorem same_any {A A2 : Option Addr} {c c2 : Nat} {xs : List Int} {w : World} (hC : Kd.C (Kd.int .i64) w A xs.length xs) (hC2 : Kd.C (Kd.int .i64) w A2 xs.length xs) (hl : xs.length ≤ 140737488351232) :
    Calls Try.prog 20 #[.slice A xs.length c, .slice A2 xs.length c2] w fun e w' => e = .returned (.bool true) ∧ ∃ n, w' = w.drewN n := by
  have HC := Aside0.mk hC
  have HC2 := Aside0.mk hC2
  clear hC hC2
  go_enter Try.func20, Try.ntmps20
  go_wp2
  go_loopw [5] (fun i wq => ∃ j d : Nat, i = .int .i64 j ∧ j ≤ xs.length ∧ wq = w.drewN d) (fun i _ => xs.length - (intOf i).toNat)
  case atStart => exact ⟨0, 0, rfl, Nat.zero_le _, rfl⟩
  case round =>
    obtain ⟨j, d, rfl, hj, rfl⟩ := hrel
    by_cases hlt : j < xs.length
    · obtain ⟨ad, rfl, hcl⟩ := ints_cell HC.out j hlt
      obtain ⟨ad2, rfl, hcl2⟩ := ints_cell HC2.out j hlt
      generalize xs[j] = z at hcl hcl2
      go_wp2
      repeat (go_quiet (fail); try go_wp2)
      go_roundw
      case rel => exact ⟨j + 1, _, by go_num, by omega, rfl⟩
      case measure => simp [intOf]; omega
    · go_wp2
      go_ret
      exact ⟨rfl, _, rfl⟩
end Go.Proofs.Ytfaipapaiobgcaa.M
