/- The laws of the first copy's knowledge that need no reference: the walks. -/
import Derived.Test.YtfaipapaiobgcaaPrimG
namespace Go.Proofs.Ytfaipapaiobgcaa.M
open Go.RowKit Go.Maps Go.ChangeMaps Go.Proofs.YtfaipapaiobgcaaW.PrintWords Go.Proofs.YtfaipapaiobgcaaW.PrintLast Go.Proofs.YtfaipapaiobgcaaW.PrintMore Go.Proofs.Ytfaipapaiobgcaa.PPrimPlays
set_option linter.unusedVariables false
set_option linter.unusedSimpArgs false
theorem ints_new {w : World} {b : Nat} {xs : List Int} {m : Nat × Nat} (h : w.heap[b]? = some (.cells (xs.map (Value.int .i64)).toArray 3 m)) (hl : xs.length ≤ 140737488351232) : Kd.C (Kd.int .i64) w (some ⟨b, 0, none⟩) xs.length xs := by
  refine ⟨rfl, by omega, fun _ => ⟨_, rfl, fun j p hp => ⟨[.int .i64 p], rfl, rfl, fun i u hu => ?_⟩⟩⟩
  cases i with
  | succ i => simp at hu
  | zero =>
    obtain rfl : Value.int .i64 p = u := by simpa using hu
    have hs : (Kd.int .i64).sz = 1 := rfl
    rw [hs]
    have := cell_of_row w b j _ 3 m h
    have e : (⟨b, 0, none⟩ : Addr).add (j * 1 + 0) = ⟨b, j, none⟩ := by
      simp only [Addr.add, Nat.mul_one, Nat.zero_add, Nat.add_zero]
      split
      · rename_i h0; rw [h0]
      · rfl
    rw [e, this]
    simp [hp]
theorem ints_out {w : World} {S : Nat → Prop} {b : Nat} {xs : List Int} {m : Nat × Nat} (h : w.heap[b]? = some (.cells (xs.map (Value.int .i64)).toArray 3 m)) (hb : ¬ S b) (hl : xs.length ≤ 140737488351232) : IntsAt w S (some ⟨b, 0, none⟩) xs.length xs :=
  ⟨ints_new h hl, Nat.le_refl _, fun ad e _ => by cases e; exact hb, hl⟩
def fA : PF := tabF 0 0 [0, 1] f0
def fB : PF := setF fA 1 ⟨true, false, 0, true, 3⟩
theorem fA_1 : fA 1 = some ⟨true, false, 0, false, 0⟩ := by rfl
theorem sA : sureV fA 5 = 0 := by rfl
theorem sB : sureV fB 5 = 3 := by rfl
theorem awake_any (w : World) : Calls Try.prog 8 #[] w fun e w' => e = .returned (.bool true) ∧ Below w.heap.size w w' := by
  have hI : IntsAt (w.alloc (.cells #[.int .i64 0, .int .i64 1] 3)) (fun k => w.heap.size < k) (some ⟨w.heap.size, 0, none⟩) 2 [0, 1] := ints_out (xs := [0, 1]) (heap_alloc_new w _) (by omega) (by decide)
  have hN := new_f (S := fun k => w.heap.size < k) (w := w.alloc (.cells #[.int .i64 0, .int .i64 1] 3)) (fun k hk => by simp at hk; omega) 0 1 0 ⟨by omega, by omega⟩ hI (by decide)
  have HN := Aside0.mk hN
  clear hN hI
  have HB0 := Aside0.mk ((Below.refl w.heap.size w).alloc (Nat.le_refl _) (.cells #[.int .i64 0, .int .i64 1] 3))
  have s1 : sureV (tabF 0 0 [0, 1] f0) 5 = 0 := sA
  have s2 : sureV (setF (tabF 0 0 [0, 1] f0) 1 { i := true, o := false, t := 0, a := true, h := max 0 3 }) 5 = 3 := sB
  go_enter Try.func8, Try.ntmps8
  go_wp2_with (first
    | (go_at_call 9; refine HN.out.mono ?_; rintro e w1 ⟨B, rfl, hP, hK⟩; have HP := Aside0.mk hP; have HB := Aside0.mk (HB0.out.trans (hK.below (B := w.heap.size) (fun k hk h => by omega) (by simp))); clear hP hK)
    | (go_at_call 10; refine (sure_f HP.out 5 (by omega)).mono ?_; rintro e w1 ⟨rfl, hP, hK⟩; have HP2 := Aside0.mk hP; have HB2 := Aside0.mk (HB.out.trans (hK.mono HB.out.size)); clear hP hK HP HB; have HP := HP2; have HB := HB2; clear HP2 HB2)
    | (go_at_call 11; refine (has_f HP.out (p := ⟨true, false, 0, false, 0⟩) fA_1 3 (by omega) (by omega)).mono ?_; rintro e w1 ⟨rfl, hP, hK⟩; have HP2 := Aside0.mk hP; have HB2 := Aside0.mk (HB.out.trans (hK.below (B := w.heap.size) (fun k hk h => by omega) HB.out.size)); clear hP hK HP HB; have HP := HP2; have HB := HB2; clear HP2 HB2)
    | (go_at_call 23; refine (term_f HP.out).mono ?_; rintro e w1 ⟨rfl, rfl⟩)
    | fail)
  go_ret
  exact ⟨rfl, HB.out⟩
theorem nil_any (rv : Int) (A : Option Addr) (n c : Nat) (k m : Int) (w : World) : Calls Try.prog 7 #[.int .u64 rv, .slice A n c, .int .i64 k, .int .i64 m] w fun e w' => e = .returned (.bool true) ∧ Below w.heap.size w w' := by
  go_enter Try.func7, Try.ntmps7
  go_wp2_with (first
    | (go_at_call 13; refine (table_nil _ _ _ _ _).mono ?_; rintro e w1 ⟨rfl, rfl⟩)
    | (go_at_call 24; refine (lacks_nil _ _).mono ?_; rintro e w1 ⟨rfl, rfl⟩)
    | (go_at_call 8; refine (awake_any _).mono ?_; rintro e w1 ⟨rfl, hB⟩; have HB := Aside0.mk hB; clear hB)
    | (go_at_call 23; refine (term_nil _).mono ?_; rintro e w1 ⟨rfl, rfl⟩)
    | (go_at_call 12; refine (join_nil _ _).mono ?_; rintro e w1 ⟨rfl, rfl⟩)
    | (go_at_call 11; refine (has_nil _ _ _).mono ?_; rintro e w1 ⟨rfl, rfl⟩)
    | (go_at_call 25; refine (lost_nil _ _).mono ?_; rintro e w1 ⟨rfl, rfl⟩)
    | (go_at_call 14; refine (peers_nil _).mono ?_; rintro e w1 ⟨rfl, rfl⟩)
    | (go_at_call 16; refine (needs_nil _).mono ?_; rintro e w1 ⟨rfl, rfl⟩)
    | (go_at_call 15; refine (offer_nil _ _).mono ?_; rintro e w1 ⟨rfl, rfl⟩)
    | (go_at_call 10; refine (sure_nil _ _).mono ?_; rintro e w1 ⟨rfl, rfl⟩)
    | fail)
  go_ret
  exact ⟨rfl, HB.out⟩
theorem primNil_law (rv : Int) (A : Option Addr) (c : Nat) (l : List Int) (k m : Int) (W : World) (hC : Kd.C (Kd.int .i64) W A l.length l) (hc : l.length ≤ c) (h1 : (Lit.int .u64 rv).wf = true) (h2 : l.length * 8 ≤ 140737488351232 ∧ ∀ y ∈ l, (Lit.int .i64 y).wf = true) (h3 : (Lit.int .i64 k).wf = true) (h4 : (Lit.int .i64 m).wf = true) :
    Calls Try.prog 7 #[.int .u64 rv, .slice A l.length c, .int .i64 k, .int .i64 m] W fun e w' => e = .returned (.bool true) ∧ Below W.heap.size W w' := nil_any rv A l.length c k m W
end Go.Proofs.Ytfaipapaiobgcaa.M
