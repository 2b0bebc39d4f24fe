/- PrimLeaves: the walk. -/
import Derived.Test.YtfaipapaiobgcaaPrimI
namespace Go.Proofs.Ytfaipapaiobgcaa.M
open Go.RowKit Go.Maps Go.ChangeMaps Go.Proofs.YtfaipapaiobgcaaW.PrintWords Go.Proofs.YtfaipapaiobgcaaW.PrintLast Go.Proofs.YtfaipapaiobgcaaW.PrintMore Go.Proofs.Ytfaipapaiobgcaa.PPrimPlays
set_option linter.unusedVariables false
set_option linter.unusedSimpArgs false
def one (k : Int) (p : Pe) : PF := setF f0 k p
theorem one_same (k : Int) (p : Pe) : one k p k = some p := by unfold one setF; rw [if_pos rfl]
theorem one_set (k : Int) (p q : Pe) : setF (one k p) k q = one k q := by
  funext j; unfold one setF; split <;> rfl
theorem lv1 (rv : Int) : tabF 0 rv [0, 1] f0 = one 1 ⟨true, false, 0, false, 0⟩ := by
  funext k
  by_cases h0 : k = 0
  · subst h0; rfl
  · by_cases h1 : k = 1
    · subst h1; rfl
    · simp [tabF, tab1, f0, one, setF, h0, h1]
theorem lv2 (rv : Int) : tabF 0 (rv + 1) [0] (one 1 ⟨true, false, 0, false, 0⟩) = f0 := by
  funext k
  by_cases h0 : k = 0
  · subst h0; rfl
  · by_cases h1 : k = 1
    · subst h1; rfl
    · simp [tabF, tab1, f0, one, setF, h0, h1]
theorem lv6 (rv n : Int) : tabF 0 (rv + 2) [0] (one 2 ⟨false, true, rv + 1, true, n⟩) = one 2 ⟨false, false, rv + 1, true, n⟩ := by
  funext k
  by_cases h0 : k = 0
  · subst h0; rfl
  · by_cases h1 : k = 2
    · subst h1
      simp [tabF, tab1, one, setF, updP]
    · simp [tabF, tab1, f0, one, setF, h0, h1]
theorem lv5 (rv n : Int) : offF (rv + 1) n (one 2 ⟨false, false, 0, true, n⟩) = one 2 ⟨false, true, rv + 1, true, n⟩ := by
  funext k
  by_cases h1 : k = 2
  · subst h1; simp [offF, one, setF, offP, offB]
  · simp [offF, one, setF, h1, f0]
theorem ks_f0 : ksF f0 = [] := by rfl
theorem ks_2 (p : Pe) : ksF (one 2 p) = [2] := by rfl
theorem ks_1 (p : Pe) : ksF (one 1 p) = [1] := by rfl
theorem needs_f0 : needsF f0 = [] := by rfl
theorem needs_2 (t : Int) (a : Bool) (h : Int) : needsF (one 2 ⟨false, true, t, a, h⟩) = [2] := by rfl
theorem needs_2n (t : Int) (a : Bool) (h : Int) : needsF (one 2 ⟨false, false, t, a, h⟩) = [] := by rfl
theorem sure_1 (n : Int) : sureV (one 1 ⟨true, false, 0, false, 0⟩) n = 0 := by rfl
theorem sure_f0 (n : Int) (h : 0 ≤ n) : sureV f0 n = n := by
  show max 0 n = n
  omega
theorem sure_2 (t n : Int) (h : 0 ≤ n) : sureV (one 2 ⟨false, true, t, true, n⟩) (n + 1) = n := by
  show max 0 (min (n + 1) n) = n
  omega
theorem sure_2n (t m n : Int) (h : 0 ≤ n) : sureV (one 2 ⟨false, false, t, true, m⟩) n = n := by
  show max 0 n = n
  omega
theorem off_2 (n : Int) : (ksF (one 2 ⟨false, false, 0, true, n⟩)).filter (offK (one 2 ⟨false, false, 0, true, n⟩) n) = [2] := by
  rw [ks_2]
  simp [offK, one_same, offB]
set_option maxHeartbeats 4000000 in
theorem leaves_any (rv ln : Int) (h1 : 0 ≤ rv) (h2 : rv ≤ 1152921504606846976) (h3 : 0 ≤ ln) (h4 : ln ≤ 255) (w : World) :
    Calls Try.prog 4 #[.int .u64 rv, .int .u8 ln] w fun e w' => e = .returned (.bool true) ∧ Below w.heap.size w w' := by
  go_enter Try.func4, Try.ntmps4
  go_upto_region 4 with (first | (go_at_call 8; refine (awake_any _).mono ?_; rintro e w1 ⟨rfl, hB⟩; have HB := Aside0.mk hB; clear hB))
  have hn : 0 ≤ 1 + ln := by omega
  have hC0 : ∀ W : World, Kd.C (Kd.int .i64) (W.alloc (.cells #[.int .i64 0, .int .i64 1] 3)) (some ⟨W.heap.size, 0, none⟩) ([0, 1] : List Int).length [0, 1] := fun W => ints_new (xs := [0, 1]) (heap_alloc_new W _) (by decide)
  have HC0 := Aside0.mk hC0
  clear hC0
  have hw1 : wrap64 (1 + ln + 1) = 1 + ln + 1 := by unfold wrap64; omega
  have HW1 := Aside0.mk hw1
  clear hw1
  go_wp2_with fail
  refine (ps_new (w0 := w) (E := fun _ => False) (fun _ h => h.elim) (HB.out.alloc HB.out.size _) 0 1 rv ⟨h1, by omega⟩ (HC0.out w1) (Nat.le_refl _) (fun ad e => by cases e; simp) (by decide) (by decide)).mono ?_
  rintro e w2 ⟨B, rfl, hP, _⟩
  rw [lv1] at hP
  have HP := Aside0.mk hP
  clear hP
  go_wp2_with fail
  refine (ps_sure HP.out (1 + ln) ⟨by omega, by omega⟩).mono ?_
  rintro e w3 ⟨rfl, hP, _⟩
  rw [sure_1]
  have HP3 := Aside0.mk hP
  clear hP HP
  go_wp2_with fail
  refine (ps_table_new HP3.out (fun _ h => h.elim) [0] (by decide) (by decide) (rv + 1) (by omega) (by omega)).mono ?_
  rintro e w4 ⟨rfl, hP, _⟩
  rw [lv2] at hP
  have HP4 := Aside0.mk hP
  clear hP HP3
  go_wp2_with fail
  refine (ps_sure HP4.out (1 + ln) ⟨by omega, by omega⟩).mono ?_
  rintro e w5 ⟨rfl, hP, _⟩
  rw [sure_f0 _ hn]
  have HP5 := Aside0.mk hP
  clear hP HP4
  go_wp2_with fail
  refine (ps_peers HP5.out).mono ?_
  rintro e w6 ⟨v, rfl, hR, hP, _⟩
  rw [ks_f0] at hR
  obtain ⟨A6, c6, rfl⟩ := Kd.R_slice hR
  have HP6 := Aside0.mk hP
  clear hP HP5 hR
  go_wp2_with fail
  refine (ps_join HP6.out 2 (by omega) (by omega) (by omega) rfl).mono ?_
  rintro e w7 ⟨rfl, hP, _⟩
  have HP7 := Aside0.mk hP
  clear hP HP6
  go_wp2_with fail
  refine (ps_has HP7.out (p := zeroPe) rfl (1 + ln) hn (by omega)).mono ?_
  rintro e w8 ⟨rfl, hP, _⟩
  have hP : PS w (fun _ => False) w8 B 0 1 (rv + 1) (one 2 ⟨false, false, 0, true, 1 + ln⟩) := by
    have e : ({ zeroPe with a := true, h := max zeroPe.h (1 + ln) } : Pe) = ⟨false, false, 0, true, 1 + ln⟩ := by
      have : max (0 : Int) (1 + ln) = 1 + ln := by omega
      simp [zeroPe, this]
    rw [e] at hP
    have e2 : setF (setF f0 2 zeroPe) 2 ⟨false, false, 0, true, 1 + ln⟩ = one 2 ⟨false, false, 0, true, 1 + ln⟩ := one_set 2 _ _
    rw [e2] at hP
    exact hP
  have HP8 := Aside0.mk hP
  clear hP HP7
  go_wp2_with fail
  refine (ps_offer HP8.out (1 + ln)).mono ?_
  rintro e w9 ⟨v, rfl, hR, hP, _⟩
  rw [off_2] at hR
  rw [lv5] at hP
  obtain ⟨A9, c9, rfl⟩ := Kd.R_slice hR
  have HP9 := Aside0.mk hP
  clear hP HP8 hR
  go_wp2_with fail
  refine (ps_needs HP9.out).mono ?_
  rintro e w10 ⟨v, rfl, hR, hP, _⟩
  rw [needs_2] at hR
  obtain ⟨A10, c10, rfl⟩ := Kd.R_slice hR
  have HP10 := Aside0.mk hP
  clear hP HP9 hR
  go_wp2_with fail
  refine (ps_sure HP10.out (1 + ln + 1) ⟨by omega, by omega⟩).mono ?_
  rintro e w11 ⟨rfl, hP, _⟩
  rw [sure_2 _ _ hn]
  have HP11 := Aside0.mk hP
  clear hP HP10
  go_wp2_with fail
  refine (ps_table_new HP11.out (fun _ h => h.elim) [0] (by decide) (by decide) (rv + 2) (by omega) (by omega)).mono ?_
  rintro e w12 ⟨rfl, hP, _⟩
  rw [lv6] at hP
  have HP12 := Aside0.mk hP
  clear hP HP11
  go_wp2_with fail
  refine (ps_needs HP12.out).mono ?_
  rintro e w13 ⟨v, rfl, hR, hP, _⟩
  rw [needs_2n] at hR
  obtain ⟨A13, c13, rfl⟩ := Kd.R_slice hR
  have HP13 := Aside0.mk hP
  clear hP HP12 hR
  go_wp2_with fail
  refine (ps_sure HP13.out (1 + ln + 1) ⟨by omega, by omega⟩).mono ?_
  rintro e w14 ⟨rfl, hP, _⟩
  rw [sure_2n _ _ _ (by omega)]
  have HP14 := Aside0.mk hP
  clear hP HP13
  go_wp2_with fail
  refine (ps_table_old (HP14.out.alloc _) _ _ _ (rv + 1) (by omega)).mono ?_
  rintro e w15 ⟨rfl, rfl⟩
  go_wp2_with fail
  refine (ps_needs (HP14.out.alloc _)).mono ?_
  rintro e w16 ⟨v, rfl, hR, hP, _⟩
  rw [needs_2n] at hR
  obtain ⟨A16, c16, rfl⟩ := Kd.R_slice hR
  have HP16 := Aside0.mk hP
  clear hP HP14 hR
  go_wp2
  go_ret
  exact ⟨rfl, HP16.out.choose_spec.2.2.2⟩
theorem primLeaves_law (rv ln : Int) (W : World) (h1 : (Lit.int .u64 rv).wf = true) (h2 : (Lit.int .u8 ln).wf = true) :
    Calls Try.prog 4 #[.int .u64 rv, .int .u8 ln] W fun e w' => e = .returned (.bool true) ∧ Below W.heap.size W w' := by
  have hr : 0 ≤ rv ∧ rv ≤ 18446744073709551615 := by simpa [Lit.wf, IntKind.min, IntKind.max, IntKind.signed, IntKind.bits] using h1
  have hl : 0 ≤ ln ∧ ln ≤ 255 := by simpa [Lit.wf, IntKind.min, IntKind.max, IntKind.signed, IntKind.bits] using h2
  by_cases hb : rv ≤ 1152921504606846976
  · exact leaves_any rv ln hr.1 hb hl.1 hl.2 W
  · have e1 : decide (1152921504606846976 < rv) = true := decide_eq_true (by omega)
    go_enter Try.func4, Try.ntmps4
    go_wp2_with fail
    refine (awake_any _).mono ?_
    rintro e w1 ⟨rfl, hB⟩
    have HB := Aside0.mk hB
    clear hB
    go_wp2_with fail
    refine (awake_any _).mono ?_
    rintro e w2 ⟨rfl, hB⟩
    have HB2 := Aside0.mk hB
    clear hB
    go_wp2
    go_ret
    exact ⟨rfl, HB.out.trans (HB2.out.mono HB.out.size)⟩
end Go.Proofs.Ytfaipapaiobgcaa.M
