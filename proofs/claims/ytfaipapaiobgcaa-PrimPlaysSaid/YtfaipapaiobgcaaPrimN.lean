/- The law PrimSafe. -/
import Derived.Test.YtfaipapaiobgcaaPrimM
namespace Go.Proofs.Ytfaipapaiobgcaa.M
open Go.RowKit Go.Maps Go.ChangeMaps Go.Proofs.YtfaipapaiobgcaaW.PrintWords Go.Proofs.YtfaipapaiobgcaaW.PrintLast Go.Proofs.YtfaipapaiobgcaaW.PrintMore Go.Proofs.Ytfaipapaiobgcaa.PPrimPlays
set_option linter.unusedVariables false
set_option linter.unusedSimpArgs false
def SafeR (W : World) (X Y B : Nat) (me : Int) (wq : World) : Prop := ∃ rv f, JS (fun _ => False) W wq B X Y me 1 rv f
set_option maxRecDepth 100000 in
set_option maxHeartbeats 8000000 in
theorem primSafe_law (me rv : Int) (A : Option Addr) (c : Nat) (l : List Int) (A2 : Option Addr) (c2 : Nat) (l2 : List S42) (ln : Int) (W : World) (hC : Kd.C (Kd.int .i64) W A l.length l) (hc : l.length ≤ c) (hC2 : Kd.C k42 W A2 l2.length l2) (hc2 : l2.length ≤ c2)
    (h1 : (Lit.int .u8 me).wf = true) (h2 : (Lit.int .u64 rv).wf = true) (h3 : l.length * 8 ≤ 140737488351232 ∧ ∀ y ∈ l, (Lit.int .i64 y).wf = true) (h4 : l2.length * 56 ≤ 140737488351232 ∧ ∀ y ∈ l2, okA y) (h5 : (Lit.int .i64 ln).wf = true) :
    Calls Try.prog 5 #[.int .u8 me, .int .u64 rv, .slice A l.length c, .slice A2 l2.length c2, .int .i64 ln] W fun e w' => e = .returned (.bool true) ∧ Below W.heap.size W w' := by
  have b1 := wf_u8 h1
  have b2 := wf_u64 h2
  have b5 := wf_i64 h5
  have HC := Aside0.mk hC
  have HC2 := Aside0.mk hC2
  have hl2 : l2.length ≤ 140737488351232 := by omega
  have hl1 : l.length ≤ 140737488351232 := by omega
  have H4 := Aside0.mk h4.2
  clear hC hC2 h1 h2 h3 h4 h5
  go_enter Try.func5, Try.ntmps5
  go_wp2_with fail
  refine (awake_any _).mono ?_
  rintro e w1 ⟨rfl, hB1⟩
  have HB1 := Aside0.mk hB1
  clear hB1
  go_wp2_with fail
  refine (fits_any (Kd.C_below HC.out HB1.out) hc hl1).mono ?_
  rintro e w2 ⟨rfl, nd, rfl⟩
  have HB2 : Aside0 (Below W.heap.size W (w1.drewN nd)) := ⟨pw_below_drewN HB1.out nd⟩
  clear HB1
  generalize w1.drewN nd = w2 at *
  cases hf : fitB l
  · have HF := Aside0.mk hf
    clear hf
    go_wp2_with fail
    refine (awake_any _).mono ?_
    rintro e w3 ⟨rfl, hB3⟩
    have HB3 := Aside0.mk hB3
    clear hB3
    go_wp2
    go_ret
    exact ⟨rfl, HB2.out.trans (HB3.out.mono HB2.out.size)⟩
  · have HX := Aside0.mk (fit_mem hf)
    clear hf
    go_wp2_with fail
    refine (ps_new (w0 := W) (E := fun _ => False) (fun _ h => h.elim) HB2.out (me % 5) 1 rv b2 (Kd.C_below HC.out HB2.out) hc (fun ad e h0 => by subst e; exact Nat.lt_of_lt_of_le (Kd.C_lt HC.out h0 (by decide)) HB2.out.size) hl1 HX.out).mono ?_
    rintro e w3 ⟨B, rfl, hP3, _⟩
    have HP3 := Aside0.mk hP3
    have HB3 := Aside0.mk hP3.choose_spec.2.2.2
    clear hP3
    go_wp2_with fail
    refine (xnew_any (me % 5) rv (Kd.C_below HC.out HB3.out) hc (fun ad e h0 => by subst e; exact Nat.lt_of_lt_of_le (Kd.C_lt HC.out h0 (by decide)) HB3.out.size) hl1).mono ?_
    rintro e w4 ⟨X, Y, rfl, hX1, hY1, hXA, hB4⟩
    have hXY : X < w4.heap.size ∧ Y < w4.heap.size := ⟨blk_lt hXA.hd, by obtain ⟨_, h, _⟩ := hXA.bl; exact blk_lt h⟩
    have hJ : SafeR W X Y B (me % 5) w4 := by
      refine ⟨rv, tabF (me % 5) rv l f0, (HP3.out.add hB4 ⟨hX1, hXY.1⟩ ⟨hY1, hXY.2⟩).weaken (fun k h => h.elim id False.elim), ?_, tab_no rfl, tab_nn (fun k p h => by cases h), ⟨Nat.le_trans HB3.out.size hX1, Nat.le_trans HB3.out.size hY1⟩⟩
      rw [tab_both (f := f0) rfl (fun _ _ => rfl) HX.out] at hXA
      exact hXA
    have HJ := Aside0.mk hJ
    clear hJ hX1 hY1 hXA hB4 hXY HP3
    go_wp2
    go_loopw [14] (fun i wq => ∃ n : Nat, i = .int .i64 n ∧ n ≤ l2.length ∧ n ≤ 60 ∧ Aside0 (SafeR W X Y B (me % 5) wq)) (fun i _ => 60 - (intOf i).toNat)
    case atStart => exact ⟨0, rfl, Nat.zero_le _, by omega, HJ⟩
    case round =>
      obtain ⟨n, rfl, hn, hn6, HR⟩ := hrel
      by_cases hlt : n < l2.length
      · by_cases h60 : n < 60
        · obtain ⟨rvq, f, hq⟩ := HR.out
          have HQ := Aside0.mk hq
          clear HR hq
          generalize hz : l2[n] = z
          obtain ⟨ad, A1, c1, rfl, e0, e1, e2, e3, e4, hc1, hCz, hAz, had⟩ := act_in HC2.out HQ.out.bel n hlt z hz
          have HZ := Aside0.mk (H4.out z (hz ▸ List.getElem_mem hlt))
          have hzl : z.f2.length ≤ 140737488351232 := by have := HZ.out.2.2.1.1; omega
          have HCZ := Aside0.mk hCz
          have HAZ := Aside0.mk hAz
          clear hz hCz hAz
          go_wp2_with fail
          refine (fits_any HCZ.out hc1 hzl).mono ?_
          rintro e w5 ⟨rfl, nd5, rfl⟩
          have HQ5 := Aside0.mk (HQ.out.keep (w1 := wr.drewN nd5) ⟨rfl, rfl, rfl, Nat.le_refl _, fun _ _ => rfl⟩)
          have HC5 : Aside0 (Kd.C (Kd.int .i64) (wr.drewN nd5) A1 z.f2.length z.f2) := ⟨Kd.C_drewN HCZ.out nd5⟩
          replace e0 : (wr.drewN nd5).cell? (ad.add (n * 5)) = some (.int .u8 z.f0) := e0
          replace e1 : (wr.drewN nd5).cell? ⟨(ad.add (n * 5)).block, (ad.add (n * 5)).off + 1, none⟩ = some (.int .u64 z.f1) := e1
          replace e2 : (wr.drewN nd5).cell? ⟨(ad.add (n * 5)).block, (ad.add (n * 5)).off + 2, none⟩ = some (.slice A1 z.f2.length c1) := e2
          replace e3 : (wr.drewN nd5).cell? ⟨(ad.add (n * 5)).block, (ad.add (n * 5)).off + 3, none⟩ = some (.int .i64 z.f3) := e3
          replace e4 : (wr.drewN nd5).cell? ⟨(ad.add (n * 5)).block, (ad.add (n * 5)).off + 4, none⟩ = some (.int .i64 z.f4) := e4
          clear HQ HCZ
          generalize wr.drewN nd5 = w5 at *
          cases hfz : fitB z.f2
          · clear hfz
            go_wp2
            go_ret
            exact ⟨rfl, HQ5.out.bel⟩
          · have HFZ := Aside0.mk hfz
            clear hfz
            go_wp2_with fail
            refine (do_any HQ5.out z A1 c1 HC5.out hc1 HAZ.out HFZ.out HZ.out).mono ?_
            rintro e w6 ⟨rfl, rv6, f6, hq6, _⟩
            have HQ6 := Aside0.mk hq6
            clear hq6 e0 e1 e2 e3 e4 HC5 HQ5
            go_wp2_with fail
            refine (ps_sure HQ6.out.ps ln b5).mono ?_
            rintro e w7 ⟨rfl, _, hB7⟩
            have HQ7 := Aside0.mk (HQ6.out.old hB7)
            have HSS := Aside0.mk (sure_safe f6 ln)
            have hsl := sure_le f6 (needsF f6) ln
            replace hsl : sureV f6 ln ≤ max 0 ln := hsl
            clear hB7 HQ6
            generalize sureV f6 ln = sv at *
            by_cases hgt : ln < sv
            case' pos =>
              have hs0 : ¬ (0 < sv) := by omega
            all_goals
              go_wp2
              go_loopw [16] (fun i wq => ∃ k : Nat, i = .int .i64 k ∧ k ≤ 5 ∧ Aside0 (JS (fun _ => False) W wq B X Y (me % 5) 1 rv6 f6)) (fun i _ => 5 - (intOf i).toNat)
              case atStart => exact ⟨0, rfl, by omega, HQ7⟩
              case round =>
                obtain ⟨k, rfl, hk, HQq⟩ := hrel
                by_cases hk5 : k < 5
                · have hkI : (k : Int) < 5 := by omega
                  have z2 : wr.cell? ⟨X, 2, none⟩ = some (.slice (some ⟨Y, 0, none⟩) 5 5) := blk_cell HQq.out.xa.hd 2
                  have hcells := fun c hc => (HQq.out.xa.cell k c hk5 hc).1
                  have x0 := hcells 0 (by omega)
                  have x1 := hcells 1 (by omega)
                  have x2 := hcells 2 (by omega)
                  have x3 := hcells 3 (by omega)
                  have x4 := hcells 4 (by omega)
                  have x5 := hcells 5 (by omega)
                  clear hcells
                  have HN : Aside0 (∀ o, JS (fun _ => False) W (wr.alloc o) B X Y (me % 5) 1 rv6 f6) := ⟨fun o => HQq.out.old (below_alloc (Below.refl _ _) o)⟩
                  cases hfn : f6 (k : Int) with
                  | none =>
                    rw [hfn] at x0 x1 x2 x3 x4 x5
                    clear hfn
                    simp [encC] at x0 x1 x2 x3 x4 x5
                    go_wp2
                    go_roundw
                    case rel => exact ⟨k + 1, by go_num, by omega, ⟨HN.out _⟩⟩
                    case measure => simp [intOf]; omega
                  | some p =>
                    rw [hfn] at x0 x1 x2 x3 x4 x5
                    simp [encC] at x0 x1 x2 x3 x4 x5
                    have hnn := HQq.out.nn _ _ hfn
                    have hsf := HSS.out k hk5 p hfn
                    clear hfn
                    cases hi : p.i <;> cases ho : p.o
                    all_goals
                      rw [hi] at x1 hsf
                      rw [ho] at x2 hsf
                      clear hi ho
                    · clear hsf
                      go_wp2
                      go_roundw
                      case rel => exact ⟨k + 1, by go_num, by omega, ⟨HN.out _⟩⟩
                      case measure => simp [intOf]; omega
                    all_goals
                      by_cases hs : 0 < sv
                      · first
                          | (exfalso; omega)
                          | (obtain ⟨ha, hle⟩ := hsf (by simp) hs
                             rw [ha] at x3
                             have d3 : ¬ (p.h < sv) := by omega
                             clear ha hsf
                             go_wp2
                             go_roundw
                             case rel => exact ⟨k + 1, by go_num, by omega, ⟨HN.out _⟩⟩
                             case measure => simp [intOf]; omega)
                      · have d3 : ¬ (p.h < sv) := by omega
                        clear hsf
                        go_wp2
                        go_roundw
                        case rel => exact ⟨k + 1, by go_num, by omega, ⟨HN.out _⟩⟩
                        case measure => simp [intOf]; omega
                · have h5 : k = 5 := by omega
                  subst h5
                  go_wp2
                  go_roundw
                  case rel => exact ⟨n + 1, by go_num, by omega, by omega, ⟨⟨_, _, HQq.out⟩⟩⟩
                  case measure => simp [intOf]; omega
        · have h6 : n = 60 := by omega
          subst h6
          go_wp2
          go_ret
          obtain ⟨_, _, hq⟩ := HR.out
          exact ⟨rfl, hq.bel⟩
      · have h6 : n = l2.length := by omega
        subst h6
        go_wp2
        go_ret
        obtain ⟨_, _, hq⟩ := HR.out
        exact ⟨rfl, hq.bel⟩
end Go.Proofs.Ytfaipapaiobgcaa.M
