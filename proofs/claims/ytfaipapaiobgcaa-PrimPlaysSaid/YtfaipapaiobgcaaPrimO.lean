/- The law PrimPlays. -/
import Derived.Test.YtfaipapaiobgcaaPrimN
namespace Go.Proofs.Ytfaipapaiobgcaa.M
open Go.RowKit Go.Maps Go.ChangeMaps Go.Proofs.YtfaipapaiobgcaaW.PrintWords Go.Proofs.YtfaipapaiobgcaaW.PrintLast Go.Proofs.YtfaipapaiobgcaaW.PrintMore Go.Proofs.Ytfaipapaiobgcaa.PPrimPlays
set_option linter.unusedVariables false
set_option linter.unusedSimpArgs false
def PlayR (W : World) (X Y B : Nat) (me tm : Int) (wq : World) : Prop := ∃ rv f, JS (fun _ => False) W wq B X Y me tm rv f
def BoxAt (w : World) (b : Nat) (z : S42) (A : Option Addr) (c : Nat) : Prop := w.heap[b]? = some (.cells #[.int .u8 z.f0, .int .u64 z.f1, .slice A z.f2.length c, .int .i64 z.f3, .int .i64 z.f4] 42 (0, 0))
def Box5 (w : World) (b : Nat) (z : S42) (A : Option Addr) (c : Nat) : Prop := w.cell? ⟨b, 0, none⟩ = some (.int .u8 z.f0) ∧ w.cell? ⟨b, 1, none⟩ = some (.int .u64 z.f1) ∧ w.cell? ⟨b, 2, none⟩ = some (.slice A z.f2.length c) ∧ w.cell? ⟨b, 3, none⟩ = some (.int .i64 z.f3) ∧ w.cell? ⟨b, 4, none⟩ = some (.int .i64 z.f4)
theorem BoxAt.five {w : World} {b : Nat} {z : S42} {A : Option Addr} {c : Nat} (h : BoxAt w b z A c) : Box5 w b z A c := ⟨blk_cell h 0, blk_cell h 1, blk_cell h 2, blk_cell h 3, blk_cell h 4⟩
theorem BoxAt.below {w w' : World} {b : Nat} {z : S42} {A : Option Addr} {c : Nat} (h : BoxAt w b z A c) (hb : Below w.heap.size w w') : BoxAt w' b z A c := (hb.block b (blk_lt h)).trans h
theorem JS.fresh {E : Nat → Prop} {w0 w : World} {B X Y : Nat} {me tm rv : Int} {f : PF} (h : JS E w0 w B X Y me tm rv f) (o : Obj) : JS (fun k => k = w.heap.size) w0 (w.alloc o) B X Y me tm rv f :=
  ⟨(h.ps.box o 0).weaken (fun k hk => hk.elim (fun h => .inl (.inl h)) .inr), h.xa.alloc o, h.no, h.nn, h.xy⟩
theorem JS.drop {E : Nat → Prop} {w0 w : World} {B X Y : Nat} {me tm rv : Int} {f : PF} (h : JS E w0 w B X Y me tm rv f) : JS (fun _ => False) w0 w B X Y me tm rv f :=
  ⟨h.ps.weaken (fun k hk => hk.elim .inl False.elim), h.xa, h.no, h.nn, h.xy⟩
theorem PlayR.bel {W : World} {X Y B : Nat} {me tm : Int} {wq : World} (h : PlayR W X Y B me tm wq) : Below W.heap.size W wq := h.choose_spec.choose_spec.bel
theorem same_R {A A2 : Option Addr} {c c2 : Nat} {xs : List Int} {w : World} (hC : Kd.C (Kd.int .i64) w A xs.length xs) (hC2 : Kd.C (Kd.int .i64) w A2 xs.length xs) (hl : xs.length ≤ 5) :
    Calls Try.prog 20 #[.slice A xs.length c, .slice A2 xs.length c2] w fun e w' => e = .returned (.bool true) ∧ ∃ n, w' = w.drewN n := same_any hC hC2 (by omega)
set_option maxRecDepth 100000 in
set_option maxHeartbeats 8000000 in
theorem primPlays_law (me tm rv : Int) (A : Option Addr) (c : Nat) (l : List Int) (A2 : Option Addr) (c2 : Nat) (l2 : List S42) (ln : Int) (W : World) (hC : Kd.C (Kd.int .i64) W A l.length l) (hc : l.length ≤ c) (hC2 : Kd.C k42 W A2 l2.length l2) (hc2 : l2.length ≤ c2)
    (h1 : (Lit.int .u8 me).wf = true) (h0 : (Lit.int .u64 tm).wf = true) (h2 : (Lit.int .u64 rv).wf = true) (h3 : l.length * 8 ≤ 140737488351232 ∧ ∀ y ∈ l, (Lit.int .i64 y).wf = true) (h4 : l2.length * 56 ≤ 140737488351232 ∧ ∀ y ∈ l2, okA y) (h5 : (Lit.int .i64 ln).wf = true) :
    Calls Try.prog 6 #[.int .u8 me, .int .u64 tm, .int .u64 rv, .slice A l.length c, .slice A2 l2.length c2, .int .i64 ln] W fun e w' => e = .returned (.bool true) ∧ Below W.heap.size W w' := by
  have b1 := wf_u8 h1
  have b2 := wf_u64 h2
  have b5 := wf_i64 h5
  have HC := Aside0.mk hC
  have HC2 := Aside0.mk hC2
  have hl2 : l2.length ≤ 140737488351232 := by omega
  have hl1 : l.length ≤ 140737488351232 := by omega
  have H4 := Aside0.mk h4.2
  clear hC hC2 h0 h1 h2 h3 h4 h5
  go_enter Try.func6, Try.ntmps6
  go_wp2_with fail
  refine (awake_any _).mono ?_
  rintro e w1 ⟨rfl, hB1⟩
  have HB1 := Aside0.mk hB1
  clear hB1
  go_wp2_with fail
  refine (fits_any (Kd.C_below HC.out HB1.out) hc hl1).mono ?_
  rintro e w2 ⟨rfl, nd, rfl⟩
  have HB2 : Aside0 (Below W.heap.size W (w1.drewN nd)) := ⟨pw_below_drewN HB1.out nd⟩
  clear HB1
  generalize w1.drewN nd = w2 at *
  cases hf : fitB l
  · have HF := Aside0.mk hf
    clear hf
    go_wp2_with fail
    refine (awake_any _).mono ?_
    rintro e w3 ⟨rfl, hB3⟩
    have HB3 := Aside0.mk hB3
    clear hB3
    go_wp2
    go_ret
    exact ⟨rfl, HB2.out.trans (HB3.out.mono HB2.out.size)⟩
  · have HX := Aside0.mk (fit_mem hf)
    clear hf
    go_wp2_with fail
    refine (ps_new (w0 := W) (E := fun _ => False) (fun _ h => h.elim) HB2.out (me % 5) tm rv b2 (Kd.C_below HC.out HB2.out) hc (fun ad e h0 => by subst e; exact Nat.lt_of_lt_of_le (Kd.C_lt HC.out h0 (by decide)) HB2.out.size) hl1 HX.out).mono ?_
    rintro e w3 ⟨B, rfl, hP3, _⟩
    have HP3 := Aside0.mk hP3
    have HB3 := Aside0.mk hP3.choose_spec.2.2.2
    clear hP3
    go_wp2_with fail
    refine (xnew_any (me % 5) rv (Kd.C_below HC.out HB3.out) hc (fun ad e h0 => by subst e; exact Nat.lt_of_lt_of_le (Kd.C_lt HC.out h0 (by decide)) HB3.out.size) hl1).mono ?_
    rintro e w4 ⟨X, Y, rfl, hX1, hY1, hXA, hB4⟩
    have hXY : X < w4.heap.size ∧ Y < w4.heap.size := ⟨blk_lt hXA.hd, by obtain ⟨_, h, _⟩ := hXA.bl; exact blk_lt h⟩
    have hJ : PlayR W X Y B (me % 5) tm w4 := by
      refine ⟨rv, tabF (me % 5) rv l f0, (HP3.out.add hB4 ⟨hX1, hXY.1⟩ ⟨hY1, hXY.2⟩).weaken (fun k h => h.elim id False.elim), ?_, tab_no rfl, tab_nn (fun k p h => by cases h), ⟨Nat.le_trans HB3.out.size hX1, Nat.le_trans HB3.out.size hY1⟩⟩
      rw [tab_both (f := f0) rfl (fun _ _ => rfl) HX.out] at hXA
      exact hXA
    have HJ := Aside0.mk hJ
    clear hJ hX1 hY1 hXA hB4 hXY HP3
    go_wp2
    go_loopw [16] (fun i wq => ∃ n : Nat, i = .int .i64 n ∧ n ≤ l2.length ∧ n ≤ 60 ∧ Aside0 (PlayR W X Y B (me % 5) tm wq)) (fun i _ => 60 - (intOf i).toNat)
    case atStart => exact ⟨0, rfl, Nat.zero_le _, by omega, HJ⟩
    case round =>
      obtain ⟨n, rfl, hn, hn6, HR⟩ := hrel
      by_cases hlt : n < l2.length
      · by_cases h60 : n < 60
        · obtain ⟨rvq, f, hq⟩ := HR.out
          have HQ := Aside0.mk hq
          clear HR hq
          generalize hz : l2[n] = z
          obtain ⟨ad, A1, c1, rfl, e0, e1, e2, e3, e4, hc1, hCz, hAz, had⟩ := act_in HC2.out HQ.out.bel n hlt z hz
          have HZ := Aside0.mk (H4.out z (hz ▸ List.getElem_mem hlt))
          have hzl : z.f2.length ≤ 140737488351232 := by have := HZ.out.2.2.1.1; omega
          have b4 : -9223372036854775808 ≤ z.f4 ∧ z.f4 ≤ 9223372036854775807 := wf_i64 HZ.out.2.2.2.2
          have HB4 := Aside0.mk b4
          have HCZ := Aside0.mk hCz
          have HAZ := Aside0.mk hAz
          clear hz hCz hAz b4
          have HQ1 := Aside0.mk (HQ.out.fresh (.cells #[.int .u8 z.f0, .int .u64 z.f1, .slice A1 z.f2.length c1, .int .i64 z.f3, .int .i64 z.f4] 42))
          have HBX : Aside0 (BoxAt (wr.alloc (.cells #[.int .u8 z.f0, .int .u64 z.f1, .slice A1 z.f2.length c1, .int .i64 z.f3, .int .i64 z.f4] 42)) wr.heap.size z A1 c1) := ⟨heap_alloc_new wr _⟩
          have HC5 := Aside0.mk (Kd.C_alloc HCZ.out (.cells #[.int .u8 z.f0, .int .u64 z.f1, .slice A1 z.f2.length c1, .int .i64 z.f3, .int .i64 z.f4] 42))
          go_wp2_with fail
          refine (fits_any HC5.out hc1 hzl).mono ?_
          rintro e w5 ⟨rfl, nd5, rfl⟩
          have HQ5 := Aside0.mk (HQ1.out.keep (w1 := (wr.alloc (.cells #[.int .u8 z.f0, .int .u64 z.f1, .slice A1 z.f2.length c1, .int .i64 z.f3, .int .i64 z.f4] 42)).drewN nd5) ⟨rfl, rfl, rfl, Nat.le_refl _, fun _ _ => rfl⟩)
          have HCW := Aside0.mk (Kd.C_drewN HC5.out nd5)
          have HBW : Aside0 (BoxAt ((wr.alloc (.cells #[.int .u8 z.f0, .int .u64 z.f1, .slice A1 z.f2.length c1, .int .i64 z.f3, .int .i64 z.f4] 42)).drewN nd5) wr.heap.size z A1 c1) := ⟨HBX.out⟩
          have HNE : Aside0 (¬ (wr.heap.size = X ∨ wr.heap.size = Y)) := ⟨fun h => by
            have h1 := blk_lt HQ.out.xa.hd
            obtain ⟨_, h2, _⟩ := HQ.out.xa.bl
            have h3 := blk_lt h2
            omega⟩
          clear HQ HCZ HQ1 HBX HC5 e0 e1 e2 e3 e4
          generalize (wr.alloc (.cells #[.int .u8 z.f0, .int .u64 z.f1, .slice A1 z.f2.length c1, .int .i64 z.f3, .int .i64 z.f4] 42)).drewN nd5 = w5 at *
          generalize wr.heap.size = bx at *
          cases hfz : fitB z.f2
          · clear hfz
            go_wp2
            go_ret
            exact ⟨rfl, HQ5.out.bel⟩
          · have HFZ := Aside0.mk hfz
            clear hfz
            have HBX : Aside0 (BoxAt w5.drew bx z A1 c1) := ⟨HBW.out⟩
            have HQX : Aside0 (JS (fun k => k = bx) W w5.drew B X Y (me % 5) tm rvq f) := ⟨HQ5.out.keep ⟨rfl, rfl, rfl, Nat.le_refl _, fun _ _ => rfl⟩⟩
            have HCX := Aside0.mk (Kd.C_drew HCW.out)
            clear HBW HQ5 HCW
            go_wp2_with fail
            go_region_held3 (fun W' => W'.cell? ⟨bx, 0, none⟩ = some (.int .u8 z.f0) ∧ W'.cell? ⟨bx, 1, none⟩ = some (.int .u64 z.f1) ∧ W'.cell? ⟨bx, 2, none⟩ = some (.slice A1 z.f2.length c1) ∧ W'.cell? ⟨bx, 3, none⟩ = some (.int .i64 z.f3) ∧ W'.cell? ⟨bx, 4, none⟩ = some (.int .i64 z.f4)) (exact HBX.out.five) (first
              | (go_at_call 19
                 refine (do_any HQX.out z A1 c1 HCX.out hc1 HAZ.out HFZ.out HZ.out).mono ?_
                 rintro e w6 ⟨rfl, rv6, f6, hq6, hf6⟩
                 have HBX6 : Aside0 (BoxAt w6 bx z A1 c1) := ⟨(hf6.2 bx rfl HNE.out (blk_lt HBX.out)).trans HBX.out⟩
                 have HBX := HBX6
                 have HQX := Aside0.mk hq6
                 clear hq6 hf6 HBX6)
              | (go_at_call 14
                 refine (ps_peers HQX.out.ps).mono ?_
                 rintro e w6 ⟨v, rfl, hR, _, hB⟩
                 obtain ⟨A5, c5, rfl⟩ := Kd.R_slice hR
                 have HRP := Aside0.mk hR
                 have HBX := Aside0.mk (HBX.out.below hB)
                 have HQX := Aside0.mk (HQX.out.old hB)
                 clear hR hB)
              | (go_at_call 16
                 refine (ps_needs HQX.out.ps).mono ?_
                 rintro e w6 ⟨v, rfl, hR, _, hB⟩
                 obtain ⟨A5, c5, rfl⟩ := Kd.R_slice hR
                 have HRP := Aside0.mk hR
                 have HBX := Aside0.mk (HBX.out.below hB)
                 have HQX := Aside0.mk (HQX.out.old hB)
                 clear hR hB)
              | (go_at_call 21
                 refine (xpeers_any HQX.out.xa _).mono ?_
                 rintro e w6 ⟨v, rfl, hR, hB⟩
                 first | rw [pk_ks] at hR | rw [pk_needs] at hR
                 obtain ⟨A6, c6, rfl⟩ := Kd.R_slice hR
                 have HRX := Aside0.mk hR
                 have HRP := Aside0.mk (Kd.R_below HRP.out hB)
                 have HBX := Aside0.mk (HBX.out.below hB)
                 have HQX := Aside0.mk (HQX.out.old hB)
                 clear hR hB)
              | (go_at_call 20
                 refine (same_R (Kd.R_reads' HRP.out).2.2 (Kd.R_reads' HRX.out).2.2 (by first | exact List.length_filter_le _ nodes | exact Nat.le_trans (List.length_filter_le _ _) (List.length_filter_le _ nodes))).mono ?_
                 rintro e w6 ⟨rfl, nn, rfl⟩
                 have HBX := Aside0.mk (HBX.out.below (w' := _) (pw_below_drewN (Below.refl _ _) nn))
                 have HQX := Aside0.mk (HQX.out.old (pw_below_drewN (Below.refl _ _) nn)))
              | (go_at_call 10
                 refine (ps_sure HQX.out.ps _ ?hb).mono ?_
                 case hb => first | exact b5 | exact HB4.out
                 rintro e w6 ⟨rfl, _, hB⟩
                 have HBX := Aside0.mk (HBX.out.below hB)
                 have HQX := Aside0.mk (HQX.out.old hB)
                 clear hB)
              | (go_at_call 22
                 refine (xsure_any HQX.out.xa _).mono ?_
                 rintro e w6 ⟨rfl, hB⟩
                 have HBX := Aside0.mk (HBX.out.below hB)
                 have HQX := Aside0.mk (HQX.out.old hB)
                 clear hB)
              | (go_at_call 23
                 refine (ps_term HQX.out.ps).mono ?_
                 rintro e w6 ⟨rfl, rfl⟩))
            have HJJ := Aside0.mk HQX.out.drop
            go_wp2
            go_loopw [18] (fun i wq => ∃ k : Nat, i = .int .i64 k ∧ k ≤ 5 ∧ Aside0 (JS (fun _ => False) W wq B X Y (me % 5) tm rv6 f6)) (fun i _ => 5 - (intOf i).toNat)
            case atStart => exact ⟨0, rfl, by omega, HJJ⟩
            case round =>
              obtain ⟨k, rfl, hk, HQq⟩ := hrel
              by_cases hk5 : k < 5
              · have hkI : (k : Int) < 5 := by omega
                have hwf : (Lit.int .i64 (k : Int)).wf = true := by simp [Lit.wf, IntKind.min, IntKind.max, IntKind.signed, IntKind.bits]; omega
                have HWF := Aside0.mk hwf
                clear hwf
                cases hfn : f6 (k : Int) with
                | none =>
                  have HL : Aside0 (lackF f6 (k : Int) = .tuple #[.int .i64 0, .bool false]) := ⟨by unfold lackF; rw [hfn]⟩
                  have HFN := Aside0.mk hfn
                  clear hfn
                  go_wp2_with fail
                  refine (ps_lacks HQq.out.ps HWF.out).mono ?_
                  rintro e w9 ⟨rfl, nn, rfl⟩
                  rw [HL.out]
                  have HQ9 := Aside0.mk (HQq.out.keep (w1 := wr.drewN nn) ⟨rfl, rfl, rfl, Nat.le_refl _, fun _ _ => rfl⟩)
                  generalize wr.drewN nn = w9 at *
                  have z2 : w9.cell? ⟨X, 2, none⟩ = some (.slice (some ⟨Y, 0, none⟩) 5 5) := blk_cell HQ9.out.xa.hd 2
                  have x3 := (HQ9.out.xa.cell k 3 hk5 (by omega)).1
                  have x5 := (HQ9.out.xa.cell k 5 hk5 (by omega)).1
                  rw [HFN.out] at x3 x5
                  simp [encC] at x3 x5
                  go_wp2
                  go_roundw
                  case rel => exact ⟨k + 1, by go_num, by omega, HQ9⟩
                  case measure => simp [intOf]; omega
                | some p =>
                  have HL : Aside0 (lackF f6 (k : Int) = .tuple #[.int .i64 p.h, .bool p.a]) := ⟨by unfold lackF; rw [hfn]⟩
                  have HFN := Aside0.mk hfn
                  clear hfn
                  go_wp2_with fail
                  refine (ps_lacks HQq.out.ps HWF.out).mono ?_
                  rintro e w9 ⟨rfl, nn, rfl⟩
                  rw [HL.out]
                  have HQ9 := Aside0.mk (HQq.out.keep (w1 := wr.drewN nn) ⟨rfl, rfl, rfl, Nat.le_refl _, fun _ _ => rfl⟩)
                  generalize wr.drewN nn = w9 at *
                  have z2 : w9.cell? ⟨X, 2, none⟩ = some (.slice (some ⟨Y, 0, none⟩) 5 5) := blk_cell HQ9.out.xa.hd 2
                  have x3 := (HQ9.out.xa.cell k 3 hk5 (by omega)).1
                  have x5 := (HQ9.out.xa.cell k 5 hk5 (by omega)).1
                  rw [HFN.out] at x3 x5
                  simp [encC] at x3 x5
                  go_wp2
                  go_roundw
                  case rel => exact ⟨k + 1, by go_num, by omega, HQ9⟩
                  case measure => simp [intOf]; omega
              · have h5 : k = 5 := by omega
                subst h5
                go_wp2
                go_roundw
                case rel => exact ⟨n + 1, by go_num, by omega, by omega, ⟨⟨_, _, HQq.out⟩⟩⟩
                case measure => simp [intOf]; omega
        · have h6 : n = 60 := by omega
          subst h6
          go_wp2
          go_ret
          exact ⟨rfl, HR.out.bel⟩
      · have h6 : n = l2.length := by omega
        subst h6
        go_wp2
        go_ret
        exact ⟨rfl, HR.out.bel⟩
end Go.Proofs.Ytfaipapaiobgcaa.M
