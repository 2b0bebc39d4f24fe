/- PrimGrows: the walk. -/
import Derived.Test.YtfaipapaiobgcaaPrimK
namespace Go.Proofs.Ytfaipapaiobgcaa.M
open Go.RowKit Go.Maps Go.ChangeMaps Go.Proofs.YtfaipapaiobgcaaW.PrintWords Go.Proofs.YtfaipapaiobgcaaW.PrintLast Go.Proofs.YtfaipapaiobgcaaW.PrintMore Go.Proofs.Ytfaipapaiobgcaa.PPrimPlays
set_option linter.unusedVariables false
set_option linter.unusedSimpArgs false
theorem R_lit0 (w : World) (x : Int) : Kd.R (Kd.int .i64) 3 (w.alloc (.cells #[.int .i64 x] 3)) w.heap.size (fun k => w.heap.size ≤ k) (.slice (some ⟨w.heap.size, 0, none⟩) 1 1) [x] := by
  refine Kd.R_of_own ⟨rfl, .inr ⟨w.heap.size, 1, #[.int .i64 x], rfl, Nat.le_refl _, heap_alloc_new w _, Nat.le_refl _, by unfold maxLen; omega, rfl, rfl⟩⟩ (fun k hk => ?_)
  have : w.heap.size = k := by simpa [Value.ownBlock] using hk
  omega
theorem u8_cell {w : World} {A : Option Addr} {xs : List Int} (h : Kd.C (Kd.int .u8) w A xs.length xs) (i : Nat) (hi : i < xs.length) : ∃ ad, A = some ad ∧ w.cell? (ad.add i) = some (.int .u8 xs[i]) := by
  obtain ⟨ad, e, hc⟩ := Kd.at_int h (i : Int) (by omega) (by omega)
  refine ⟨ad, e, ?_⟩
  rw [Int.toNat_natCast] at hc
  rw [hc]
  unfold Go.Proofs.YtfaipapaiobgcaaW.PrintWords.rd
  rw [Int.toNat_natCast, List.getD_eq_getElem?_getD, List.getElem?_eq_getElem hi]; rfl
def uT (t : Nat) : Int := if t = 0 then 0 else 51 * ((t : Int) - 1)
def lastT (n : Int) (l : List Int) (t : Nat) : Int := if t = 0 then 0 else sureU n l (51 * ((t : Int) - 1))
set_option maxHeartbeats 8000000 in
theorem grows_any (A : Option Addr) (c : Nat) (l : List Int) (ln : Int) (w : World) (hC : Kd.C (Kd.int .u8) w A l.length l) (hc : l.length ≤ c) (hm : l.length ≤ 4) (hl : ∀ h ∈ l, 0 ≤ h ∧ h ≤ 255) (h3 : 0 ≤ ln) (h4 : ln ≤ 255) :
    Calls Try.prog 3 #[.slice A l.length c, .int .u8 ln] w fun e w' => e = .returned (.bool true) ∧ Below w.heap.size w w' := by
  have HC := Aside0.mk hC
  have HL := Aside0.mk hl
  clear hC hl
  have e4 : decide (4 < l.length) = false := decide_eq_false (by omega)
  go_enter Try.func3, Try.ntmps3
  go_wp2_with fail
  refine (awake_any _).mono ?_
  rintro e w1 ⟨rfl, hB⟩
  have HB := Aside0.mk hB
  clear hB
  go_wp2
  clear e4
  go_loopw [5, 6] (fun v i wq => ∃ j : Nat, i = .int .i64 j ∧ j ≤ l.length ∧ Aside0 (Kd.R (Kd.int .i64) 3 wq w1.heap.size (fun k => w1.heap.size ≤ k) v (ins j)) ∧ Aside0 (Below w1.heap.size w1 wq)) (fun _ i _ => l.length - (intOf i).toNat)
  case atStart => exact ⟨0, rfl, Nat.zero_le _, ⟨R_lit0 w1 0⟩, ⟨(Below.refl _ _).alloc (Nat.le_refl _) _⟩⟩
  case round =>
    obtain ⟨j, rfl, hj, HR, HBq⟩ := hrel
    have hil := ins_len j
    by_cases hlt : j < l.length
    · have HIL := Aside0.mk hil
      clear hil
      have hjw : wrap64 ((j : Int) + 1) = (j : Int) + 1 := by unfold wrap64; omega
      have HJW := Aside0.mk hjw
      clear hjw
      go_wp2_with (first | ((with_reducible refine gate_builtin (b := .append) (xs := #[.tmp 30, .tmp 33]) rfl ?_); at_builtin; refine Kd.R_append (Kd.int .i64) w1.heap.size rfl (.tmp 30) (.tmp 33) 24 3 (.int .i64 0) 8 rfl Try.underlying24 info3 rfl (by decide) (by omega) _ (ins j) ((j : Int) + 1) [.int .i64 ((j : Int) + 1)] (fun k => w1.heap.size ≤ k) (fun _ => False) rfl (by first | (go_simp; done) | (go_simp; rfl)) rfl (fun _ hk => hk.elim) (fun k hk => Nat.le_trans HBq.out.size hk) HR.out HBq.out HBq.out.size (by rw [HIL.out]; omega) ?_; intro v1 w2 ho hb hg hat; have HO2 := Aside0.mk ho; have HB2 := Aside0.mk hb; clear ho hb hg hat))
      go_roundw
      case rel => exact ⟨j + 1, by go_num, by omega, ⟨by rw [ins_snoc]; exact HO2.out⟩, HB2⟩
      case measure => simp [intOf]; omega
    · have hjl : j = l.length := by omega
      subst hjl
      obtain ⟨A5, c5, e5⟩ := Kd.R_slice HR.out
      subst e5
      have HIL := Aside0.mk hil
      clear hil hj hlt
      rename World => wa
      go_wp2_with fail
      refine (ps_new (w0 := w) (E := fun _ => False) (fun _ h => h.elim) (HB.out.trans (HBq.out.mono HB.out.size)) 0 7 0 ⟨by omega, by omega⟩ (Kd.R_reads' HR.out).2.2 (Kd.R_reads' HR.out).2.1 (fun ad e => by subst e; exact Kd.R_lt HR.out _ rfl) (by rw [HIL.out]; omega) (fun x hx => by have := (ins_mem _ _).1 hx; omega)).mono ?_
      rintro e w2 ⟨B, rfl, hP, _⟩
      rw [new_G] at hP
      have HP := Aside0.mk hP
      clear hP
      go_wp2
      clear HBq HR
      go_loopw [9, 11] (fun le i wq => ∃ j : Nat, i = .int .i64 j ∧ j ≤ l.length ∧ le = .int .i64 (leastL ln (l.take j)) ∧ Aside0 (PS w (fun _ => False) wq B 0 7 0 (fG (psA l j)))) (fun _ i _ => l.length - (intOf i).toNat)
      case atStart => exact ⟨0, rfl, Nat.zero_le _, rfl, ⟨by rw [show psA l 0 = List.replicate l.length (false, 0) by simp [psA]]; exact HP.out⟩⟩
      case round =>
        obtain ⟨j, rfl, hj, rfl, HPq⟩ := hrel
        by_cases hlt : j < l.length
        · have hC : Kd.C (Kd.int .u8) wr A l.length l := Kd.C_below HC.out HPq.out.choose_spec.2.2.2
          have hC2 := hC
          obtain ⟨ad, rfl, hcl⟩ := u8_cell hC j hlt
          have hjw : wrap64 ((j : Int) + 1) = (j : Int) + 1 := by unfold wrap64; omega
          have HJW := Aside0.mk hjw
          clear hjw
          have htk : l.take (j + 1) = l.take j ++ [l[j]] := List.take_succ_eq_append_getElem hlt
          have hlj := HL.out l[j] (List.getElem_mem hlt)
          have hnx := psA_next l j hlt
          have hf : fG (psA l j) ((j : Int) + 1) = some ⟨true, false, 0, false, 0⟩ := by
            have := fG_at (psA l j) j (by rw [psA_len l j hj]; exact hlt)
            rw [this, show (psA l j)[j]'(by rw [psA_len l j hj]; exact hlt) = (false, 0) from by have := hnx.1; rw [List.getElem?_eq_some_iff] at this; exact this.2]
          have HCELL : Aside0 (∀ W, Below w.heap.size w W → W.cell? (ad.add j) = some (.int .u8 l[j])) := ⟨fun W hb => by
            obtain ⟨ad', e, h⟩ := u8_cell (Kd.C_below HC.out hb) j hlt
            rw [Option.some.inj e]; exact h⟩
          have HF := Aside0.mk hf
          have HTK := Aside0.mk htk
          have HNX := Aside0.mk hnx.2
          have hset : setF (fG (psA l j)) ((j : Int) + 1) ⟨true, false, 0, true, max 0 l[j]⟩ = fG (psA l (j + 1)) := by
            rw [show max 0 l[j] = l[j] by omega]
            have := fG_set (psA l j) j (by rw [psA_len l j hj]; exact hlt) (true, l[j])
            rw [hnx.2] at this
            exact this
          have HSET := Aside0.mk hset
          clear htk hnx hf hset hC
          generalize l[j] = y at hcl hlj HTK HNX HSET HCELL
          go_wp2_with fail
          refine (ps_sure HPq.out ln ⟨by omega, by omega⟩).mono ?_
          rintro e w3 ⟨rfl, hP, _⟩
          rw [sure_G _ (by rw [psA_len l j hj]; exact hm), psA_sure l j hlt]
          have hcl3 := HCELL.out w3 hP.choose_spec.2.2.2
          have HP3 := Aside0.mk hP
          clear hP HPq hcl
          go_wp2_with fail
          refine (ps_has HP3.out HF.out y hlj.1 (by omega)).mono ?_
          rintro e w4 ⟨rfl, hP, _⟩
          rw [HSET.out] at hP
          have hcl4 := HCELL.out w4 hP.choose_spec.2.2.2
          have HP4 := Aside0.mk hP
          clear hP HP3 hcl3
          have HLE : Aside0 (leastL ln (l.take (j + 1)) = min (leastL ln (l.take j)) y) := ⟨by rw [HTK.out]; unfold leastL; rw [List.foldl_append]; rfl⟩
          generalize leastL ln (l.take j) = le at HLE ⊢
          by_cases hy : y < le
          all_goals
            go_wp2
            go_roundw
            case rel => exact ⟨j + 1, by go_num, by omega, by rw [HLE.out]; congr 1; omega, HP4⟩
            case measure => simp [intOf]; omega
        · have hjl : j = l.length := by omega
          subst hjl
          clear hj hlt
          rename World => wb
          have hge : 0 ≤ leastL ln l := leastL_ge l ln 0 h3 (fun h hh => (HL.out h hh).1)
          have hle : leastL ln l ≤ ln := leastL_le l ln
          have hpe := psA_end l (fun h hh => (HL.out h hh).1)
          have HS : Aside0 (sureL (psA l l.length) ln = leastL ln l) := ⟨by
            rw [hpe, sureU_eq ln l 0 h3 (Int.le_refl _)]
            unfold sureU
            congr 1
            rw [List.map_congr_left (g := id) (fun h hh => by have := (HL.out h hh).1; show max h 0 = h; omega), List.map_id]⟩
          have HPE := Aside0.mk hpe
          clear hpe
          rw [List.take_length]
          go_wp2_with fail
          refine (ps_sure HPq.out ln ⟨by omega, by omega⟩).mono ?_
          rintro e w3 ⟨rfl, hP, _⟩
          rw [sure_G _ (by rw [psA_len l _ (Nat.le_refl _)]; exact hm), HS.out]
          rw [HPE.out] at hP
          have HP3 := Aside0.mk hP
          clear hP HPq
          go_wp2
          clear HS hge hle HPE
          go_loopw [10, 12] (fun la v wq => ∃ t : Nat, v = .int .i64 (51 * (t : Int)) ∧ t ≤ 6 ∧ la = .int .i64 (lastT ln l t) ∧ Aside0 (PS w (fun _ => False) wq B 0 7 0 (fG (l.map fun h => (true, max h (uT t)))))) (fun _ v _ => (306 - intOf v).toNat)
          case atStart => exact ⟨0, rfl, by omega, rfl, HP3⟩
          case round =>
            obtain ⟨t, rfl, ht, rfl, HPt⟩ := hrel
            rename World => wt
            have hut : 0 ≤ uT t ∧ uT t ≤ 51 * (t : Int) := by unfold uT; split <;> omega
            have hk1 := sureU_le ln l (51 * (t : Int))
            have hk0 := sureU_nn ln l (51 * (t : Int)) h3 (by omega)
            have hla : 0 ≤ lastT ln l t ∧ lastT ln l t ≤ ln := by
              unfold lastT
              split
              · omega
              · exact ⟨sureU_nn ln l _ h3 (by omega), sureU_le _ _ _⟩
            by_cases h5 : t ≤ 5
            · have hge : lastT ln l t ≤ sureU ln l (51 * (t : Int)) := by
                unfold lastT
                split
                · exact hk0
                · exact leastL_mono l _ _ _ _ (by omega) (Int.le_refl _)
              have HSU := Aside0.mk (sureU_eq ln l (51 * (t : Int)) h3 (by omega))
              have hnext : lastT ln l (t + 1) = sureU ln l (51 * (t : Int)) ∧ uT (t + 1) = 51 * (t : Int) := by
                unfold lastT uT
                rw [if_neg (by omega), if_neg (by omega), show (((t + 1 : Nat) : Int) - 1) = (t : Int) by omega]
                exact ⟨rfl, rfl⟩
              have HNX := Aside0.mk hnext
              clear hnext
              have hle5 : 51 * (t : Int) ≤ 255 := by omega
              generalize lastT ln l t = la at hla hge ⊢
              generalize hK : sureU ln l (51 * (t : Int)) = K at hk1 hk0 hge HSU HNX
              clear hK
              have b1 : decide (K < la) = false := decide_eq_false (by omega)
              have b2 : decide (ln < K) = false := decide_eq_false (by omega)
              have HB1 := Aside0.mk b1
              have HB2 := Aside0.mk b2
              clear b1 b2
              go_wp2
              go_loopw [13] (fun i wq => ∃ j : Nat, i = .int .i64 j ∧ j ≤ l.length ∧ Aside0 (PS w (fun _ => False) wq B 0 7 0 (fG (psB l (uT t) (51 * (t : Int)) j)))) (fun i _ => l.length - (intOf i).toNat)
              case atStart => exact ⟨0, rfl, Nat.zero_le _, ⟨by rw [psB_start]; exact HPt.out⟩⟩
              case round =>
                obtain ⟨j, rfl, hj, HPq⟩ := hrel
                by_cases hlt : j < l.length
                · have hjw : wrap64 ((j : Int) + 1) = (j : Int) + 1 := by unfold wrap64; omega
                  have HJW := Aside0.mk hjw
                  clear hjw
                  have hnx := psB_next l (uT t) (51 * (t : Int)) j hlt hut.2
                  have hf : fG (psB l (uT t) (51 * (t : Int)) j) ((j : Int) + 1) = some ⟨true, false, 0, true, max l[j] (uT t)⟩ := by
                    have := fG_at (psB l (uT t) (51 * (t : Int)) j) j (by rw [psB_len]; exact hlt)
                    rw [this, show (psB l (uT t) (51 * (t : Int)) j)[j]'(by rw [psB_len]; exact hlt) = (true, max l[j] (uT t)) from by have := hnx.1; rw [List.getElem?_eq_some_iff] at this; exact this.2]
                  have hset : setF (fG (psB l (uT t) (51 * (t : Int)) j)) ((j : Int) + 1) ⟨true, false, 0, true, max (max l[j] (uT t)) (51 * (t : Int))⟩ = fG (psB l (uT t) (51 * (t : Int)) (j + 1)) := by
                    have := fG_set (psB l (uT t) (51 * (t : Int)) j) j (by rw [psB_len]; exact hlt) (true, max (max l[j] (uT t)) (51 * (t : Int)))
                    rw [hnx.2] at this
                    exact this
                  have HF := Aside0.mk hf
                  have HSET := Aside0.mk hset
                  clear hf hset hnx
                  go_wp2_with fail
                  refine (ps_has HPq.out HF.out (51 * (t : Int)) (by omega) (by omega)).mono ?_
                  rintro e w4 ⟨rfl, hP, _⟩
                  rw [HSET.out] at hP
                  have HP4 := Aside0.mk hP
                  clear hP HPq
                  go_wp2
                  go_roundw
                  case rel => exact ⟨j + 1, by go_num, by omega, HP4⟩
                  case measure => simp [intOf]; omega
                · have hjl : j = l.length := by omega
                  subst hjl
                  go_wp2_with fail
                  refine (ps_sure HPq.out ln ⟨by omega, by omega⟩).mono ?_
                  rintro e w5 ⟨rfl, hP, _⟩
                  rw [sure_G _ (by rw [psB_len]; exact hm), psB_end, HSU.out]
                  rw [psB_end] at hP
                  have HP5 := Aside0.mk hP
                  clear hP HPq
                  have b1 := HB1.out
                  have b2 := HB2.out
                  go_wp2
                  go_roundw
                  case rel => exact ⟨t + 1, by (first | go_num | (congr 1; omega)), by omega, by rw [HNX.out.1], ⟨by rw [HNX.out.2]; exact HP5.out⟩⟩
                  case measure => simp [intOf]; omega
            · have h6 : t = 6 := by omega
              subst h6
              have hu : uT 6 = 255 := rfl
              have hla6 : lastT ln l 6 = ln := by
                show sureU ln l (51 * (((6 : Nat) : Int) - 1)) = ln
                exact sureU_top ln l h4
              rw [hla6]
              have hP6 := HPt.out
              rw [hu] at hP6
              have HP6 := Aside0.mk hP6
              have HS6 : Aside0 (sureL (l.map fun h => (true, max h 255)) ln = ln) := ⟨by rw [sureU_eq ln l 255 h3 (by omega), sureU_top ln l h4]⟩
              clear hla hk1 hk0 hut hu hla6 hP6 HPt
              have hlen : (l.map fun h => ((true, max h 255) : AH)).length = l.length := List.length_map ..
              have HLEN := Aside0.mk hlen
              clear hlen
              by_cases h4l : l.length < 4
              · have hjw : wrap64 ((l.length : Int) + 1) = (l.length : Int) + 1 := by unfold wrap64; omega
                have HJW := Aside0.mk hjw
                clear hjw
                go_wp2_with fail
                refine (ps_join HP6.out ((l.length : Int) + 1) (by omega) (by omega) (by omega) (by rw [← HLEN.out]; exact fG_end _)).mono ?_
                rintro e w7 ⟨rfl, hP, _⟩
                have HP7 := Aside0.mk hP
                clear hP HP6
                go_wp2_with fail
                refine (ps_sure HP7.out ln ⟨by omega, by omega⟩).mono ?_
                rintro e w8 ⟨rfl, hP, _⟩
                rw [show sureV (setF (fG (l.map fun h => ((true, max h 255) : AH))) ((l.length : Int) + 1) zeroPe) ln = ln from by rw [← HLEN.out, sure_GJ _ (by rw [HLEN.out]; omega), HS6.out]]
                have HP8 := Aside0.mk hP
                clear hP HP7
                go_wp2
                go_ret
                exact ⟨rfl, HP8.out.choose_spec.2.2.2⟩
              · go_wp2_with fail
                refine (ps_sure HP6.out ln ⟨by omega, by omega⟩).mono ?_
                rintro e w8 ⟨rfl, hP, _⟩
                rw [sure_G _ (by rw [HLEN.out]; omega), HS6.out]
                have HP8 := Aside0.mk hP
                clear hP HP6
                go_wp2
                go_ret
                exact ⟨rfl, HP8.out.choose_spec.2.2.2⟩
theorem primGrows_law (A : Option Addr) (c : Nat) (l : List Int) (ln : Int) (W : World) (hC : Kd.C (Kd.int .u8) W A l.length l) (hc : l.length ≤ c) (h1 : l.length * 1 ≤ 140737488351232 ∧ ∀ y ∈ l, (Lit.int .u8 y).wf = true) (h2 : (Lit.int .u8 ln).wf = true) :
    Calls Try.prog 3 #[.slice A l.length c, .int .u8 ln] W fun e w' => e = .returned (.bool true) ∧ Below W.heap.size W w' := by
  have hl : 0 ≤ ln ∧ ln ≤ 255 := by simpa [Lit.wf, IntKind.min, IntKind.max, IntKind.signed, IntKind.bits] using h2
  by_cases hm : l.length ≤ 4
  · exact grows_any A c l ln W hC hc hm (fun h hh => by simpa [Lit.wf, IntKind.min, IntKind.max, IntKind.signed, IntKind.bits] using h1.2 h hh) hl.1 hl.2
  · have e1 : decide (4 < l.length) = true := decide_eq_true (by omega)
    have h10 := h1.1
    clear h1
    go_enter Try.func3, Try.ntmps3
    go_wp2_with fail
    refine (awake_any _).mono ?_
    rintro e w1 ⟨rfl, hB⟩
    have HB := Aside0.mk hB
    clear hB
    go_wp2_with fail
    refine (awake_any _).mono ?_
    rintro e w2 ⟨rfl, hB⟩
    have HB2 := Aside0.mk hB
    clear hB
    go_wp2
    go_ret
    exact ⟨rfl, HB.out.trans (HB2.out.mono HB.out.size)⟩
end Go.Proofs.Ytfaipapaiobgcaa.M
