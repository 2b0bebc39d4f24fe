/- heap.down. -/
import Derived.Test.YtaediecdpgndjaaMrgI
namespace Go.Proofs.Ytaediecdpgndjaa.M
open Go.RowKit Go.Proofs.Mg Go.Proofs.YtaediecdpgndjaaW.PrintWords Go.Proofs.YtaediecdpgndjaaW.PrintLast Go.Proofs.YtaediecdpgndjaaW.PrintMore Go.Proofs.Ytaediecdpgndjaa.PMrg0
set_option linter.unusedVariables false
set_option linter.unusedSimpArgs false
set_option maxHeartbeats 4000000 in
theorem down_any {w : World} {Q G n m cap : Nat} {g : Nat → Ln} (h : QAt w Q G n cap g) (hd : DocsAt w G n g) (hn : n ≤ 140737488351232) (hm0 : m ≤ n) (hu : DownInv lnLess g m 0) :
    Calls Try.prog 22 #[ifc Q, .int .i64 0, .int .i64 (m : Int)] w fun e w' => (∃ v, e = .returned v) ∧ ∃ g', QAt w' Q G n cap g' ∧ HP lnLess g' m ∧ Pm g g' m ∧ (∀ c, m ≤ c → g' c = g c) ∧ Kp (fun k => k = G) w w' := by
  have HQ := Aside0.mk h
  have HD := Aside0.mk hd
  have HU := Aside0.mk hu
  clear h hd hu
  go_enter Try.func22, Try.ntmps22
  go_wp2
  go_loopw [7] (fun i wq => ∃ (k : Nat) (g' : Nat → Ln), i = .int .i64 (k : Int) ∧ k ≤ n ∧ Aside0 (QAt wq Q G n cap g') ∧ Aside0 (DocsAt wq G n g') ∧ Aside0 (DownInv lnLess g' m k) ∧ Aside0 (Pm g g' m) ∧ Aside0 (∀ c, m ≤ c → g' c = g c) ∧ Aside0 (Kp (fun k => k = G) w wq)) (fun i _ => n - (intOf i).toNat)
  case atStart => exact ⟨0, g, rfl, by omega, HQ, HD, HU, ⟨Pm.refl g m⟩, ⟨fun _ _ => rfl⟩, ⟨Kp.refl _ _⟩⟩
  case round =>
    obtain ⟨k, g', rfl, hk, HQk, HDk, HUk, HPk, HFk, HKk⟩ := hrel
    have hm := meth_less wr Q _ (blk_cell HQk.out.hd 0)
    by_cases hl : m ≤ 2 * k + 1
    · go_wp2
      go_ret
      exact ⟨⟨_, rfl⟩, g', HQk.out, HUk.out.leaf lnLess hl, HPk.out, HFk.out, HKk.out⟩
    · have hc1 : 2 * k + 1 < m := by omega
      have hj1 : (2 * k + 1) < n := by omega
      have EC1 : Aside0 ((2 * (k : Int) + 1) = ((2 * k + 1 : Nat) : Int)) := ⟨by omega⟩
      have ECA : Aside0 ((2 * (k : Int) + 1 + 1) = ((2 * k + 2 : Nat) : Int)) := ⟨by omega⟩
      by_cases h2 : 2 * k + 2 < m
      · go_wp2_with fail
        rw [ECA.out, EC1.out]
        refine (less_any (HQk.out.ln (i := 2 * k + 2) (by omega) (HDk.out _ (by omega)).1) (HQk.out.ln (i := 2 * k + 1) (by omega) (HDk.out _ (by omega)).1) (by omega) (by omega) hn).mono ?_
        rintro e w1 ⟨rfl, hb⟩
        have HQ1 := Aside0.mk (HQk.out.old hb)
        have HD1 : Aside0 (DocsAt w1 G n g') := ⟨fun c hc => ⟨(HDk.out c hc).1.below hb, (HDk.out c hc).2⟩⟩
        have HK1 := Aside0.mk (HKk.out.trans (Kp.of_below hb))
        clear hm hb
        have hm := meth_less w1 Q _ (blk_cell HQ1.out.hd 0)
        rw [← ECA.out, ← EC1.out]
        cases hl1 : lnLess (g' (2 * k + 2)) (g' (2 * k + 1))
        · have HCH : Aside0 (Child lnLess g' m k (2 * k + 1)) := ⟨⟨hc1, by unfold par; omega, by omega, fun c h0 hc hp => by
            have hcc : c = 2 * k + 1 ∨ c = 2 * k + 2 := by unfold par at hp; omega
            rcases hcc with hcc | hcc
            · subst hcc
              cases hq : lnLess (g' (2 * k + 1)) (g' (2 * k + 1)) with
              | false => rfl
              | true => have := lnLess_o.as _ _ hq; rw [hq] at this; cases this
            · subst hcc; exact hl1⟩⟩
          clear hl1
          go_wp2_with fail
          rw [EC1.out]
          refine (less_any (HQ1.out.ln (i := 2 * k + 1) (by omega) (HD1.out _ (by omega)).1) (HQ1.out.ln (i := k) (by omega) (HD1.out _ (by omega)).1) (by omega) (by omega) hn).mono ?_
          rintro e w2 ⟨rfl, hb⟩
          have HQ2 := Aside0.mk (HQ1.out.old hb)
          have HD2 : Aside0 (DocsAt w2 G n g') := ⟨fun c hc => ⟨(HD1.out c hc).1.below hb, (HD1.out c hc).2⟩⟩
          have HK2 := Aside0.mk (HK1.out.trans (Kp.of_below hb))
          have hm2 := meth_swap w2 Q _ (blk_cell HQ2.out.hd 0)
          clear hm hb
          cases hl2 : lnLess (g' (2 * k + 1)) (g' k)
          · have HL := Aside0.mk hl2
            clear hl2
            go_wp2
            go_ret
            exact ⟨⟨_, rfl⟩, g', HQ2.out, HUk.out.done lnLess lnLess_o HCH.out HL.out, HPk.out, HFk.out, HK2.out⟩
          · have HL := Aside0.mk hl2
            clear hl2
            go_wp2_with fail
            have sc := swap_any (cap := cap) (i := k) (j := 2 * k + 1) HQ2.out.row (by omega) (by omega) hn
            rw [← EC1.out] at sc
            refine sc.mono ?_
            clear sc
            rintro e w3 ⟨rfl, hR3, hK3⟩
            have HQ3 : Aside0 (QAt w3 Q G n cap (sw g' k (2 * k + 1))) := ⟨⟨(hK3.block Q (blk_lt HQ2.out.hd) HQ2.out.ne).trans HQ2.out.hd, hR3, HQ2.out.cap, HQ2.out.ne⟩⟩
            have HD3 : Aside0 (DocsAt w3 G n (sw g' k (2 * k + 1))) := ⟨(Pm.sw g' (by omega) (by omega)).all (P := fun x => DocAt w3 x ∧ x.a.block ≠ G) fun c hc => ⟨hK3.doc (HD2.out c hc).1 (HD2.out c hc).2, (HD2.out c hc).2⟩⟩
            have HK3 := Aside0.mk (HK2.out.trans hK3)
            have HU3 : Aside0 (DownInv lnLess (sw g' k (2 * k + 1)) m (2 * k + 1)) := ⟨HUk.out.step lnLess lnLess_o HCH.out HL.out⟩
            clear hR3 hK3
            go_wp2
            go_roundw
            case rel => exact ⟨2 * k + 1, sw g' k (2 * k + 1), by first | rfl | exact congrArg _ EC1.out | (simp; done), by omega, HQ3, HD3, HU3, ⟨HPk.out.trans (Pm.sw g' (by omega) (by omega))⟩, ⟨fun c hc => by rw [sw_at, if_neg (by omega), if_neg (by omega)]; exact HFk.out c hc⟩, HK3⟩
            case measure => simp [intOf]; omega
        · have HCH : Aside0 (Child lnLess g' m k (2 * k + 2)) := ⟨⟨h2, by unfold par; omega, by omega, fun c h0 hc hp => by
            have hcc : c = 2 * k + 1 ∨ c = 2 * k + 2 := by unfold par at hp; omega
            rcases hcc with hcc | hcc
            · subst hcc
              exact lnLess_o.as _ _ hl1
            · subst hcc
              cases hq : lnLess (g' (2 * k + 2)) (g' (2 * k + 2)) with
              | false => rfl
              | true => have := lnLess_o.as _ _ hq; rw [hq] at this; cases this⟩⟩
          clear hl1
          go_wp2_with fail
          rw [ECA.out]
          refine (less_any (HQ1.out.ln (i := 2 * k + 2) (by omega) (HD1.out _ (by omega)).1) (HQ1.out.ln (i := k) (by omega) (HD1.out _ (by omega)).1) (by omega) (by omega) hn).mono ?_
          rintro e w2 ⟨rfl, hb⟩
          have HQ2 := Aside0.mk (HQ1.out.old hb)
          have HD2 : Aside0 (DocsAt w2 G n g') := ⟨fun c hc => ⟨(HD1.out c hc).1.below hb, (HD1.out c hc).2⟩⟩
          have HK2 := Aside0.mk (HK1.out.trans (Kp.of_below hb))
          have hm2 := meth_swap w2 Q _ (blk_cell HQ2.out.hd 0)
          clear hm hb
          cases hl2 : lnLess (g' (2 * k + 2)) (g' k)
          · have HL := Aside0.mk hl2
            clear hl2
            go_wp2
            go_ret
            exact ⟨⟨_, rfl⟩, g', HQ2.out, HUk.out.done lnLess lnLess_o HCH.out HL.out, HPk.out, HFk.out, HK2.out⟩
          · have HL := Aside0.mk hl2
            clear hl2
            go_wp2_with fail
            have sc := swap_any (cap := cap) (i := k) (j := 2 * k + 2) HQ2.out.row (by omega) (by omega) hn
            rw [← ECA.out] at sc
            refine sc.mono ?_
            clear sc
            rintro e w3 ⟨rfl, hR3, hK3⟩
            have HQ3 : Aside0 (QAt w3 Q G n cap (sw g' k (2 * k + 2))) := ⟨⟨(hK3.block Q (blk_lt HQ2.out.hd) HQ2.out.ne).trans HQ2.out.hd, hR3, HQ2.out.cap, HQ2.out.ne⟩⟩
            have HD3 : Aside0 (DocsAt w3 G n (sw g' k (2 * k + 2))) := ⟨(Pm.sw g' (by omega) (by omega)).all (P := fun x => DocAt w3 x ∧ x.a.block ≠ G) fun c hc => ⟨hK3.doc (HD2.out c hc).1 (HD2.out c hc).2, (HD2.out c hc).2⟩⟩
            have HK3 := Aside0.mk (HK2.out.trans hK3)
            have HU3 : Aside0 (DownInv lnLess (sw g' k (2 * k + 2)) m (2 * k + 2)) := ⟨HUk.out.step lnLess lnLess_o HCH.out HL.out⟩
            clear hR3 hK3
            go_wp2
            go_roundw
            case rel => exact ⟨2 * k + 2, sw g' k (2 * k + 2), by first | rfl | exact congrArg _ ECA.out | (simp; done), by omega, HQ3, HD3, HU3, ⟨HPk.out.trans (Pm.sw g' (by omega) (by omega))⟩, ⟨fun c hc => by rw [sw_at, if_neg (by omega), if_neg (by omega)]; exact HFk.out c hc⟩, HK3⟩
            case measure => simp [intOf]; omega
      · have HCH : Aside0 (Child lnLess g' m k (2 * k + 1)) := ⟨⟨hc1, by unfold par; omega, by omega, fun c h0 hc hp => by
          have hcc : c = 2 * k + 1 := by unfold par at hp; omega
          subst hcc
          cases hq : lnLess (g' (2 * k + 1)) (g' (2 * k + 1)) with
          | false => rfl
          | true => have := lnLess_o.as _ _ hq; rw [hq] at this; cases this⟩⟩
        have HQ1 := HQk
        have HD1 := HDk
        have HK1 := HKk
        go_wp2_with fail
        rw [EC1.out]
        refine (less_any (HQ1.out.ln (i := 2 * k + 1) (by omega) (HD1.out _ (by omega)).1) (HQ1.out.ln (i := k) (by omega) (HD1.out _ (by omega)).1) (by omega) (by omega) hn).mono ?_
        rintro e w2 ⟨rfl, hb⟩
        have HQ2 := Aside0.mk (HQ1.out.old hb)
        have HD2 : Aside0 (DocsAt w2 G n g') := ⟨fun c hc => ⟨(HD1.out c hc).1.below hb, (HD1.out c hc).2⟩⟩
        have HK2 := Aside0.mk (HK1.out.trans (Kp.of_below hb))
        have hm2 := meth_swap w2 Q _ (blk_cell HQ2.out.hd 0)
        clear hm hb
        cases hl2 : lnLess (g' (2 * k + 1)) (g' k)
        · have HL := Aside0.mk hl2
          clear hl2
          go_wp2
          go_ret
          exact ⟨⟨_, rfl⟩, g', HQ2.out, HUk.out.done lnLess lnLess_o HCH.out HL.out, HPk.out, HFk.out, HK2.out⟩
        · have HL := Aside0.mk hl2
          clear hl2
          go_wp2_with fail
          have sc := swap_any (cap := cap) (i := k) (j := 2 * k + 1) HQ2.out.row (by omega) (by omega) hn
          rw [← EC1.out] at sc
          refine sc.mono ?_
          clear sc
          rintro e w3 ⟨rfl, hR3, hK3⟩
          have HQ3 : Aside0 (QAt w3 Q G n cap (sw g' k (2 * k + 1))) := ⟨⟨(hK3.block Q (blk_lt HQ2.out.hd) HQ2.out.ne).trans HQ2.out.hd, hR3, HQ2.out.cap, HQ2.out.ne⟩⟩
          have HD3 : Aside0 (DocsAt w3 G n (sw g' k (2 * k + 1))) := ⟨(Pm.sw g' (by omega) (by omega)).all (P := fun x => DocAt w3 x ∧ x.a.block ≠ G) fun c hc => ⟨hK3.doc (HD2.out c hc).1 (HD2.out c hc).2, (HD2.out c hc).2⟩⟩
          have HK3 := Aside0.mk (HK2.out.trans hK3)
          have HU3 : Aside0 (DownInv lnLess (sw g' k (2 * k + 1)) m (2 * k + 1)) := ⟨HUk.out.step lnLess lnLess_o HCH.out HL.out⟩
          clear hR3 hK3
          go_wp2
          go_roundw
          case rel => exact ⟨2 * k + 1, sw g' k (2 * k + 1), by first | rfl | exact congrArg _ EC1.out | (simp; done), by omega, HQ3, HD3, HU3, ⟨HPk.out.trans (Pm.sw g' (by omega) (by omega))⟩, ⟨fun c hc => by rw [sw_at, if_neg (by omega), if_neg (by omega)]; exact HFk.out c hc⟩, HK3⟩
          case measure => simp [intOf]; omega
end Go.Proofs.Ytaediecdpgndjaa.M
