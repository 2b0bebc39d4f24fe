/- heap.up. -/
import Derived.Test.YtaediecdpgndjaaMrgH
namespace Go.Proofs.Ytaediecdpgndjaa.M
open Go.RowKit Go.Proofs.Mg Go.Proofs.YtaediecdpgndjaaW.PrintWords Go.Proofs.YtaediecdpgndjaaW.PrintLast Go.Proofs.YtaediecdpgndjaaW.PrintMore Go.Proofs.Ytaediecdpgndjaa.PMrg0
set_option linter.unusedVariables false
set_option linter.unusedSimpArgs false
theorem Kp.doc {w w' : World} {G : Nat} {x : Ln} (hk : Kp (fun k => k = G) w w') (h : DocAt w x) (hg : x.a.block ≠ G) : DocAt w' x := by
  have e : ∀ {p : Addr} {v : Value}, p.block = x.a.block → w.cell? p = some v → w'.cell? p = some v := fun {p v} e hp => by
    have hl := World.block_lt_of_cell? w p hp
    have hb := hk.block p.block hl (by rw [e]; exact hg)
    unfold World.cell? at hp ⊢
    rw [hb]; exact hp
  exact ⟨e rfl h.d0, e rfl h.d1, e rfl h.d2⟩
def DocsAt (w : World) (G n : Nat) (g : Nat → Ln) : Prop := ∀ c, c < n → DocAt w (g c) ∧ (g c).a.block ≠ G
set_option maxHeartbeats 4000000 in
theorem up_any {w : World} {Q G n cap j : Nat} {g : Nat → Ln} (h : QAt w Q G n cap g) (hd : DocsAt w G n g) (hn : n ≤ 140737488351232) (hj : j < n) (hu : UpInv lnLess g n j) :
    Calls Try.prog 21 #[ifc Q, .int .i64 (j : Int)] w fun e w' => e = .returned (.tuple #[]) ∧ ∃ g', QAt w' Q G n cap g' ∧ HP lnLess g' n ∧ Pm g g' n ∧ Kp (fun k => k = G) w w' := by
  have HQ := Aside0.mk h
  have HD := Aside0.mk hd
  have HU := Aside0.mk hu
  clear h hd hu
  go_enter Try.func21, Try.ntmps21
  go_wp2
  go_loopw [1] (fun i wq => ∃ (k : Nat) (g' : Nat → Ln), i = .int .i64 (k : Int) ∧ k < n ∧ Aside0 (QAt wq Q G n cap g') ∧ Aside0 (DocsAt wq G n g') ∧ Aside0 (UpInv lnLess g' n k) ∧ Aside0 (Pm g g' n) ∧ Aside0 (Kp (fun k => k = G) w wq)) (fun i _ => (intOf i).toNat)
  case atStart => exact ⟨j, g, rfl, hj, HQ, HD, HU, ⟨Pm.refl g n⟩, ⟨Kp.refl _ _⟩⟩
  case round =>
    obtain ⟨k, g', rfl, hk, HQk, HDk, HUk, HPk, HKk⟩ := hrel
    have hm := meth_less wr Q _ (blk_cell HQk.out.hd 0)
    by_cases h0 : k = 0
    · subst h0
      go_wp2
      go_end0
      exact ⟨rfl, g', HQk.out, HUk.out.top, HPk.out, HKk.out⟩
    · go_wp2_with fail
      have ep : ((k : Int) - 1) / 2 = ((par k : Nat) : Int) := by unfold par; omega
      have hpk : par k < n := by unfold par; omega
      have hpl : par k < k := by unfold par; omega
      rw [ep]
      generalize hpp : par k = i at *
      refine (less_any (HQk.out.ln hk (HDk.out k hk).1) (HQk.out.ln hpk (HDk.out i hpk).1) hk hpk hn).mono ?_
      rintro e w2 ⟨rfl, hb⟩
      have HQ2 := Aside0.mk (HQk.out.old hb)
      have HD2 : Aside0 (DocsAt w2 G n g') := ⟨fun c hc => ⟨(HDk.out c hc).1.below hb, (HDk.out c hc).2⟩⟩
      have HK2 := Aside0.mk (HKk.out.trans (Kp.of_below hb))
      have hm2 := meth_swap w2 Q _ (blk_cell HQ2.out.hd 0)
      clear hm hb
      cases hl : lnLess (g' k) (g' i)
      · have HL := Aside0.mk hl
        clear hl
        go_wp2
        go_end0
        exact ⟨rfl, g', HQ2.out, HUk.out.done lnLess (by rw [hpp]; exact HL.out), HPk.out, HK2.out⟩
      · have HL := Aside0.mk hl
        clear hl
        go_wp2_with fail
        refine (swap_any HQ2.out.row hpk hk hn).mono ?_
        rintro e w3 ⟨rfl, hR3, hK3⟩
        have HQ3 : Aside0 (QAt w3 Q G n cap (sw g' i k)) := ⟨⟨(hK3.block Q (blk_lt HQ2.out.hd) HQ2.out.ne).trans HQ2.out.hd, hR3, HQ2.out.cap, HQ2.out.ne⟩⟩
        have HD3 : Aside0 (DocsAt w3 G n (sw g' i k)) := ⟨(Pm.sw g' hpk hk).all (P := fun x => DocAt w3 x ∧ x.a.block ≠ G) fun c hc => ⟨hK3.doc (HD2.out c hc).1 (HD2.out c hc).2, (HD2.out c hc).2⟩⟩
        have HK3 := Aside0.mk (HK2.out.trans hK3)
        have HU3 : Aside0 (UpInv lnLess (sw g' i k) n i) := ⟨by have := HUk.out.step lnLess lnLess_o (by omega) hk (by rw [hpp]; exact HL.out); rw [hpp] at this; exact this⟩
        clear hR3 hK3
        go_wp2
        go_roundw
        case rel => exact ⟨i, sw g' i k, rfl, hpk, HQ3, HD3, HU3, ⟨HPk.out.trans (Pm.sw g' hpk hk)⟩, HK3⟩
        case measure => simp [intOf]; omega
end Go.Proofs.Ytaediecdpgndjaa.M
