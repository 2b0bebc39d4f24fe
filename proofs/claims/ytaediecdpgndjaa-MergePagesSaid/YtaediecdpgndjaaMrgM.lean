/- heap.Push, heap.Pop. -/
import Derived.Test.YtaediecdpgndjaaMrgL
namespace Go.Proofs.Ytaediecdpgndjaa.M
open Go.RowKit Go.Proofs.Mg Go.Proofs.YtaediecdpgndjaaW.PrintWords Go.Proofs.YtaediecdpgndjaaW.PrintLast Go.Proofs.YtaediecdpgndjaaW.PrintMore Go.Proofs.Ytaediecdpgndjaa.PMrg0
set_option linter.unusedVariables false
set_option linter.unusedSimpArgs false
theorem Kp.wide {S : Nat → Prop} {a b c : World} {G : Nat} (h : Kp S a b) (k : Kp (fun k => k = G) b c) (hg : S G ∨ a.heap.size ≤ G) : Kp S a c :=
  ⟨k.os.trans h.os, k.tape.trans h.tape, k.output.trans h.output, Nat.le_trans h.size k.size, fun i hi hs => (k.block i (Nat.lt_of_lt_of_le hi h.size) (fun e => by subst e; exact hg.elim hs (fun hh => by omega))).trans (h.block i hi hs)⟩
/-- the heap of the lines, beside what came in -/
structure HS (w0 w : World) (Q G n cap : Nat) (g : Nat → Ln) : Prop where
  b : Below w0.heap.size w0 w
  q : QAt w Q G n cap g
  hq : w0.heap.size ≤ Q
  hg : w0.heap.size ≤ G
  d : ∀ c, c < n → DocAt w0 (g c)
  h : HP lnLess g n
theorem DocAt.blk {w : World} {x : Ln} (h : DocAt w x) : x.a.block < w.heap.size := World.block_lt_of_cell? w x.a h.d0
theorem HS.docs {w0 w : World} {Q G n cap : Nat} {g : Nat → Ln} (h : HS w0 w Q G n cap g) : DocsAt w G n g := fun c hc =>
  ⟨(h.d c hc).below h.b, fun e => by have := (h.d c hc).blk; have := h.hg; omega⟩
theorem HS.below {w0 w : World} {Q G n cap : Nat} {g : Nat → Ln} (h : HS w0 w Q G n cap g) {w' : World} (hk : Kp (fun k => k = Q ∨ k = G) w w') : Below w0.heap.size w0 w' :=
  ⟨hk.os.trans h.b.os, hk.tape.trans h.b.tape, hk.output.trans h.b.output, Nat.le_trans h.b.size hk.size, fun k hkl => (hk.block k (Nat.lt_of_lt_of_le hkl h.b.size) (fun e => by have := h.hq; have := h.hg; omega)).trans (h.b.block k hkl)⟩
theorem lnLess_irr (x : Ln) : lnLess x x = false := by
  cases hq : lnLess x x with
  | false => rfl
  | true => have := lnLess_o.as _ _ hq; rw [hq] at this; cases this
theorem hp_less {g g' : Nat → Ln} {n : Nat} (h : HP lnLess g n) (e : ∀ c, c < n → g' c = g c) : HP lnLess g' n := fun c h0 hc => by
  rw [e c hc, e (par c) (by unfold par; omega)]; exact h c h0 hc
set_option maxHeartbeats 4000000 in
theorem push_any {w0 w : World} {Q G n cap : Nat} {g : Nat → Ln} (h : HS w0 w Q G n cap g) (hn : n ≤ 1000) {x : Ln} (hx : DocAt w0 x) :
    Calls Try.prog 15 #[ifc Q, lnV x] w fun e w' => e = .returned (.tuple #[]) ∧ ∃ G' cap' g', HS w0 w' Q G' (n + 1) cap' g' ∧ Pm (updN g n x) g' (n + 1) ∧ Kp (fun k => k = Q ∨ k = G) w w' := by
  have H := Aside0.mk h
  have HX := Aside0.mk hx
  have hm := meth_push w Q
  clear h hx
  go_enter Try.func15, Try.ntmps15
  go_wp2_with fail
  refine (pushm_any H.out.q hn x).mono ?_
  rintro e w1 ⟨rfl, G1, cap1, hq1, hg1, hk1⟩
  have HG1 : Aside0 (w0.heap.size ≤ G1) := ⟨by have := H.out.hg; have := H.out.b.size; rcases hg1 with h | h <;> omega⟩
  have HQ1 := Aside0.mk hq1
  have HK1 := Aside0.mk hk1
  have HGG := Aside0.mk hg1
  have HB1 := Aside0.mk (H.out.below hk1)
  have hm1 := meth_len w1 Q _ (blk_cell HQ1.out.hd 0)
  clear hm hq1 hk1 hg1
  go_wp2_with fail
  refine (len_any _ (n + 1) cap1 w1).mono ?_
  rintro e w' ⟨rfl, rfl⟩
  clear hm1
  go_wp2_with fail
  have HD1 : Aside0 (DocsAt w1 G1 (n + 1) (updN g n x)) := ⟨fun c hc => by
    unfold updN
    split
    · exact ⟨HX.out.below HB1.out, fun e => by have := HX.out.blk; have := HG1.out; omega⟩
    · have := H.out.d c (by omega)
      exact ⟨this.below HB1.out, fun e => by have := this.blk; have := HG1.out; omega⟩⟩
  have HU : Aside0 (UpInv lnLess (updN g n x) (n + 1) n) := ⟨UpInv.start lnLess (hp_less H.out.h fun c hc => by unfold updN; rw [if_neg (by omega)])⟩
  refine (up_any (j := n) HQ1.out HD1.out (by omega) (by omega) HU.out).mono ?_
  rintro e w2 ⟨rfl, g2, hq2, hp2, hpm2, hk2⟩
  have HQ2 := Aside0.mk hq2
  have HP2 := Aside0.mk hp2
  have HM2 := Aside0.mk hpm2
  have HK2 := Aside0.mk hk2
  clear hq2 hp2 hpm2 hk2
  go_wp2
  go_end0
  have hk : Kp (fun k => k = Q ∨ k = G) w w2 := HK1.out.wide HK2.out (by rcases HGG.out with h | h; exact .inl (.inr h); exact .inr h)
  refine ⟨rfl, G1, cap1, g2, ⟨H.out.below hk, HQ2.out, H.out.hq, HG1.out, ?_, HP2.out⟩, HM2.out, hk⟩
  exact HM2.out.all (P := DocAt w0) fun c hc => by
    unfold updN
    split
    · exact HX.out
    · exact H.out.d c (by omega)
set_option maxHeartbeats 4000000 in
theorem pop_any {w0 w : World} {Q G n cap : Nat} {g : Nat → Ln} (h : HS w0 w Q G (n + 1) cap g) (hn : n ≤ 1000) :
    Calls Try.prog 17 #[ifc Q] w fun e w' => e = .returned (lnV (g 0)) ∧ ∃ g', HS w0 w' Q G n cap g' ∧ Pm (sw g 0 n) g' n ∧ Kp (fun k => k = Q ∨ k = G) w w' := by
  have H := Aside0.mk h
  clear h
  have hm1 := meth_len w Q _ (blk_cell H.out.q.hd 0)
  go_enter Try.func17, Try.ntmps17
  go_wp2_with fail
  refine (len_any _ (n + 1) cap w).mono ?_
  rintro e w' ⟨rfl, rfl⟩
  clear hm1
  have hm2 := meth_swap w Q _ (blk_cell H.out.q.hd 0)
  go_wp2_with fail
  have hsw := swap_any (i := 0) (j := n) (cap := cap) H.out.q.row (by omega) (by omega) (by omega)
  refine hsw.mono ?_
  clear hsw
  rintro e w1 ⟨rfl, hr1, hk1⟩
  have HK1 := Aside0.mk hk1
  have HQ1 : Aside0 (QAt w1 Q G (n + 1) cap (sw g 0 n)) := ⟨⟨(hk1.block Q (blk_lt H.out.q.hd) H.out.q.ne).trans H.out.q.hd, hr1, H.out.q.cap, H.out.q.ne⟩⟩
  have HD1 : Aside0 (DocsAt w1 G (n + 1) (sw g 0 n)) := ⟨(Pm.sw g (by omega) (by omega)).all (P := fun x => DocAt w1 x ∧ x.a.block ≠ G) fun c hc => ⟨hk1.doc (H.out.docs c hc).1 (H.out.docs c hc).2, (H.out.docs c hc).2⟩⟩
  have HU : Aside0 (DownInv lnLess (sw g 0 n) n 0) := ⟨DownInv.start lnLess H.out.h⟩
  clear hr1 hk1 hm2
  go_wp2_with fail
  refine (down_any (n := n + 1) (m := n) HQ1.out HD1.out (by omega) (by omega) HU.out).mono ?_
  rintro e w2 ⟨⟨v, rfl⟩, g2, hq2, hp2, hpm2, hf2, hk2⟩
  have HQ2 := Aside0.mk hq2
  have HP2 := Aside0.mk hp2
  have HM2 := Aside0.mk hpm2
  have HF2 := Aside0.mk hf2
  have HK2 := Aside0.mk hk2
  clear hq2 hp2 hpm2 hf2 hk2
  have hm3 := meth_pop w2 Q
  go_wp2_with fail
  refine (popm_any HQ2.out (by omega)).mono ?_
  rintro e w3 ⟨rfl, hq3, hk3⟩
  have HQ3 := Aside0.mk hq3
  have HK3 := Aside0.mk hk3
  clear hq3 hk3 hm3
  go_wp2
  go_ret
  have hk : Kp (fun k => k = Q ∨ k = G) w w3 := ((HK1.out.mono (fun _ h => .inr h)).trans (HK2.out.mono (fun _ h => .inr h))).trans (HK3.out.mono (fun _ h => .inl h))
  have e0 : g2 n = g 0 := by
    rw [HF2.out n (Nat.le_refl _), sw_at]
    split
    · rename_i h; rw [h]
    · rw [if_pos rfl]
  refine ⟨by rw [← e0]; rfl, g2, ⟨H.out.below hk, HQ3.out, H.out.hq, H.out.hg, ?_, HP2.out⟩, HM2.out, hk⟩
  refine HM2.out.all (P := DocAt w0) fun c hc => ?_
  rw [sw_at]
  split
  · exact H.out.d _ (by omega)
  · split
    · exact H.out.d _ (by omega)
    · exact H.out.d _ (by omega)
end Go.Proofs.Ytaediecdpgndjaa.M
