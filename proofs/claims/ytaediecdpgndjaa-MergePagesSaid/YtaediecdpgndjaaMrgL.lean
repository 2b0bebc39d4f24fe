/- (*lines).Push. -/
import Derived.Test.YtaediecdpgndjaaMrgK
namespace Go.Proofs.Ytaediecdpgndjaa.M
open Go.RowKit Go.Proofs.Mg Go.Proofs.YtaediecdpgndjaaW.PrintWords Go.Proofs.YtaediecdpgndjaaW.PrintLast Go.Proofs.YtaediecdpgndjaaW.PrintMore Go.Proofs.Ytaediecdpgndjaa.PMrg0
set_option linter.unusedVariables false
set_option linter.unusedSimpArgs false
theorem ta_ln (x : Ln) (w : World) : Sem.run Try.prog (Instr.typeAssert (lnV x) 20 46 false) w = .ok (.agg #[.slice (some x.a) x.len x.c, .int .i64 x.n]) w := by kernel_rfl
set_option maxHeartbeats 4000000 in
theorem pushm_any {w : World} {Q G n cap : Nat} {g : Nat → Ln} (h : QAt w Q G n cap g) (hn : n ≤ 1000) (x : Ln) :
    Calls Try.prog 43 #[ptr Q, lnV x] w fun e w' => e = .returned (.tuple #[]) ∧ ∃ G' cap', QAt w' Q G' (n + 1) cap' (updN g n x) ∧ (G' = G ∨ w.heap.size ≤ G') ∧ Kp (fun k => k = Q ∨ k = G) w w' := by
  obtain ⟨i0, hi0, hz0, hz1, hz2⟩ := info_parts info46
  have HQ := Aside0.mk h
  have HI := Aside0.mk hi0
  have HZ := Aside0.mk hz0
  have HZ1 := Aside0.mk hz1
  have HZ2 := Aside0.mk hz2
  have hG := h.row.lt
  have hQ := blk_lt h.hd
  have hcap := h.cap
  have hq : w.cell? ⟨Q, 0, none⟩ = some (.slice (some ⟨G, 0, none⟩) n cap) := blk_cell h.hd 0
  have fq : w.frozen? ⟨Q, 0, none⟩ = false := blk_frozen h.hd 0
  clear h hi0 hz0 hz1 hz2
  have hta := ta_ln x
  go_enter Try.func43, Try.ntmps43
  have HO := Aside0.mk ((HQ.out.row.own).alloc (Obj.cells #[Value.slice (some x.a) x.len x.c, Value.int IntKind.i64 x.n] 46))
  have hn1 : n + 1 ≤ maxLen := by unfold maxLen; omega
  have hn2 : (n + 1) * 32 ≤ 140737488355328 := by omega
  have H1C : Aside0 (∀ u ∈ [hdrV x, Value.int IntKind.i64 x.n], u.oneCell' = true) := ⟨by intro u hu; rcases List.mem_cons.1 hu with h | hu; rw [h]; rfl; rcases List.mem_cons.1 hu with h | hu; rw [h]; rfl; cases hu⟩
  have HN1 := Aside0.mk hn1
  have HN2 := Aside0.mk hn2
  clear hn1 hn2
  go_region_law ((refine step_append_lies _ (by rfl) _ _ _ (by rfl) 0 46 i0 _ 2 32 Try.underlying42 HI.out HZ.out HZ1.out HZ2.out (by rfl) (by omega) (.slice (some ⟨G, 0, none⟩) n cap) n (rows g n) (by rfl) HO.out ⟨w.heap.size, 0, none⟩ 1 1 [hdrV x, .int .i64 x.n] (by rfl) (by rfl) (World.news_of_block (heap_alloc_new w _)) H1C.out (by omega) HN1.out HN2.out (by simp) (w.heap.size + 1) (by simp) ?_; intro g2 cap2 w1 hown hgr hat hlt; have hdq := (hgr.block Q (by simp; omega) (by simpa [Value.ownBlock] using HQ.out.ne)).trans ((Below.heap_alloc w _ Q hQ).trans HQ.out.hd); have HDQ := Aside0.mk hdq; have hcq := blk_cell hdq 0; have hfq : w1.frozen? ⟨Q, 0, none⟩ = false := blk_frozen hdq 0; have HOWN := Aside0.mk hown; have HGR := Aside0.mk hgr; have HAT := Aside0.mk hat; clear hdq hown hgr hat))
  all_goals
    go_end0
    have hR := Row.of_own (rows_upd g n x ▸ HOWN.out)
    have hne : Q ≠ g2 := by
      rintro rfl
      obtain ⟨cs, h1, _⟩ := hR.bl
      rw [HDQ.out] at h1; cases h1
    have hK : Kp (fun k => k = Q ∨ k = G) w w1 := (((Kp.refl _ _).alloc _).drew).trans ⟨HGR.out.os, HGR.out.tape, HGR.out.output, HGR.out.size, fun k hk hs => HGR.out.block k hk (fun e => hs (.inr (by simpa [Value.ownBlock] using e)))⟩
    have hc2 : n + 1 ≤ cap2 := by obtain ⟨cs, _, h2, _⟩ := hR.bl; exact h2.1
    refine ⟨rfl, g2, cap2, ⟨blk_put HDQ.out 0 _ rfl, hR.far (p := ⟨Q, 0, none⟩) hne.symm _, hc2, hne⟩, ?_, hK.setCell (p := ⟨Q, 0, none⟩) (.inl rfl) _⟩
    rcases HAT.out with h | h
    · exact .inl (by simpa [Value.ownBlock] using h.symm)
    · exact .inr (by omega)
end Go.Proofs.Ytaediecdpgndjaa.M
