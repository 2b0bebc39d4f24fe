/- Word: what a word stands for. -/
import Derived.Test.YtlmmbefejmbpeaaDoorQryS1
namespace Go.Proofs.YtlmmbefejmbpeaaDoor.M
open Go.RowKit Go.Shelf Go.Proofs.Qp Go.Proofs.YtlmmbefejmbpeaaDoorW.PrintWords Go.Proofs.YtlmmbefejmbpeaaDoorW.PrintLast Go.Proofs.YtlmmbefejmbpeaaDoorW.PrintMore Go.Proofs.YtlmmbefejmbpeaaDoor.PQry0 Go.Proofs.YtlmmbefejmbpeaaDoor.G
set_option linter.unusedVariables false
set_option linter.unusedSimpArgs false
set_option maxHeartbeats 4000000 in
set_option maxRecDepth 100000 in
theorem word_one {w : World} {g : Nat} {s : ByteArray} {a o : Nat} (h : RdAt w g s a o) (hT : TT g w) (hs : s.size ≤ 1000) (ha : a ≤ s.size) (hX : ¬ (s.extract a (wend (lt s) a)) = ⟨#[42]⟩) (h1 : oneB (s.extract a (wend (lt s) a)) = true) :
    Calls Tryd.prog 47 #[rp g] w fun e w' => (e = .returned (.agg #[.int .u8 1, .string (s.extract a (wend (lt s) a)), .int .i64 0, .slice none 0 0]) ∧ RdAt w' g s (wend (lt s) a) o) ∧ Kp (fun k => k = g) w w' := by
  obtain ⟨c0, c1, c2, f1, f2⟩ := h.cells
  have H := Aside0.mk h
  clear h
  have HG : Aside0 (w.heap.size ≠ g) := ⟨by have := H.out.lt; omega⟩
  have HT := Aside0.mk hT
  clear hT
  have HX := Aside0.mk hX
  have H1 := Aside0.mk h1
  clear hX h1
  have HA := Aside0.mk (H.out.old (Below.alloc (Below.refl w.heap.size w) (Nat.le_refl _) (.cells #[.int .u8 0, .string ⟨#[]⟩, .int .i64 0, .slice none 0 0] 25)))
  obtain ⟨e0, e1, e2, k1, k2⟩ := HA.out.cells
  have hu25 := Tryd.underlying25
  have hs25 := Tryd.sizeOf25
  have hz25 := Tryd.zeroValue25
  go_enter Tryd.func47, Tryd.ntmps47
  go_wp2
  have HK0 := Aside0.mk (Kp.of_below (S := fun k => k = g) (Below.alloc (Below.refl w.heap.size w) (Nat.le_refl _) (.cells #[.int .u8 0, .string ⟨#[]⟩, .int .i64 0, .slice none 0 0] 25)))
  go_loopw [] (fun wq => ∃ b : Nat, a ≤ b ∧ b ≤ s.size ∧ Aside0 (RdAt wq g s b o) ∧ Aside0 (wend (lt s) b = wend (lt s) a) ∧ Aside0 (Kp (fun k => k = g) w wq) ∧ Aside0 (wq.heap[w.heap.size]? = some (.cells #[.int .u8 0, .string ⟨#[]⟩, .int .i64 0, .slice none 0 0] 25))) (fun wq => s.size - posOf g wq)
  case atStart => exact ⟨a, Nat.le_refl _, ha, HA, ⟨rfl⟩, HK0, ⟨by show (w.heap.push _)[w.heap.size]? = _; simp⟩⟩
  case round =>
    obtain ⟨b, hab, hb, HB, HE, HK, HR⟩ := hrel
    obtain ⟨d0, d1, d2, f1, f2⟩ := HB.out.cells
    cases hE : endB (lt s) b with
    | false =>
      have hlt : b < s.size := by have := endB_lt hE; simpa using this
      have HE2 := Aside0.mk ((wend_go hE).trans HE.out)
      have HEB := Aside0.mk hE
      clear hE
      go_wp2_with (first
        | (go_at_call 40; refine (end_any HB.out b hs (by omega)).mono ?_; rintro e w3 ⟨rfl, rfl⟩; rw [HEB.out]))
      have HN := HB.out.setA (b := b + 1) (x := (b : Int) + 1) (by omega)
      refine ⟨⟨b + 1, by omega, by omega, ⟨HN⟩, HE2, ⟨HK.out.setCell (p := ⟨g, 1, none⟩) rfl _⟩, ⟨?_⟩⟩, ?_⟩
      · rw [Below.heap_setCell _ _ _ _ (fun e => HG.out (by first | exact e | exact e.symm))]; exact HR.out
      · rw [HN.pos, HB.out.pos]; omega
    | true =>
      have HE2 : Aside0 (b = wend (lt s) a) := ⟨(wend_end hE).symm.trans HE.out⟩
      have HEB := Aside0.mk hE
      clear hE
      go_wp2_with (first
        | (go_at_call 40; refine (end_any HB.out b hs (by omega)).mono ?_; rintro e w3 ⟨rfl, rfl⟩; rw [HEB.out]))
      have hb0 : (0 : Int) ≤ (a : Int) := by omega
      have hb1 : (b : Int) ≤ (s.size : Int) := by omega
      have hb2 : (a : Int) ≤ (b : Int) := by omega
      rw [← HE2.out] at HX
      rw [← HE2.out] at H1
      go_region_held3 (fun W' => (W'.cell? ⟨g, 0, none⟩ = some (.string s) ∧ W'.cell? ⟨g, 1, none⟩ = some (.int .i64 (b : Int))) ∧ Aside0 (RdAt W' g s b o ∧ Kp (fun k => k = g) w W' ∧ W'.heap[w.heap.size]? = some (.cells #[.int .u8 0, .string ⟨#[]⟩, .int .i64 0, .slice none 0 0] 25))) (exact ⟨⟨d0, d1⟩, ⟨HB.out.drew, HK.out.drew, HR.out⟩⟩) (fail)
      have HTR := Aside0.mk (HT.out.kp HK.out.drew).tabs
      replace HB := Aside0.mk HB.out.drew
      replace HK := Aside0.mk HK.out.drew
      have hX := not_star HX.out
      have hX2 : ¬ (s.extract a b).toList = [42] := by simpa using hX
      go_wp2_with (first
        | (go_at_call 56; refine (one_any _ _ (by simp; omega) HTR.out).mono ?_; rintro e w5 ⟨rfl, hB⟩; rw [H1.out]; replace HR := Aside0.mk ((hB.block w.heap.size (blk_lt HR.out)).trans HR.out); replace HB := Aside0.mk (HB.out.old hB); replace HK := Aside0.mk (HK.out.trans (Kp.of_below hB)); replace HTR := Aside0.mk (tabs_below HTR.out hB); clear hB; have hr := HR.out; have r0 := blk_cell hr 0; have r1 := blk_cell hr 1; have r2 := blk_cell hr 2; have r3 := blk_cell hr 3; have q0 := blk_frozen hr 0; have q1 := blk_frozen hr 1; have q2 := blk_frozen hr 2; have q3 := blk_frozen hr 3; clear hr))
      refine bodyPost_ret (results_cell_row rfl _ _ w.heap.size 25 #[.int .u8 1, .string (s.extract a b), .int .i64 0, .slice none 0 0] (0, 0) _ rfl (blk_put (blk_put (blk_put (blk_put HR.out 0 (.int .u8 1) rfl) 1 (.string (s.extract a b)) rfl) 2 (.int .i64 0) rfl) 3 (.slice none 0 0) rfl) hu25 rfl rfl) rfl ?_
      refine ⟨⟨by rw [← HE2.out], ?_⟩, ?_⟩
      · rw [← HE2.out]
        exact ((((HB.out.far HG.out _).far HG.out _).far HG.out _).far HG.out _)
      · exact ((((HK.out.setNew (Nat.le_refl _) _).setNew (Nat.le_refl _) _).setNew (Nat.le_refl _) _).setNew (Nat.le_refl _) _)
end Go.Proofs.YtlmmbefejmbpeaaDoor.M
namespace Go.Proofs.YtlmmbefejmbpeaaDoor.M
open Go.RowKit Go.Shelf Go.Proofs.Qp Go.Proofs.YtlmmbefejmbpeaaDoorW.PrintWords Go.Proofs.YtlmmbefejmbpeaaDoorW.PrintLast Go.Proofs.YtlmmbefejmbpeaaDoorW.PrintMore Go.Proofs.YtlmmbefejmbpeaaDoor.PQry0 Go.Proofs.YtlmmbefejmbpeaaDoor.G
set_option linter.unusedVariables false
set_option linter.unusedSimpArgs false
set_option maxHeartbeats 4000000 in
set_option maxRecDepth 100000 in
theorem word_pair {w : World} {g : Nat} {s : ByteArray} {a o : Nat} (h : RdAt w g s a o) (hT : TT g w) (hs : s.size ≤ 1000) (ha : a ≤ s.size) (hX : ¬ (s.extract a (wend (lt s) a)) = ⟨#[42]⟩) (h1 : oneB (s.extract a (wend (lt s) a)) = false) (h2 : pairB (s.extract a (wend (lt s) a)) = true) :
    Calls Tryd.prog 47 #[rp g] w fun e w' => (e = .returned (.agg #[.int .u8 2, .string (s.extract a (wend (lt s) a)), .int .i64 0, .slice none 0 0]) ∧ RdAt w' g s (wend (lt s) a) o) ∧ Kp (fun k => k = g) w w' := by
  obtain ⟨c0, c1, c2, f1, f2⟩ := h.cells
  have H := Aside0.mk h
  clear h
  have HG : Aside0 (w.heap.size ≠ g) := ⟨by have := H.out.lt; omega⟩
  have HT := Aside0.mk hT
  clear hT
  have HX := Aside0.mk hX
  have H1 := Aside0.mk h1
  have H2 := Aside0.mk h2
  clear hX h1 h2
  have HA := Aside0.mk (H.out.old (Below.alloc (Below.refl w.heap.size w) (Nat.le_refl _) (.cells #[.int .u8 0, .string ⟨#[]⟩, .int .i64 0, .slice none 0 0] 25)))
  obtain ⟨e0, e1, e2, k1, k2⟩ := HA.out.cells
  have hu25 := Tryd.underlying25
  have hs25 := Tryd.sizeOf25
  have hz25 := Tryd.zeroValue25
  go_enter Tryd.func47, Tryd.ntmps47
  go_wp2
  have HK0 := Aside0.mk (Kp.of_below (S := fun k => k = g) (Below.alloc (Below.refl w.heap.size w) (Nat.le_refl _) (.cells #[.int .u8 0, .string ⟨#[]⟩, .int .i64 0, .slice none 0 0] 25)))
  go_loopw [] (fun wq => ∃ b : Nat, a ≤ b ∧ b ≤ s.size ∧ Aside0 (RdAt wq g s b o) ∧ Aside0 (wend (lt s) b = wend (lt s) a) ∧ Aside0 (Kp (fun k => k = g) w wq) ∧ Aside0 (wq.heap[w.heap.size]? = some (.cells #[.int .u8 0, .string ⟨#[]⟩, .int .i64 0, .slice none 0 0] 25))) (fun wq => s.size - posOf g wq)
  case atStart => exact ⟨a, Nat.le_refl _, ha, HA, ⟨rfl⟩, HK0, ⟨by show (w.heap.push _)[w.heap.size]? = _; simp⟩⟩
  case round =>
    obtain ⟨b, hab, hb, HB, HE, HK, HR⟩ := hrel
    obtain ⟨d0, d1, d2, f1, f2⟩ := HB.out.cells
    cases hE : endB (lt s) b with
    | false =>
      have hlt : b < s.size := by have := endB_lt hE; simpa using this
      have HE2 := Aside0.mk ((wend_go hE).trans HE.out)
      have HEB := Aside0.mk hE
      clear hE
      go_wp2_with (first
        | (go_at_call 40; refine (end_any HB.out b hs (by omega)).mono ?_; rintro e w3 ⟨rfl, rfl⟩; rw [HEB.out]))
      have HN := HB.out.setA (b := b + 1) (x := (b : Int) + 1) (by omega)
      refine ⟨⟨b + 1, by omega, by omega, ⟨HN⟩, HE2, ⟨HK.out.setCell (p := ⟨g, 1, none⟩) rfl _⟩, ⟨?_⟩⟩, ?_⟩
      · rw [Below.heap_setCell _ _ _ _ (fun e => HG.out (by first | exact e | exact e.symm))]; exact HR.out
      · rw [HN.pos, HB.out.pos]; omega
    | true =>
      have HE2 : Aside0 (b = wend (lt s) a) := ⟨(wend_end hE).symm.trans HE.out⟩
      have HEB := Aside0.mk hE
      clear hE
      go_wp2_with (first
        | (go_at_call 40; refine (end_any HB.out b hs (by omega)).mono ?_; rintro e w3 ⟨rfl, rfl⟩; rw [HEB.out]))
      have hb0 : (0 : Int) ≤ (a : Int) := by omega
      have hb1 : (b : Int) ≤ (s.size : Int) := by omega
      have hb2 : (a : Int) ≤ (b : Int) := by omega
      rw [← HE2.out] at HX
      rw [← HE2.out] at H1
      rw [← HE2.out] at H2
      go_region_held3 (fun W' => (W'.cell? ⟨g, 0, none⟩ = some (.string s) ∧ W'.cell? ⟨g, 1, none⟩ = some (.int .i64 (b : Int))) ∧ Aside0 (RdAt W' g s b o ∧ Kp (fun k => k = g) w W' ∧ W'.heap[w.heap.size]? = some (.cells #[.int .u8 0, .string ⟨#[]⟩, .int .i64 0, .slice none 0 0] 25))) (exact ⟨⟨d0, d1⟩, ⟨HB.out.drew, HK.out.drew, HR.out⟩⟩) (fail)
      have HTR := Aside0.mk (HT.out.kp HK.out.drew).tabs
      replace HB := Aside0.mk HB.out.drew
      replace HK := Aside0.mk HK.out.drew
      have hX := not_star HX.out
      have hX2 : ¬ (s.extract a b).toList = [42] := by simpa using hX
      go_wp2_with (first
        | (go_at_call 56; refine (one_any _ _ (by simp; omega) HTR.out).mono ?_; rintro e w5 ⟨rfl, hB⟩; rw [H1.out]; replace HR := Aside0.mk ((hB.block w.heap.size (blk_lt HR.out)).trans HR.out); replace HB := Aside0.mk (HB.out.old hB); replace HK := Aside0.mk (HK.out.trans (Kp.of_below hB)); replace HTR := Aside0.mk (tabs_below HTR.out hB); clear hB; have hr := HR.out; have r0 := blk_cell hr 0; have r1 := blk_cell hr 1; have r2 := blk_cell hr 2; have r3 := blk_cell hr 3; have q0 := blk_frozen hr 0; have q1 := blk_frozen hr 1; have q2 := blk_frozen hr 2; have q3 := blk_frozen hr 3; clear hr)
        | (go_at_call 57; refine (pair_any _ _ (by simp; omega) HTR.out).mono ?_; rintro e w6 ⟨rfl, hB⟩; rw [H2.out]; replace HR := Aside0.mk ((hB.block w.heap.size (blk_lt HR.out)).trans HR.out); replace HB := Aside0.mk (HB.out.old hB); replace HK := Aside0.mk (HK.out.trans (Kp.of_below hB)); replace HTR := Aside0.mk (tabs_below HTR.out hB); clear hB; clear r0 r1 r2 r3 q0 q1 q2 q3; have hr := HR.out; have r0 := blk_cell hr 0; have r1 := blk_cell hr 1; have r2 := blk_cell hr 2; have r3 := blk_cell hr 3; have q0 := blk_frozen hr 0; have q1 := blk_frozen hr 1; have q2 := blk_frozen hr 2; have q3 := blk_frozen hr 3; clear hr))
      refine bodyPost_ret (results_cell_row rfl _ _ w.heap.size 25 #[.int .u8 2, .string (s.extract a b), .int .i64 0, .slice none 0 0] (0, 0) _ rfl (blk_put (blk_put (blk_put (blk_put HR.out 0 (.int .u8 2) rfl) 1 (.string (s.extract a b)) rfl) 2 (.int .i64 0) rfl) 3 (.slice none 0 0) rfl) hu25 rfl rfl) rfl ?_
      refine ⟨⟨by rw [← HE2.out], ?_⟩, ?_⟩
      · rw [← HE2.out]
        exact ((((HB.out.far HG.out _).far HG.out _).far HG.out _).far HG.out _)
      · exact ((((HK.out.setNew (Nat.le_refl _) _).setNew (Nat.le_refl _) _).setNew (Nat.le_refl _) _).setNew (Nat.le_refl _) _)
end Go.Proofs.YtlmmbefejmbpeaaDoor.M
namespace Go.Proofs.YtlmmbefejmbpeaaDoor.M
open Go.RowKit Go.Shelf Go.Proofs.Qp Go.Proofs.YtlmmbefejmbpeaaDoorW.PrintWords Go.Proofs.YtlmmbefejmbpeaaDoorW.PrintLast Go.Proofs.YtlmmbefejmbpeaaDoorW.PrintMore Go.Proofs.YtlmmbefejmbpeaaDoor.PQry0 Go.Proofs.YtlmmbefejmbpeaaDoor.G
set_option linter.unusedVariables false
set_option linter.unusedSimpArgs false
set_option maxHeartbeats 4000000 in
set_option maxRecDepth 100000 in
theorem word_empty {w : World} {g : Nat} {s : ByteArray} {a o : Nat} (h : RdAt w g s a o) (hT : TT g w) (hs : s.size ≤ 1000) (ha : a ≤ s.size) (hX : ¬ (s.extract a (wend (lt s) a)) = ⟨#[42]⟩) (h1 : oneB (s.extract a (wend (lt s) a)) = false) (h2 : pairB (s.extract a (wend (lt s) a)) = false) (h3 : (s.extract a (wend (lt s) a)) = ⟨#[]⟩) :
    Calls Tryd.prog 47 #[rp g] w fun e w' => e = .panicked (faultV a 4) ∧ Kp (fun k => k = g) w w' := by
  obtain ⟨c0, c1, c2, f1, f2⟩ := h.cells
  have H := Aside0.mk h
  clear h
  have HG : Aside0 (w.heap.size ≠ g) := ⟨by have := H.out.lt; omega⟩
  have HT := Aside0.mk hT
  clear hT
  have HX := Aside0.mk hX
  have H1 := Aside0.mk h1
  have H2 := Aside0.mk h2
  have H3 := Aside0.mk h3
  clear hX h1 h2 h3
  have HA := Aside0.mk (H.out.old (Below.alloc (Below.refl w.heap.size w) (Nat.le_refl _) (.cells #[.int .u8 0, .string ⟨#[]⟩, .int .i64 0, .slice none 0 0] 25)))
  obtain ⟨e0, e1, e2, k1, k2⟩ := HA.out.cells
  have hu25 := Tryd.underlying25
  have hs25 := Tryd.sizeOf25
  have hz25 := Tryd.zeroValue25
  go_enter Tryd.func47, Tryd.ntmps47
  go_wp2
  have HK0 := Aside0.mk (Kp.of_below (S := fun k => k = g) (Below.alloc (Below.refl w.heap.size w) (Nat.le_refl _) (.cells #[.int .u8 0, .string ⟨#[]⟩, .int .i64 0, .slice none 0 0] 25)))
  go_loopw [] (fun wq => ∃ b : Nat, a ≤ b ∧ b ≤ s.size ∧ Aside0 (RdAt wq g s b o) ∧ Aside0 (wend (lt s) b = wend (lt s) a) ∧ Aside0 (Kp (fun k => k = g) w wq) ∧ Aside0 (wq.heap[w.heap.size]? = some (.cells #[.int .u8 0, .string ⟨#[]⟩, .int .i64 0, .slice none 0 0] 25))) (fun wq => s.size - posOf g wq)
  case atStart => exact ⟨a, Nat.le_refl _, ha, HA, ⟨rfl⟩, HK0, ⟨by show (w.heap.push _)[w.heap.size]? = _; simp⟩⟩
  case round =>
    obtain ⟨b, hab, hb, HB, HE, HK, HR⟩ := hrel
    obtain ⟨d0, d1, d2, f1, f2⟩ := HB.out.cells
    cases hE : endB (lt s) b with
    | false =>
      have hlt : b < s.size := by have := endB_lt hE; simpa using this
      have HE2 := Aside0.mk ((wend_go hE).trans HE.out)
      have HEB := Aside0.mk hE
      clear hE
      go_wp2_with (first
        | (go_at_call 40; refine (end_any HB.out b hs (by omega)).mono ?_; rintro e w3 ⟨rfl, rfl⟩; rw [HEB.out]))
      have HN := HB.out.setA (b := b + 1) (x := (b : Int) + 1) (by omega)
      refine ⟨⟨b + 1, by omega, by omega, ⟨HN⟩, HE2, ⟨HK.out.setCell (p := ⟨g, 1, none⟩) rfl _⟩, ⟨?_⟩⟩, ?_⟩
      · rw [Below.heap_setCell _ _ _ _ (fun e => HG.out (by first | exact e | exact e.symm))]; exact HR.out
      · rw [HN.pos, HB.out.pos]; omega
    | true =>
      have HE2 : Aside0 (b = wend (lt s) a) := ⟨(wend_end hE).symm.trans HE.out⟩
      have HEB := Aside0.mk hE
      clear hE
      go_wp2_with (first
        | (go_at_call 40; refine (end_any HB.out b hs (by omega)).mono ?_; rintro e w3 ⟨rfl, rfl⟩; rw [HEB.out]))
      have hb0 : (0 : Int) ≤ (a : Int) := by omega
      have hb1 : (b : Int) ≤ (s.size : Int) := by omega
      have hb2 : (a : Int) ≤ (b : Int) := by omega
      rw [← HE2.out] at HX
      rw [← HE2.out] at H1
      rw [← HE2.out] at H2
      rw [← HE2.out] at H3
      go_region_held3 (fun W' => (W'.cell? ⟨g, 0, none⟩ = some (.string s) ∧ W'.cell? ⟨g, 1, none⟩ = some (.int .i64 (b : Int))) ∧ Aside0 (RdAt W' g s b o ∧ Kp (fun k => k = g) w W' ∧ W'.heap[w.heap.size]? = some (.cells #[.int .u8 0, .string ⟨#[]⟩, .int .i64 0, .slice none 0 0] 25))) (exact ⟨⟨d0, d1⟩, ⟨HB.out.drew, HK.out.drew, HR.out⟩⟩) (fail)
      have HTR := Aside0.mk (HT.out.kp HK.out.drew).tabs
      replace HB := Aside0.mk HB.out.drew
      replace HK := Aside0.mk HK.out.drew
      have hbs : (s.extract a b).size ≤ 1000 := by simp; omega
      generalize s.extract a b = X at HX H1 H2 H3 hbs ⊢
      have hX := not_star HX.out
      have hX2 : ¬ X.toList = [42] := by simpa using hX
      have hE0 : X.toList = [] := by rw [H3.out, ByteArray.toList_eq]
      have hE1 : (X.toList == []) = true := by rw [hE0]; rfl
      go_wp2_with (first
        | (go_at_call 56; refine (one_any _ _ (by omega) HTR.out).mono ?_; rintro e w5 ⟨rfl, hB⟩; rw [H1.out]; replace HR := Aside0.mk ((hB.block w.heap.size (blk_lt HR.out)).trans HR.out); replace HB := Aside0.mk (HB.out.old hB); replace HK := Aside0.mk (HK.out.trans (Kp.of_below hB)); replace HTR := Aside0.mk (tabs_below HTR.out hB); clear hB; have hr := HR.out; have r0 := blk_cell hr 0; have r1 := blk_cell hr 1; have r2 := blk_cell hr 2; have r3 := blk_cell hr 3; have q0 := blk_frozen hr 0; have q1 := blk_frozen hr 1; have q2 := blk_frozen hr 2; have q3 := blk_frozen hr 3; clear hr)
        | (go_at_call 57; refine (pair_any _ _ (by omega) HTR.out).mono ?_; rintro e w6 ⟨rfl, hB⟩; rw [H2.out]; replace HR := Aside0.mk ((hB.block w.heap.size (blk_lt HR.out)).trans HR.out); replace HB := Aside0.mk (HB.out.old hB); replace HK := Aside0.mk (HK.out.trans (Kp.of_below hB)); replace HTR := Aside0.mk (tabs_below HTR.out hB); clear hB; clear r0 r1 r2 r3 q0 q1 q2 q3; have hr := HR.out; have r0 := blk_cell hr 0; have r1 := blk_cell hr 1; have r2 := blk_cell hr 2; have r3 := blk_cell hr 3; have q0 := blk_frozen hr 0; have q1 := blk_frozen hr 1; have q2 := blk_frozen hr 2; have q3 := blk_frozen hr 3; clear hr)
        | (go_at_call 19; refine (give_any a 4 _).mono ?_; rintro e w7 ⟨rfl, rfl⟩))
      exact ⟨rfl, rfl, HK.out⟩
end Go.Proofs.YtlmmbefejmbpeaaDoor.M
namespace Go.Proofs.YtlmmbefejmbpeaaDoor.M
open Go.RowKit Go.Shelf Go.Proofs.Qp Go.Proofs.YtlmmbefejmbpeaaDoorW.PrintWords Go.Proofs.YtlmmbefejmbpeaaDoorW.PrintLast Go.Proofs.YtlmmbefejmbpeaaDoorW.PrintMore Go.Proofs.YtlmmbefejmbpeaaDoor.PQry0 Go.Proofs.YtlmmbefejmbpeaaDoor.G
set_option linter.unusedVariables false
set_option linter.unusedSimpArgs false
set_option maxHeartbeats 4000000 in
set_option maxRecDepth 100000 in
theorem word_after {w : World} {g : Nat} {s : ByteArray} {a o : Nat} (h : RdAt w g s a o) (hT : TT g w) (hs : s.size ≤ 1000) (ha : a ≤ s.size) (hX : ¬ (s.extract a (wend (lt s) a)) = ⟨#[42]⟩) (h1 : oneB (s.extract a (wend (lt s) a)) = false) (h2 : pairB (s.extract a (wend (lt s) a)) = false) (h3 : (lt (s.extract a (wend (lt s) a)))[0]? = some 62) (n : Int) (h4 : Lib.parseIntB 64 (lt ((s.extract a (wend (lt s) a)).extract 1 (s.extract a (wend (lt s) a)).size)) = .ok n) (h5 : (⟨(Lib.itoa n).toArray⟩ : ByteArray) = ((s.extract a (wend (lt s) a)).extract 1 (s.extract a (wend (lt s) a)).size)) :
    Calls Tryd.prog 47 #[rp g] w fun e w' => (e = .returned (.agg #[.int .u8 6, .string ⟨#[]⟩, .int .i64 n, .slice none 0 0]) ∧ RdAt w' g s (wend (lt s) a) o) ∧ Kp (fun k => k = g) w w' := by
  obtain ⟨c0, c1, c2, f1, f2⟩ := h.cells
  have H := Aside0.mk h
  clear h
  have HG : Aside0 (w.heap.size ≠ g) := ⟨by have := H.out.lt; omega⟩
  have HT := Aside0.mk hT
  clear hT
  have HX := Aside0.mk hX
  have H1 := Aside0.mk h1
  have H2 := Aside0.mk h2
  have HC := Aside0.mk h3
  have HPA := Aside0.mk h4
  have HFM := Aside0.mk h5
  clear hX h1 h2 h3 h4 h5
  have HA := Aside0.mk (H.out.old (Below.alloc (Below.refl w.heap.size w) (Nat.le_refl _) (.cells #[.int .u8 0, .string ⟨#[]⟩, .int .i64 0, .slice none 0 0] 25)))
  obtain ⟨e0, e1, e2, k1, k2⟩ := HA.out.cells
  have hu25 := Tryd.underlying25
  have hs25 := Tryd.sizeOf25
  have hz25 := Tryd.zeroValue25
  go_enter Tryd.func47, Tryd.ntmps47
  go_wp2
  have HK0 := Aside0.mk (Kp.of_below (S := fun k => k = g) (Below.alloc (Below.refl w.heap.size w) (Nat.le_refl _) (.cells #[.int .u8 0, .string ⟨#[]⟩, .int .i64 0, .slice none 0 0] 25)))
  go_loopw [] (fun wq => ∃ b : Nat, a ≤ b ∧ b ≤ s.size ∧ Aside0 (RdAt wq g s b o) ∧ Aside0 (wend (lt s) b = wend (lt s) a) ∧ Aside0 (Kp (fun k => k = g) w wq) ∧ Aside0 (wq.heap[w.heap.size]? = some (.cells #[.int .u8 0, .string ⟨#[]⟩, .int .i64 0, .slice none 0 0] 25))) (fun wq => s.size - posOf g wq)
  case atStart => exact ⟨a, Nat.le_refl _, ha, HA, ⟨rfl⟩, HK0, ⟨by show (w.heap.push _)[w.heap.size]? = _; simp⟩⟩
  case round =>
    obtain ⟨b, hab, hb, HB, HE, HK, HR⟩ := hrel
    obtain ⟨d0, d1, d2, f1, f2⟩ := HB.out.cells
    cases hE : endB (lt s) b with
    | false =>
      have hlt : b < s.size := by have := endB_lt hE; simpa using this
      have HE2 := Aside0.mk ((wend_go hE).trans HE.out)
      have HEB := Aside0.mk hE
      clear hE
      go_wp2_with (first
        | (go_at_call 40; refine (end_any HB.out b hs (by omega)).mono ?_; rintro e w3 ⟨rfl, rfl⟩; rw [HEB.out]))
      have HN := HB.out.setA (b := b + 1) (x := (b : Int) + 1) (by omega)
      refine ⟨⟨b + 1, by omega, by omega, ⟨HN⟩, HE2, ⟨HK.out.setCell (p := ⟨g, 1, none⟩) rfl _⟩, ⟨?_⟩⟩, ?_⟩
      · rw [Below.heap_setCell _ _ _ _ (fun e => HG.out (by first | exact e | exact e.symm))]; exact HR.out
      · rw [HN.pos, HB.out.pos]; omega
    | true =>
      have HE2 : Aside0 (b = wend (lt s) a) := ⟨(wend_end hE).symm.trans HE.out⟩
      have HEB := Aside0.mk hE
      clear hE
      go_wp2_with (first
        | (go_at_call 40; refine (end_any HB.out b hs (by omega)).mono ?_; rintro e w3 ⟨rfl, rfl⟩; rw [HEB.out]))
      have hb0 : (0 : Int) ≤ (a : Int) := by omega
      have hb1 : (b : Int) ≤ (s.size : Int) := by omega
      have hb2 : (a : Int) ≤ (b : Int) := by omega
      rw [← HE2.out] at HX
      rw [← HE2.out] at H1
      rw [← HE2.out] at H2
      rw [← HE2.out] at HC
      rw [← HE2.out] at HPA
      rw [← HE2.out] at HFM
      go_region_held3 (fun W' => (W'.cell? ⟨g, 0, none⟩ = some (.string s) ∧ W'.cell? ⟨g, 1, none⟩ = some (.int .i64 (b : Int))) ∧ Aside0 (RdAt W' g s b o ∧ Kp (fun k => k = g) w W' ∧ W'.heap[w.heap.size]? = some (.cells #[.int .u8 0, .string ⟨#[]⟩, .int .i64 0, .slice none 0 0] 25))) (exact ⟨⟨d0, d1⟩, ⟨HB.out.drew, HK.out.drew, HR.out⟩⟩) (fail)
      have HTR := Aside0.mk (HT.out.kp HK.out.drew).tabs
      replace HB := Aside0.mk HB.out.drew
      replace HK := Aside0.mk HK.out.drew
      have hbs : (s.extract a b).size ≤ 1000 := by simp; omega
      generalize s.extract a b = X at HX H1 H2 HC HPA HFM hbs ⊢
      have hX := not_star HX.out
      have hX2 : ¬ X.toList = [42] := by simpa using hX
      have hne : (X.toList == []) = false := by
        rw [ByteArray.toList_eq]
        have := HC.out
        cases hq : X.data.toList with
        | nil => rw [lt, hq] at this; simp at this
        | cons _ _ => rfl
      have hne2 : ¬ X.toList = [] := by simpa using hne
      have hsz : 0 < X.size := by
        rcases Nat.eq_zero_or_pos X.size with h0 | h0
        · exfalso; apply hne2; rw [ByteArray.toList_eq]; exact List.length_eq_zero_iff.1 (by simpa using h0)
        · exact h0
      have h1sz : (1 : Int) ≤ (X.size : Int) := by omega
      have hd0 : decide (0 < X.size) = true := decide_eq_true hsz
      have hc0 : X[0].toNat = 62 := by
        have := HC.out
        rw [byte_eq X hsz] at this
        injection this with this
        rw [this]; rfl
      have hc1 : (X[0].toNat : Int) = 62 := by omega
      have HN0 := Aside0.mk (parse_bounds HPA.out).1
      have HN1 := Aside0.mk (parse_bounds HPA.out).2
      go_wp2_with (first
        | (go_at_call 56; refine (one_any _ _ (by omega) HTR.out).mono ?_; rintro e w5 ⟨rfl, hB⟩; rw [H1.out]; replace HR := Aside0.mk ((hB.block w.heap.size (blk_lt HR.out)).trans HR.out); replace HB := Aside0.mk (HB.out.old hB); replace HK := Aside0.mk (HK.out.trans (Kp.of_below hB)); replace HTR := Aside0.mk (tabs_below HTR.out hB); clear hB; have hr := HR.out; have r0 := blk_cell hr 0; have r1 := blk_cell hr 1; have r2 := blk_cell hr 2; have r3 := blk_cell hr 3; have q0 := blk_frozen hr 0; have q1 := blk_frozen hr 1; have q2 := blk_frozen hr 2; have q3 := blk_frozen hr 3; clear hr)
        | (go_at_call 57; refine (pair_any _ _ (by omega) HTR.out).mono ?_; rintro e w6 ⟨rfl, hB⟩; rw [H2.out]; replace HR := Aside0.mk ((hB.block w.heap.size (blk_lt HR.out)).trans HR.out); replace HB := Aside0.mk (HB.out.old hB); replace HK := Aside0.mk (HK.out.trans (Kp.of_below hB)); replace HTR := Aside0.mk (tabs_below HTR.out hB); clear hB; clear r0 r1 r2 r3 q0 q1 q2 q3; have hr := HR.out; have r0 := blk_cell hr 0; have r1 := blk_cell hr 1; have r2 := blk_cell hr 2; have r3 := blk_cell hr 3; have q0 := blk_frozen hr 0; have q1 := blk_frozen hr 1; have q2 := blk_frozen hr 2; have q3 := blk_frozen hr 3; clear hr)
        | (go_at_call 58; refine (parse_ok _ _ (by simp; omega) HTR.out HPA.out).mono ?_; rintro e w8 ⟨rfl, hB⟩; replace HR := Aside0.mk ((hB.block w.heap.size (blk_lt HR.out)).trans HR.out); replace HB := Aside0.mk (HB.out.old hB); replace HK := Aside0.mk (HK.out.trans (Kp.of_below hB)); replace HTR := Aside0.mk (tabs_below HTR.out hB); clear hB; clear r0 r1 r2 r3 q0 q1 q2 q3; have hr := HR.out; have r0 := blk_cell hr 0; have r1 := blk_cell hr 1; have r2 := blk_cell hr 2; have r3 := blk_cell hr 3; have q0 := blk_frozen hr 0; have q1 := blk_frozen hr 1; have q2 := blk_frozen hr 2; have q3 := blk_frozen hr 3; clear hr))
      clear r0 r1 r2 r3 q0 q1 q2 q3
      have HS : Aside0 (Kst w g s b o _) := ⟨⟨HB.out, HK.out, HR.out, HTR.out⟩⟩
      go_region_held3 (fun W' => Aside0 (Kst w g s b o W')) (first | exact HS | exact ⟨HS.out.drew⟩) (first
        | (go_at_call 37; refine (fmt_any _ HN0.out HN1.out _ (by exact HS.out.tb)).mono ?_; rintro e w9 ⟨rfl, hB⟩; replace HS := Aside0.mk (show Kst w g s b o w9 from HS.out.drew.old hB); rw [HFM.out]))
      obtain ⟨HB, HK, HR, HTR⟩ := HS.out
      replace HB := Aside0.mk HB
      replace HK := Aside0.mk HK
      replace HR := Aside0.mk HR
      have hr := HR.out; have r0 := blk_cell hr 0; have r1 := blk_cell hr 1; have r2 := blk_cell hr 2; have r3 := blk_cell hr 3; have q0 := blk_frozen hr 0; have q1 := blk_frozen hr 1; have q2 := blk_frozen hr 2; have q3 := blk_frozen hr 3; clear hr
      go_wp2
      refine bodyPost_ret (results_cell_row rfl _ _ w.heap.size 25 #[.int .u8 6, .string ⟨#[]⟩, .int .i64 n, .slice none 0 0] (0, 0) _ rfl (blk_put (blk_put (blk_put (blk_put HR.out 0 (.int .u8 6) rfl) 1 (.string ⟨#[]⟩) rfl) 2 (.int .i64 n) rfl) 3 (.slice none 0 0) rfl) hu25 rfl rfl) rfl ?_
      refine ⟨⟨by first | rfl | rw [← HE2.out], ?_⟩, ?_⟩
      · rw [← HE2.out]
        exact ((((HB.out.far HG.out _).far HG.out _).far HG.out _).far HG.out _)
      · exact ((((HK.out.setNew (Nat.le_refl _) _).setNew (Nat.le_refl _) _).setNew (Nat.le_refl _) _).setNew (Nat.le_refl _) _)
end Go.Proofs.YtlmmbefejmbpeaaDoor.M
namespace Go.Proofs.YtlmmbefejmbpeaaDoor.M
open Go.RowKit Go.Shelf Go.Proofs.Qp Go.Proofs.YtlmmbefejmbpeaaDoorW.PrintWords Go.Proofs.YtlmmbefejmbpeaaDoorW.PrintLast Go.Proofs.YtlmmbefejmbpeaaDoorW.PrintMore Go.Proofs.YtlmmbefejmbpeaaDoor.PQry0 Go.Proofs.YtlmmbefejmbpeaaDoor.G
set_option linter.unusedVariables false
set_option linter.unusedSimpArgs false
set_option maxHeartbeats 4000000 in
set_option maxRecDepth 100000 in
theorem word_before {w : World} {g : Nat} {s : ByteArray} {a o : Nat} (h : RdAt w g s a o) (hT : TT g w) (hs : s.size ≤ 1000) (ha : a ≤ s.size) (hX : ¬ (s.extract a (wend (lt s) a)) = ⟨#[42]⟩) (h1 : oneB (s.extract a (wend (lt s) a)) = false) (h2 : pairB (s.extract a (wend (lt s) a)) = false) (h3 : (lt (s.extract a (wend (lt s) a)))[0]? = some 60) (n : Int) (h4 : Lib.parseIntB 64 (lt ((s.extract a (wend (lt s) a)).extract 1 (s.extract a (wend (lt s) a)).size)) = .ok n) (h5 : (⟨(Lib.itoa n).toArray⟩ : ByteArray) = ((s.extract a (wend (lt s) a)).extract 1 (s.extract a (wend (lt s) a)).size)) :
    Calls Tryd.prog 47 #[rp g] w fun e w' => (e = .returned (.agg #[.int .u8 7, .string ⟨#[]⟩, .int .i64 n, .slice none 0 0]) ∧ RdAt w' g s (wend (lt s) a) o) ∧ Kp (fun k => k = g) w w' := by
  obtain ⟨c0, c1, c2, f1, f2⟩ := h.cells
  have H := Aside0.mk h
  clear h
  have HG : Aside0 (w.heap.size ≠ g) := ⟨by have := H.out.lt; omega⟩
  have HT := Aside0.mk hT
  clear hT
  have HX := Aside0.mk hX
  have H1 := Aside0.mk h1
  have H2 := Aside0.mk h2
  have HC := Aside0.mk h3
  have HPA := Aside0.mk h4
  have HFM := Aside0.mk h5
  clear hX h1 h2 h3 h4 h5
  have HA := Aside0.mk (H.out.old (Below.alloc (Below.refl w.heap.size w) (Nat.le_refl _) (.cells #[.int .u8 0, .string ⟨#[]⟩, .int .i64 0, .slice none 0 0] 25)))
  obtain ⟨e0, e1, e2, k1, k2⟩ := HA.out.cells
  have hu25 := Tryd.underlying25
  have hs25 := Tryd.sizeOf25
  have hz25 := Tryd.zeroValue25
  go_enter Tryd.func47, Tryd.ntmps47
  go_wp2
  have HK0 := Aside0.mk (Kp.of_below (S := fun k => k = g) (Below.alloc (Below.refl w.heap.size w) (Nat.le_refl _) (.cells #[.int .u8 0, .string ⟨#[]⟩, .int .i64 0, .slice none 0 0] 25)))
  go_loopw [] (fun wq => ∃ b : Nat, a ≤ b ∧ b ≤ s.size ∧ Aside0 (RdAt wq g s b o) ∧ Aside0 (wend (lt s) b = wend (lt s) a) ∧ Aside0 (Kp (fun k => k = g) w wq) ∧ Aside0 (wq.heap[w.heap.size]? = some (.cells #[.int .u8 0, .string ⟨#[]⟩, .int .i64 0, .slice none 0 0] 25))) (fun wq => s.size - posOf g wq)
  case atStart => exact ⟨a, Nat.le_refl _, ha, HA, ⟨rfl⟩, HK0, ⟨by show (w.heap.push _)[w.heap.size]? = _; simp⟩⟩
  case round =>
    obtain ⟨b, hab, hb, HB, HE, HK, HR⟩ := hrel
    obtain ⟨d0, d1, d2, f1, f2⟩ := HB.out.cells
    cases hE : endB (lt s) b with
    | false =>
      have hlt : b < s.size := by have := endB_lt hE; simpa using this
      have HE2 := Aside0.mk ((wend_go hE).trans HE.out)
      have HEB := Aside0.mk hE
      clear hE
      go_wp2_with (first
        | (go_at_call 40; refine (end_any HB.out b hs (by omega)).mono ?_; rintro e w3 ⟨rfl, rfl⟩; rw [HEB.out]))
      have HN := HB.out.setA (b := b + 1) (x := (b : Int) + 1) (by omega)
      refine ⟨⟨b + 1, by omega, by omega, ⟨HN⟩, HE2, ⟨HK.out.setCell (p := ⟨g, 1, none⟩) rfl _⟩, ⟨?_⟩⟩, ?_⟩
      · rw [Below.heap_setCell _ _ _ _ (fun e => HG.out (by first | exact e | exact e.symm))]; exact HR.out
      · rw [HN.pos, HB.out.pos]; omega
    | true =>
      have HE2 : Aside0 (b = wend (lt s) a) := ⟨(wend_end hE).symm.trans HE.out⟩
      have HEB := Aside0.mk hE
      clear hE
      go_wp2_with (first
        | (go_at_call 40; refine (end_any HB.out b hs (by omega)).mono ?_; rintro e w3 ⟨rfl, rfl⟩; rw [HEB.out]))
      have hb0 : (0 : Int) ≤ (a : Int) := by omega
      have hb1 : (b : Int) ≤ (s.size : Int) := by omega
      have hb2 : (a : Int) ≤ (b : Int) := by omega
      rw [← HE2.out] at HX
      rw [← HE2.out] at H1
      rw [← HE2.out] at H2
      rw [← HE2.out] at HC
      rw [← HE2.out] at HPA
      rw [← HE2.out] at HFM
      go_region_held3 (fun W' => (W'.cell? ⟨g, 0, none⟩ = some (.string s) ∧ W'.cell? ⟨g, 1, none⟩ = some (.int .i64 (b : Int))) ∧ Aside0 (RdAt W' g s b o ∧ Kp (fun k => k = g) w W' ∧ W'.heap[w.heap.size]? = some (.cells #[.int .u8 0, .string ⟨#[]⟩, .int .i64 0, .slice none 0 0] 25))) (exact ⟨⟨d0, d1⟩, ⟨HB.out.drew, HK.out.drew, HR.out⟩⟩) (fail)
      have HTR := Aside0.mk (HT.out.kp HK.out.drew).tabs
      replace HB := Aside0.mk HB.out.drew
      replace HK := Aside0.mk HK.out.drew
      have hbs : (s.extract a b).size ≤ 1000 := by simp; omega
      generalize s.extract a b = X at HX H1 H2 HC HPA HFM hbs ⊢
      have hX := not_star HX.out
      have hX2 : ¬ X.toList = [42] := by simpa using hX
      have hne : (X.toList == []) = false := by
        rw [ByteArray.toList_eq]
        have := HC.out
        cases hq : X.data.toList with
        | nil => rw [lt, hq] at this; simp at this
        | cons _ _ => rfl
      have hne2 : ¬ X.toList = [] := by simpa using hne
      have hsz : 0 < X.size := by
        rcases Nat.eq_zero_or_pos X.size with h0 | h0
        · exfalso; apply hne2; rw [ByteArray.toList_eq]; exact List.length_eq_zero_iff.1 (by simpa using h0)
        · exact h0
      have h1sz : (1 : Int) ≤ (X.size : Int) := by omega
      have hd0 : decide (0 < X.size) = true := decide_eq_true hsz
      have hc0 : X[0].toNat = 60 := by
        have := HC.out
        rw [byte_eq X hsz] at this
        injection this with this
        rw [this]; rfl
      have hc1 : (X[0].toNat : Int) = 60 := by omega
      have HN0 := Aside0.mk (parse_bounds HPA.out).1
      have HN1 := Aside0.mk (parse_bounds HPA.out).2
      go_wp2_with (first
        | (go_at_call 56; refine (one_any _ _ (by omega) HTR.out).mono ?_; rintro e w5 ⟨rfl, hB⟩; rw [H1.out]; replace HR := Aside0.mk ((hB.block w.heap.size (blk_lt HR.out)).trans HR.out); replace HB := Aside0.mk (HB.out.old hB); replace HK := Aside0.mk (HK.out.trans (Kp.of_below hB)); replace HTR := Aside0.mk (tabs_below HTR.out hB); clear hB; have hr := HR.out; have r0 := blk_cell hr 0; have r1 := blk_cell hr 1; have r2 := blk_cell hr 2; have r3 := blk_cell hr 3; have q0 := blk_frozen hr 0; have q1 := blk_frozen hr 1; have q2 := blk_frozen hr 2; have q3 := blk_frozen hr 3; clear hr)
        | (go_at_call 57; refine (pair_any _ _ (by omega) HTR.out).mono ?_; rintro e w6 ⟨rfl, hB⟩; rw [H2.out]; replace HR := Aside0.mk ((hB.block w.heap.size (blk_lt HR.out)).trans HR.out); replace HB := Aside0.mk (HB.out.old hB); replace HK := Aside0.mk (HK.out.trans (Kp.of_below hB)); replace HTR := Aside0.mk (tabs_below HTR.out hB); clear hB; clear r0 r1 r2 r3 q0 q1 q2 q3; have hr := HR.out; have r0 := blk_cell hr 0; have r1 := blk_cell hr 1; have r2 := blk_cell hr 2; have r3 := blk_cell hr 3; have q0 := blk_frozen hr 0; have q1 := blk_frozen hr 1; have q2 := blk_frozen hr 2; have q3 := blk_frozen hr 3; clear hr)
        | (go_at_call 58; refine (parse_ok _ _ (by simp; omega) HTR.out HPA.out).mono ?_; rintro e w8 ⟨rfl, hB⟩; replace HR := Aside0.mk ((hB.block w.heap.size (blk_lt HR.out)).trans HR.out); replace HB := Aside0.mk (HB.out.old hB); replace HK := Aside0.mk (HK.out.trans (Kp.of_below hB)); replace HTR := Aside0.mk (tabs_below HTR.out hB); clear hB; clear r0 r1 r2 r3 q0 q1 q2 q3; have hr := HR.out; have r0 := blk_cell hr 0; have r1 := blk_cell hr 1; have r2 := blk_cell hr 2; have r3 := blk_cell hr 3; have q0 := blk_frozen hr 0; have q1 := blk_frozen hr 1; have q2 := blk_frozen hr 2; have q3 := blk_frozen hr 3; clear hr))
      clear r0 r1 r2 r3 q0 q1 q2 q3
      have HS : Aside0 (Kst w g s b o _) := ⟨⟨HB.out, HK.out, HR.out, HTR.out⟩⟩
      go_region_held3 (fun W' => Aside0 (Kst w g s b o W')) (first | exact HS | exact ⟨HS.out.drew⟩) (first
        | (go_at_call 37; refine (fmt_any _ HN0.out HN1.out _ (by exact HS.out.tb)).mono ?_; rintro e w9 ⟨rfl, hB⟩; replace HS := Aside0.mk (show Kst w g s b o w9 from HS.out.drew.old hB); rw [HFM.out]))
      obtain ⟨HB, HK, HR, HTR⟩ := HS.out
      replace HB := Aside0.mk HB
      replace HK := Aside0.mk HK
      replace HR := Aside0.mk HR
      have hr := HR.out; have r0 := blk_cell hr 0; have r1 := blk_cell hr 1; have r2 := blk_cell hr 2; have r3 := blk_cell hr 3; have q0 := blk_frozen hr 0; have q1 := blk_frozen hr 1; have q2 := blk_frozen hr 2; have q3 := blk_frozen hr 3; clear hr
      go_wp2
      refine bodyPost_ret (results_cell_row rfl _ _ w.heap.size 25 #[.int .u8 7, .string ⟨#[]⟩, .int .i64 n, .slice none 0 0] (0, 0) _ rfl (blk_put (blk_put (blk_put (blk_put HR.out 0 (.int .u8 7) rfl) 1 (.string ⟨#[]⟩) rfl) 2 (.int .i64 n) rfl) 3 (.slice none 0 0) rfl) hu25 rfl rfl) rfl ?_
      refine ⟨⟨by first | rfl | rw [← HE2.out], ?_⟩, ?_⟩
      · rw [← HE2.out]
        exact ((((HB.out.far HG.out _).far HG.out _).far HG.out _).far HG.out _)
      · exact ((((HK.out.setNew (Nat.le_refl _) _).setNew (Nat.le_refl _) _).setNew (Nat.le_refl _) _).setNew (Nat.le_refl _) _)
end Go.Proofs.YtlmmbefejmbpeaaDoor.M
namespace Go.Proofs.YtlmmbefejmbpeaaDoor.M
open Go.RowKit Go.Shelf Go.Proofs.Qp Go.Proofs.YtlmmbefejmbpeaaDoorW.PrintWords Go.Proofs.YtlmmbefejmbpeaaDoorW.PrintLast Go.Proofs.YtlmmbefejmbpeaaDoorW.PrintMore Go.Proofs.YtlmmbefejmbpeaaDoor.PQry0 Go.Proofs.YtlmmbefejmbpeaaDoor.G
set_option linter.unusedVariables false
set_option linter.unusedSimpArgs false
set_option maxHeartbeats 4000000 in
set_option maxRecDepth 100000 in
theorem word_pargt {w : World} {g : Nat} {s : ByteArray} {a o : Nat} (h : RdAt w g s a o) (hT : TT g w) (hs : s.size ≤ 1000) (ha : a ≤ s.size) (hX : ¬ (s.extract a (wend (lt s) a)) = ⟨#[42]⟩) (h1 : oneB (s.extract a (wend (lt s) a)) = false) (h2 : pairB (s.extract a (wend (lt s) a)) = false) (h3 : (lt (s.extract a (wend (lt s) a)))[0]? = some 62) (h4 : ∀ v, Lib.parseIntB 64 (lt ((s.extract a (wend (lt s) a)).extract 1 (s.extract a (wend (lt s) a)).size)) ≠ .ok v) :
    Calls Tryd.prog 47 #[rp g] w fun e w' => e = .panicked (faultV a 4) ∧ Kp (fun k => k = g) w w' := by
  obtain ⟨c0, c1, c2, f1, f2⟩ := h.cells
  have H := Aside0.mk h
  clear h
  have HG : Aside0 (w.heap.size ≠ g) := ⟨by have := H.out.lt; omega⟩
  have HT := Aside0.mk hT
  clear hT
  have HX := Aside0.mk hX
  have H1 := Aside0.mk h1
  have H2 := Aside0.mk h2
  have HC := Aside0.mk h3
  have HPA := Aside0.mk h4
  clear hX h1 h2 h3 h4
  have HA := Aside0.mk (H.out.old (Below.alloc (Below.refl w.heap.size w) (Nat.le_refl _) (.cells #[.int .u8 0, .string ⟨#[]⟩, .int .i64 0, .slice none 0 0] 25)))
  obtain ⟨e0, e1, e2, k1, k2⟩ := HA.out.cells
  have hu25 := Tryd.underlying25
  have hs25 := Tryd.sizeOf25
  have hz25 := Tryd.zeroValue25
  go_enter Tryd.func47, Tryd.ntmps47
  go_wp2
  have HK0 := Aside0.mk (Kp.of_below (S := fun k => k = g) (Below.alloc (Below.refl w.heap.size w) (Nat.le_refl _) (.cells #[.int .u8 0, .string ⟨#[]⟩, .int .i64 0, .slice none 0 0] 25)))
  go_loopw [] (fun wq => ∃ b : Nat, a ≤ b ∧ b ≤ s.size ∧ Aside0 (RdAt wq g s b o) ∧ Aside0 (wend (lt s) b = wend (lt s) a) ∧ Aside0 (Kp (fun k => k = g) w wq) ∧ Aside0 (wq.heap[w.heap.size]? = some (.cells #[.int .u8 0, .string ⟨#[]⟩, .int .i64 0, .slice none 0 0] 25))) (fun wq => s.size - posOf g wq)
  case atStart => exact ⟨a, Nat.le_refl _, ha, HA, ⟨rfl⟩, HK0, ⟨by show (w.heap.push _)[w.heap.size]? = _; simp⟩⟩
  case round =>
    obtain ⟨b, hab, hb, HB, HE, HK, HR⟩ := hrel
    obtain ⟨d0, d1, d2, f1, f2⟩ := HB.out.cells
    cases hE : endB (lt s) b with
    | false =>
      have hlt : b < s.size := by have := endB_lt hE; simpa using this
      have HE2 := Aside0.mk ((wend_go hE).trans HE.out)
      have HEB := Aside0.mk hE
      clear hE
      go_wp2_with (first
        | (go_at_call 40; refine (end_any HB.out b hs (by omega)).mono ?_; rintro e w3 ⟨rfl, rfl⟩; rw [HEB.out]))
      have HN := HB.out.setA (b := b + 1) (x := (b : Int) + 1) (by omega)
      refine ⟨⟨b + 1, by omega, by omega, ⟨HN⟩, HE2, ⟨HK.out.setCell (p := ⟨g, 1, none⟩) rfl _⟩, ⟨?_⟩⟩, ?_⟩
      · rw [Below.heap_setCell _ _ _ _ (fun e => HG.out (by first | exact e | exact e.symm))]; exact HR.out
      · rw [HN.pos, HB.out.pos]; omega
    | true =>
      have HE2 : Aside0 (b = wend (lt s) a) := ⟨(wend_end hE).symm.trans HE.out⟩
      have HEB := Aside0.mk hE
      clear hE
      go_wp2_with (first
        | (go_at_call 40; refine (end_any HB.out b hs (by omega)).mono ?_; rintro e w3 ⟨rfl, rfl⟩; rw [HEB.out]))
      have hb0 : (0 : Int) ≤ (a : Int) := by omega
      have hb1 : (b : Int) ≤ (s.size : Int) := by omega
      have hb2 : (a : Int) ≤ (b : Int) := by omega
      rw [← HE2.out] at HX
      rw [← HE2.out] at H1
      rw [← HE2.out] at H2
      rw [← HE2.out] at HC
      rw [← HE2.out] at HPA
      go_region_held3 (fun W' => (W'.cell? ⟨g, 0, none⟩ = some (.string s) ∧ W'.cell? ⟨g, 1, none⟩ = some (.int .i64 (b : Int))) ∧ Aside0 (RdAt W' g s b o ∧ Kp (fun k => k = g) w W' ∧ W'.heap[w.heap.size]? = some (.cells #[.int .u8 0, .string ⟨#[]⟩, .int .i64 0, .slice none 0 0] 25))) (exact ⟨⟨d0, d1⟩, ⟨HB.out.drew, HK.out.drew, HR.out⟩⟩) (fail)
      have HTR := Aside0.mk (HT.out.kp HK.out.drew).tabs
      replace HB := Aside0.mk HB.out.drew
      replace HK := Aside0.mk HK.out.drew
      have hbs : (s.extract a b).size ≤ 1000 := by simp; omega
      generalize s.extract a b = X at HX H1 H2 HC HPA hbs ⊢
      have hX := not_star HX.out
      have hX2 : ¬ X.toList = [42] := by simpa using hX
      have hne : (X.toList == []) = false := by
        rw [ByteArray.toList_eq]
        have := HC.out
        cases hq : X.data.toList with
        | nil => rw [lt, hq] at this; simp at this
        | cons _ _ => rfl
      have hne2 : ¬ X.toList = [] := by simpa using hne
      have hsz : 0 < X.size := by
        rcases Nat.eq_zero_or_pos X.size with h0 | h0
        · exfalso; apply hne2; rw [ByteArray.toList_eq]; exact List.length_eq_zero_iff.1 (by simpa using h0)
        · exact h0
      have h1sz : (1 : Int) ≤ (X.size : Int) := by omega
      have hd0 : decide (0 < X.size) = true := decide_eq_true hsz
      have hc0 : X[0].toNat = 62 := by
        have := HC.out
        rw [byte_eq X hsz] at this
        injection this with this
        rw [this]; rfl
      have hc1 : (X[0].toNat : Int) = 62 := by omega
      go_wp2_with (first
        | (go_at_call 56; refine (one_any _ _ (by omega) HTR.out).mono ?_; rintro e w5 ⟨rfl, hB⟩; rw [H1.out]; replace HR := Aside0.mk ((hB.block w.heap.size (blk_lt HR.out)).trans HR.out); replace HB := Aside0.mk (HB.out.old hB); replace HK := Aside0.mk (HK.out.trans (Kp.of_below hB)); replace HTR := Aside0.mk (tabs_below HTR.out hB); clear hB; have hr := HR.out; have r0 := blk_cell hr 0; have r1 := blk_cell hr 1; have r2 := blk_cell hr 2; have r3 := blk_cell hr 3; have q0 := blk_frozen hr 0; have q1 := blk_frozen hr 1; have q2 := blk_frozen hr 2; have q3 := blk_frozen hr 3; clear hr)
        | (go_at_call 57; refine (pair_any _ _ (by omega) HTR.out).mono ?_; rintro e w6 ⟨rfl, hB⟩; rw [H2.out]; replace HR := Aside0.mk ((hB.block w.heap.size (blk_lt HR.out)).trans HR.out); replace HB := Aside0.mk (HB.out.old hB); replace HK := Aside0.mk (HK.out.trans (Kp.of_below hB)); replace HTR := Aside0.mk (tabs_below HTR.out hB); clear hB; clear r0 r1 r2 r3 q0 q1 q2 q3; have hr := HR.out; have r0 := blk_cell hr 0; have r1 := blk_cell hr 1; have r2 := blk_cell hr 2; have r3 := blk_cell hr 3; have q0 := blk_frozen hr 0; have q1 := blk_frozen hr 1; have q2 := blk_frozen hr 2; have q3 := blk_frozen hr 3; clear hr)
        | (go_at_call 58; refine (parse_no _ _ (by simp; omega) HTR.out HPA.out).mono ?_; rintro e w8 ⟨⟨v, t, p, rfl⟩, hB⟩; replace HR := Aside0.mk ((hB.block w.heap.size (blk_lt HR.out)).trans HR.out); replace HB := Aside0.mk (HB.out.old hB); replace HK := Aside0.mk (HK.out.trans (Kp.of_below hB)); replace HTR := Aside0.mk (tabs_below HTR.out hB); clear hB; clear r0 r1 r2 r3 q0 q1 q2 q3; have hr := HR.out; have r0 := blk_cell hr 0; have r1 := blk_cell hr 1; have r2 := blk_cell hr 2; have r3 := blk_cell hr 3; have q0 := blk_frozen hr 0; have q1 := blk_frozen hr 1; have q2 := blk_frozen hr 2; have q3 := blk_frozen hr 3; clear hr))
      clear r0 r1 r2 r3 q0 q1 q2 q3
      have HS : Aside0 (Kst w g s b o _) := ⟨⟨HB.out, HK.out, HR.out, HTR.out⟩⟩
      go_region
      go_wp2_with (first
        | (go_at_call 19; refine (give_any a 4 _).mono ?_; rintro e w7 ⟨rfl, rfl⟩))
      exact ⟨rfl, rfl, HS.out.kp.drew⟩
end Go.Proofs.YtlmmbefejmbpeaaDoor.M
namespace Go.Proofs.YtlmmbefejmbpeaaDoor.M
open Go.RowKit Go.Shelf Go.Proofs.Qp Go.Proofs.YtlmmbefejmbpeaaDoorW.PrintWords Go.Proofs.YtlmmbefejmbpeaaDoorW.PrintLast Go.Proofs.YtlmmbefejmbpeaaDoorW.PrintMore Go.Proofs.YtlmmbefejmbpeaaDoor.PQry0 Go.Proofs.YtlmmbefejmbpeaaDoor.G
set_option linter.unusedVariables false
set_option linter.unusedSimpArgs false
set_option maxHeartbeats 4000000 in
set_option maxRecDepth 100000 in
theorem word_parlt {w : World} {g : Nat} {s : ByteArray} {a o : Nat} (h : RdAt w g s a o) (hT : TT g w) (hs : s.size ≤ 1000) (ha : a ≤ s.size) (hX : ¬ (s.extract a (wend (lt s) a)) = ⟨#[42]⟩) (h1 : oneB (s.extract a (wend (lt s) a)) = false) (h2 : pairB (s.extract a (wend (lt s) a)) = false) (h3 : (lt (s.extract a (wend (lt s) a)))[0]? = some 60) (h4 : ∀ v, Lib.parseIntB 64 (lt ((s.extract a (wend (lt s) a)).extract 1 (s.extract a (wend (lt s) a)).size)) ≠ .ok v) :
    Calls Tryd.prog 47 #[rp g] w fun e w' => e = .panicked (faultV a 4) ∧ Kp (fun k => k = g) w w' := by
  obtain ⟨c0, c1, c2, f1, f2⟩ := h.cells
  have H := Aside0.mk h
  clear h
  have HG : Aside0 (w.heap.size ≠ g) := ⟨by have := H.out.lt; omega⟩
  have HT := Aside0.mk hT
  clear hT
  have HX := Aside0.mk hX
  have H1 := Aside0.mk h1
  have H2 := Aside0.mk h2
  have HC := Aside0.mk h3
  have HPA := Aside0.mk h4
  clear hX h1 h2 h3 h4
  have HA := Aside0.mk (H.out.old (Below.alloc (Below.refl w.heap.size w) (Nat.le_refl _) (.cells #[.int .u8 0, .string ⟨#[]⟩, .int .i64 0, .slice none 0 0] 25)))
  obtain ⟨e0, e1, e2, k1, k2⟩ := HA.out.cells
  have hu25 := Tryd.underlying25
  have hs25 := Tryd.sizeOf25
  have hz25 := Tryd.zeroValue25
  go_enter Tryd.func47, Tryd.ntmps47
  go_wp2
  have HK0 := Aside0.mk (Kp.of_below (S := fun k => k = g) (Below.alloc (Below.refl w.heap.size w) (Nat.le_refl _) (.cells #[.int .u8 0, .string ⟨#[]⟩, .int .i64 0, .slice none 0 0] 25)))
  go_loopw [] (fun wq => ∃ b : Nat, a ≤ b ∧ b ≤ s.size ∧ Aside0 (RdAt wq g s b o) ∧ Aside0 (wend (lt s) b = wend (lt s) a) ∧ Aside0 (Kp (fun k => k = g) w wq) ∧ Aside0 (wq.heap[w.heap.size]? = some (.cells #[.int .u8 0, .string ⟨#[]⟩, .int .i64 0, .slice none 0 0] 25))) (fun wq => s.size - posOf g wq)
  case atStart => exact ⟨a, Nat.le_refl _, ha, HA, ⟨rfl⟩, HK0, ⟨by show (w.heap.push _)[w.heap.size]? = _; simp⟩⟩
  case round =>
    obtain ⟨b, hab, hb, HB, HE, HK, HR⟩ := hrel
    obtain ⟨d0, d1, d2, f1, f2⟩ := HB.out.cells
    cases hE : endB (lt s) b with
    | false =>
      have hlt : b < s.size := by have := endB_lt hE; simpa using this
      have HE2 := Aside0.mk ((wend_go hE).trans HE.out)
      have HEB := Aside0.mk hE
      clear hE
      go_wp2_with (first
        | (go_at_call 40; refine (end_any HB.out b hs (by omega)).mono ?_; rintro e w3 ⟨rfl, rfl⟩; rw [HEB.out]))
      have HN := HB.out.setA (b := b + 1) (x := (b : Int) + 1) (by omega)
      refine ⟨⟨b + 1, by omega, by omega, ⟨HN⟩, HE2, ⟨HK.out.setCell (p := ⟨g, 1, none⟩) rfl _⟩, ⟨?_⟩⟩, ?_⟩
      · rw [Below.heap_setCell _ _ _ _ (fun e => HG.out (by first | exact e | exact e.symm))]; exact HR.out
      · rw [HN.pos, HB.out.pos]; omega
    | true =>
      have HE2 : Aside0 (b = wend (lt s) a) := ⟨(wend_end hE).symm.trans HE.out⟩
      have HEB := Aside0.mk hE
      clear hE
      go_wp2_with (first
        | (go_at_call 40; refine (end_any HB.out b hs (by omega)).mono ?_; rintro e w3 ⟨rfl, rfl⟩; rw [HEB.out]))
      have hb0 : (0 : Int) ≤ (a : Int) := by omega
      have hb1 : (b : Int) ≤ (s.size : Int) := by omega
      have hb2 : (a : Int) ≤ (b : Int) := by omega
      rw [← HE2.out] at HX
      rw [← HE2.out] at H1
      rw [← HE2.out] at H2
      rw [← HE2.out] at HC
      rw [← HE2.out] at HPA
      go_region_held3 (fun W' => (W'.cell? ⟨g, 0, none⟩ = some (.string s) ∧ W'.cell? ⟨g, 1, none⟩ = some (.int .i64 (b : Int))) ∧ Aside0 (RdAt W' g s b o ∧ Kp (fun k => k = g) w W' ∧ W'.heap[w.heap.size]? = some (.cells #[.int .u8 0, .string ⟨#[]⟩, .int .i64 0, .slice none 0 0] 25))) (exact ⟨⟨d0, d1⟩, ⟨HB.out.drew, HK.out.drew, HR.out⟩⟩) (fail)
      have HTR := Aside0.mk (HT.out.kp HK.out.drew).tabs
      replace HB := Aside0.mk HB.out.drew
      replace HK := Aside0.mk HK.out.drew
      have hbs : (s.extract a b).size ≤ 1000 := by simp; omega
      generalize s.extract a b = X at HX H1 H2 HC HPA hbs ⊢
      have hX := not_star HX.out
      have hX2 : ¬ X.toList = [42] := by simpa using hX
      have hne : (X.toList == []) = false := by
        rw [ByteArray.toList_eq]
        have := HC.out
        cases hq : X.data.toList with
        | nil => rw [lt, hq] at this; simp at this
        | cons _ _ => rfl
      have hne2 : ¬ X.toList = [] := by simpa using hne
      have hsz : 0 < X.size := by
        rcases Nat.eq_zero_or_pos X.size with h0 | h0
        · exfalso; apply hne2; rw [ByteArray.toList_eq]; exact List.length_eq_zero_iff.1 (by simpa using h0)
        · exact h0
      have h1sz : (1 : Int) ≤ (X.size : Int) := by omega
      have hd0 : decide (0 < X.size) = true := decide_eq_true hsz
      have hc0 : X[0].toNat = 60 := by
        have := HC.out
        rw [byte_eq X hsz] at this
        injection this with this
        rw [this]; rfl
      have hc1 : (X[0].toNat : Int) = 60 := by omega
      go_wp2_with (first
        | (go_at_call 56; refine (one_any _ _ (by omega) HTR.out).mono ?_; rintro e w5 ⟨rfl, hB⟩; rw [H1.out]; replace HR := Aside0.mk ((hB.block w.heap.size (blk_lt HR.out)).trans HR.out); replace HB := Aside0.mk (HB.out.old hB); replace HK := Aside0.mk (HK.out.trans (Kp.of_below hB)); replace HTR := Aside0.mk (tabs_below HTR.out hB); clear hB; have hr := HR.out; have r0 := blk_cell hr 0; have r1 := blk_cell hr 1; have r2 := blk_cell hr 2; have r3 := blk_cell hr 3; have q0 := blk_frozen hr 0; have q1 := blk_frozen hr 1; have q2 := blk_frozen hr 2; have q3 := blk_frozen hr 3; clear hr)
        | (go_at_call 57; refine (pair_any _ _ (by omega) HTR.out).mono ?_; rintro e w6 ⟨rfl, hB⟩; rw [H2.out]; replace HR := Aside0.mk ((hB.block w.heap.size (blk_lt HR.out)).trans HR.out); replace HB := Aside0.mk (HB.out.old hB); replace HK := Aside0.mk (HK.out.trans (Kp.of_below hB)); replace HTR := Aside0.mk (tabs_below HTR.out hB); clear hB; clear r0 r1 r2 r3 q0 q1 q2 q3; have hr := HR.out; have r0 := blk_cell hr 0; have r1 := blk_cell hr 1; have r2 := blk_cell hr 2; have r3 := blk_cell hr 3; have q0 := blk_frozen hr 0; have q1 := blk_frozen hr 1; have q2 := blk_frozen hr 2; have q3 := blk_frozen hr 3; clear hr)
        | (go_at_call 58; refine (parse_no _ _ (by simp; omega) HTR.out HPA.out).mono ?_; rintro e w8 ⟨⟨v, t, p, rfl⟩, hB⟩; replace HR := Aside0.mk ((hB.block w.heap.size (blk_lt HR.out)).trans HR.out); replace HB := Aside0.mk (HB.out.old hB); replace HK := Aside0.mk (HK.out.trans (Kp.of_below hB)); replace HTR := Aside0.mk (tabs_below HTR.out hB); clear hB; clear r0 r1 r2 r3 q0 q1 q2 q3; have hr := HR.out; have r0 := blk_cell hr 0; have r1 := blk_cell hr 1; have r2 := blk_cell hr 2; have r3 := blk_cell hr 3; have q0 := blk_frozen hr 0; have q1 := blk_frozen hr 1; have q2 := blk_frozen hr 2; have q3 := blk_frozen hr 3; clear hr))
      clear r0 r1 r2 r3 q0 q1 q2 q3
      have HS : Aside0 (Kst w g s b o _) := ⟨⟨HB.out, HK.out, HR.out, HTR.out⟩⟩
      go_region
      go_wp2_with (first
        | (go_at_call 19; refine (give_any a 4 _).mono ?_; rintro e w7 ⟨rfl, rfl⟩))
      exact ⟨rfl, rfl, HS.out.kp.drew⟩
end Go.Proofs.YtlmmbefejmbpeaaDoor.M
namespace Go.Proofs.YtlmmbefejmbpeaaDoor.M
open Go.RowKit Go.Shelf Go.Proofs.Qp Go.Proofs.YtlmmbefejmbpeaaDoorW.PrintWords Go.Proofs.YtlmmbefejmbpeaaDoorW.PrintLast Go.Proofs.YtlmmbefejmbpeaaDoorW.PrintMore Go.Proofs.YtlmmbefejmbpeaaDoor.PQry0 Go.Proofs.YtlmmbefejmbpeaaDoor.G
set_option linter.unusedVariables false
set_option linter.unusedSimpArgs false
set_option maxHeartbeats 4000000 in
set_option maxRecDepth 100000 in
theorem word_fmtgt {w : World} {g : Nat} {s : ByteArray} {a o : Nat} (h : RdAt w g s a o) (hT : TT g w) (hs : s.size ≤ 1000) (ha : a ≤ s.size) (hX : ¬ (s.extract a (wend (lt s) a)) = ⟨#[42]⟩) (h1 : oneB (s.extract a (wend (lt s) a)) = false) (h2 : pairB (s.extract a (wend (lt s) a)) = false) (h3 : (lt (s.extract a (wend (lt s) a)))[0]? = some 62) (n : Int) (h4 : Lib.parseIntB 64 (lt ((s.extract a (wend (lt s) a)).extract 1 (s.extract a (wend (lt s) a)).size)) = .ok n) (h5 : ¬ (⟨(Lib.itoa n).toArray⟩ : ByteArray) = ((s.extract a (wend (lt s) a)).extract 1 (s.extract a (wend (lt s) a)).size)) :
    Calls Tryd.prog 47 #[rp g] w fun e w' => e = .panicked (faultV a 4) ∧ Kp (fun k => k = g) w w' := by
  obtain ⟨c0, c1, c2, f1, f2⟩ := h.cells
  have H := Aside0.mk h
  clear h
  have HG : Aside0 (w.heap.size ≠ g) := ⟨by have := H.out.lt; omega⟩
  have HT := Aside0.mk hT
  clear hT
  have HX := Aside0.mk hX
  have H1 := Aside0.mk h1
  have H2 := Aside0.mk h2
  have HC := Aside0.mk h3
  have HPA := Aside0.mk h4
  have HFM := Aside0.mk h5
  clear hX h1 h2 h3 h4 h5
  have HA := Aside0.mk (H.out.old (Below.alloc (Below.refl w.heap.size w) (Nat.le_refl _) (.cells #[.int .u8 0, .string ⟨#[]⟩, .int .i64 0, .slice none 0 0] 25)))
  obtain ⟨e0, e1, e2, k1, k2⟩ := HA.out.cells
  have hu25 := Tryd.underlying25
  have hs25 := Tryd.sizeOf25
  have hz25 := Tryd.zeroValue25
  go_enter Tryd.func47, Tryd.ntmps47
  go_wp2
  have HK0 := Aside0.mk (Kp.of_below (S := fun k => k = g) (Below.alloc (Below.refl w.heap.size w) (Nat.le_refl _) (.cells #[.int .u8 0, .string ⟨#[]⟩, .int .i64 0, .slice none 0 0] 25)))
  go_loopw [] (fun wq => ∃ b : Nat, a ≤ b ∧ b ≤ s.size ∧ Aside0 (RdAt wq g s b o) ∧ Aside0 (wend (lt s) b = wend (lt s) a) ∧ Aside0 (Kp (fun k => k = g) w wq) ∧ Aside0 (wq.heap[w.heap.size]? = some (.cells #[.int .u8 0, .string ⟨#[]⟩, .int .i64 0, .slice none 0 0] 25))) (fun wq => s.size - posOf g wq)
  case atStart => exact ⟨a, Nat.le_refl _, ha, HA, ⟨rfl⟩, HK0, ⟨by show (w.heap.push _)[w.heap.size]? = _; simp⟩⟩
  case round =>
    obtain ⟨b, hab, hb, HB, HE, HK, HR⟩ := hrel
    obtain ⟨d0, d1, d2, f1, f2⟩ := HB.out.cells
    cases hE : endB (lt s) b with
    | false =>
      have hlt : b < s.size := by have := endB_lt hE; simpa using this
      have HE2 := Aside0.mk ((wend_go hE).trans HE.out)
      have HEB := Aside0.mk hE
      clear hE
      go_wp2_with (first
        | (go_at_call 40; refine (end_any HB.out b hs (by omega)).mono ?_; rintro e w3 ⟨rfl, rfl⟩; rw [HEB.out]))
      have HN := HB.out.setA (b := b + 1) (x := (b : Int) + 1) (by omega)
      refine ⟨⟨b + 1, by omega, by omega, ⟨HN⟩, HE2, ⟨HK.out.setCell (p := ⟨g, 1, none⟩) rfl _⟩, ⟨?_⟩⟩, ?_⟩
      · rw [Below.heap_setCell _ _ _ _ (fun e => HG.out (by first | exact e | exact e.symm))]; exact HR.out
      · rw [HN.pos, HB.out.pos]; omega
    | true =>
      have HE2 : Aside0 (b = wend (lt s) a) := ⟨(wend_end hE).symm.trans HE.out⟩
      have HEB := Aside0.mk hE
      clear hE
      go_wp2_with (first
        | (go_at_call 40; refine (end_any HB.out b hs (by omega)).mono ?_; rintro e w3 ⟨rfl, rfl⟩; rw [HEB.out]))
      have hb0 : (0 : Int) ≤ (a : Int) := by omega
      have hb1 : (b : Int) ≤ (s.size : Int) := by omega
      have hb2 : (a : Int) ≤ (b : Int) := by omega
      rw [← HE2.out] at HX
      rw [← HE2.out] at H1
      rw [← HE2.out] at H2
      rw [← HE2.out] at HC
      rw [← HE2.out] at HPA
      rw [← HE2.out] at HFM
      go_region_held3 (fun W' => (W'.cell? ⟨g, 0, none⟩ = some (.string s) ∧ W'.cell? ⟨g, 1, none⟩ = some (.int .i64 (b : Int))) ∧ Aside0 (RdAt W' g s b o ∧ Kp (fun k => k = g) w W' ∧ W'.heap[w.heap.size]? = some (.cells #[.int .u8 0, .string ⟨#[]⟩, .int .i64 0, .slice none 0 0] 25))) (exact ⟨⟨d0, d1⟩, ⟨HB.out.drew, HK.out.drew, HR.out⟩⟩) (fail)
      have HTR := Aside0.mk (HT.out.kp HK.out.drew).tabs
      replace HB := Aside0.mk HB.out.drew
      replace HK := Aside0.mk HK.out.drew
      have hbs : (s.extract a b).size ≤ 1000 := by simp; omega
      generalize s.extract a b = X at HX H1 H2 HC HPA HFM hbs ⊢
      have hX := not_star HX.out
      have hX2 : ¬ X.toList = [42] := by simpa using hX
      have hne : (X.toList == []) = false := by
        rw [ByteArray.toList_eq]
        have := HC.out
        cases hq : X.data.toList with
        | nil => rw [lt, hq] at this; simp at this
        | cons _ _ => rfl
      have hne2 : ¬ X.toList = [] := by simpa using hne
      have hsz : 0 < X.size := by
        rcases Nat.eq_zero_or_pos X.size with h0 | h0
        · exfalso; apply hne2; rw [ByteArray.toList_eq]; exact List.length_eq_zero_iff.1 (by simpa using h0)
        · exact h0
      have h1sz : (1 : Int) ≤ (X.size : Int) := by omega
      have hd0 : decide (0 < X.size) = true := decide_eq_true hsz
      have hc0 : X[0].toNat = 62 := by
        have := HC.out
        rw [byte_eq X hsz] at this
        injection this with this
        rw [this]; rfl
      have hc1 : (X[0].toNat : Int) = 62 := by omega
      have HN0 := Aside0.mk (parse_bounds HPA.out).1
      have HN1 := Aside0.mk (parse_bounds HPA.out).2
      obtain ⟨Z, hZ⟩ : ∃ Z : ByteArray, Z = ⟨(Lib.itoa n).toArray⟩ := ⟨_, rfl⟩
      have HZ := Aside0.mk hZ
      rw [← hZ] at HFM
      clear hZ
      have hF := not_bytes HFM.out
      have hF2 : ¬ Z.toList = (X.extract 1 X.size).toList := by simpa using hF
      go_wp2_with (first
        | (go_at_call 56; refine (one_any _ _ (by omega) HTR.out).mono ?_; rintro e w5 ⟨rfl, hB⟩; rw [H1.out]; replace HR := Aside0.mk ((hB.block w.heap.size (blk_lt HR.out)).trans HR.out); replace HB := Aside0.mk (HB.out.old hB); replace HK := Aside0.mk (HK.out.trans (Kp.of_below hB)); replace HTR := Aside0.mk (tabs_below HTR.out hB); clear hB; have hr := HR.out; have r0 := blk_cell hr 0; have r1 := blk_cell hr 1; have r2 := blk_cell hr 2; have r3 := blk_cell hr 3; have q0 := blk_frozen hr 0; have q1 := blk_frozen hr 1; have q2 := blk_frozen hr 2; have q3 := blk_frozen hr 3; clear hr)
        | (go_at_call 57; refine (pair_any _ _ (by omega) HTR.out).mono ?_; rintro e w6 ⟨rfl, hB⟩; rw [H2.out]; replace HR := Aside0.mk ((hB.block w.heap.size (blk_lt HR.out)).trans HR.out); replace HB := Aside0.mk (HB.out.old hB); replace HK := Aside0.mk (HK.out.trans (Kp.of_below hB)); replace HTR := Aside0.mk (tabs_below HTR.out hB); clear hB; clear r0 r1 r2 r3 q0 q1 q2 q3; have hr := HR.out; have r0 := blk_cell hr 0; have r1 := blk_cell hr 1; have r2 := blk_cell hr 2; have r3 := blk_cell hr 3; have q0 := blk_frozen hr 0; have q1 := blk_frozen hr 1; have q2 := blk_frozen hr 2; have q3 := blk_frozen hr 3; clear hr)
        | (go_at_call 58; refine (parse_ok _ _ (by simp; omega) HTR.out HPA.out).mono ?_; rintro e w8 ⟨rfl, hB⟩; replace HR := Aside0.mk ((hB.block w.heap.size (blk_lt HR.out)).trans HR.out); replace HB := Aside0.mk (HB.out.old hB); replace HK := Aside0.mk (HK.out.trans (Kp.of_below hB)); replace HTR := Aside0.mk (tabs_below HTR.out hB); clear hB; clear r0 r1 r2 r3 q0 q1 q2 q3; have hr := HR.out; have r0 := blk_cell hr 0; have r1 := blk_cell hr 1; have r2 := blk_cell hr 2; have r3 := blk_cell hr 3; have q0 := blk_frozen hr 0; have q1 := blk_frozen hr 1; have q2 := blk_frozen hr 2; have q3 := blk_frozen hr 3; clear hr))
      clear r0 r1 r2 r3 q0 q1 q2 q3
      have HS : Aside0 (Kst w g s b o _) := ⟨⟨HB.out, HK.out, HR.out, HTR.out⟩⟩
      go_region_held3 (fun W' => Aside0 (Kst w g s b o W')) (first | exact HS | exact ⟨HS.out.drew⟩) (first
        | (go_at_call 37; refine (fmt_any _ HN0.out HN1.out _ (by exact HS.out.tb)).mono ?_; rintro e w9 ⟨rfl, hB⟩; replace HS := Aside0.mk (show Kst w g s b o w9 from HS.out.drew.old hB); rw [← HZ.out]))
      go_wp2_with (first
        | (go_at_call 19; refine (give_any a 4 _).mono ?_; rintro e w7 ⟨rfl, rfl⟩))
      exact ⟨rfl, rfl, HS.out.kp⟩
end Go.Proofs.YtlmmbefejmbpeaaDoor.M
namespace Go.Proofs.YtlmmbefejmbpeaaDoor.M
open Go.RowKit Go.Shelf Go.Proofs.Qp Go.Proofs.YtlmmbefejmbpeaaDoorW.PrintWords Go.Proofs.YtlmmbefejmbpeaaDoorW.PrintLast Go.Proofs.YtlmmbefejmbpeaaDoorW.PrintMore Go.Proofs.YtlmmbefejmbpeaaDoor.PQry0 Go.Proofs.YtlmmbefejmbpeaaDoor.G
set_option linter.unusedVariables false
set_option linter.unusedSimpArgs false
set_option maxHeartbeats 4000000 in
set_option maxRecDepth 100000 in
theorem word_fmtlt {w : World} {g : Nat} {s : ByteArray} {a o : Nat} (h : RdAt w g s a o) (hT : TT g w) (hs : s.size ≤ 1000) (ha : a ≤ s.size) (hX : ¬ (s.extract a (wend (lt s) a)) = ⟨#[42]⟩) (h1 : oneB (s.extract a (wend (lt s) a)) = false) (h2 : pairB (s.extract a (wend (lt s) a)) = false) (h3 : (lt (s.extract a (wend (lt s) a)))[0]? = some 60) (n : Int) (h4 : Lib.parseIntB 64 (lt ((s.extract a (wend (lt s) a)).extract 1 (s.extract a (wend (lt s) a)).size)) = .ok n) (h5 : ¬ (⟨(Lib.itoa n).toArray⟩ : ByteArray) = ((s.extract a (wend (lt s) a)).extract 1 (s.extract a (wend (lt s) a)).size)) :
    Calls Tryd.prog 47 #[rp g] w fun e w' => e = .panicked (faultV a 4) ∧ Kp (fun k => k = g) w w' := by
  obtain ⟨c0, c1, c2, f1, f2⟩ := h.cells
  have H := Aside0.mk h
  clear h
  have HG : Aside0 (w.heap.size ≠ g) := ⟨by have := H.out.lt; omega⟩
  have HT := Aside0.mk hT
  clear hT
  have HX := Aside0.mk hX
  have H1 := Aside0.mk h1
  have H2 := Aside0.mk h2
  have HC := Aside0.mk h3
  have HPA := Aside0.mk h4
  have HFM := Aside0.mk h5
  clear hX h1 h2 h3 h4 h5
  have HA := Aside0.mk (H.out.old (Below.alloc (Below.refl w.heap.size w) (Nat.le_refl _) (.cells #[.int .u8 0, .string ⟨#[]⟩, .int .i64 0, .slice none 0 0] 25)))
  obtain ⟨e0, e1, e2, k1, k2⟩ := HA.out.cells
  have hu25 := Tryd.underlying25
  have hs25 := Tryd.sizeOf25
  have hz25 := Tryd.zeroValue25
  go_enter Tryd.func47, Tryd.ntmps47
  go_wp2
  have HK0 := Aside0.mk (Kp.of_below (S := fun k => k = g) (Below.alloc (Below.refl w.heap.size w) (Nat.le_refl _) (.cells #[.int .u8 0, .string ⟨#[]⟩, .int .i64 0, .slice none 0 0] 25)))
  go_loopw [] (fun wq => ∃ b : Nat, a ≤ b ∧ b ≤ s.size ∧ Aside0 (RdAt wq g s b o) ∧ Aside0 (wend (lt s) b = wend (lt s) a) ∧ Aside0 (Kp (fun k => k = g) w wq) ∧ Aside0 (wq.heap[w.heap.size]? = some (.cells #[.int .u8 0, .string ⟨#[]⟩, .int .i64 0, .slice none 0 0] 25))) (fun wq => s.size - posOf g wq)
  case atStart => exact ⟨a, Nat.le_refl _, ha, HA, ⟨rfl⟩, HK0, ⟨by show (w.heap.push _)[w.heap.size]? = _; simp⟩⟩
  case round =>
    obtain ⟨b, hab, hb, HB, HE, HK, HR⟩ := hrel
    obtain ⟨d0, d1, d2, f1, f2⟩ := HB.out.cells
    cases hE : endB (lt s) b with
    | false =>
      have hlt : b < s.size := by have := endB_lt hE; simpa using this
      have HE2 := Aside0.mk ((wend_go hE).trans HE.out)
      have HEB := Aside0.mk hE
      clear hE
      go_wp2_with (first
        | (go_at_call 40; refine (end_any HB.out b hs (by omega)).mono ?_; rintro e w3 ⟨rfl, rfl⟩; rw [HEB.out]))
      have HN := HB.out.setA (b := b + 1) (x := (b : Int) + 1) (by omega)
      refine ⟨⟨b + 1, by omega, by omega, ⟨HN⟩, HE2, ⟨HK.out.setCell (p := ⟨g, 1, none⟩) rfl _⟩, ⟨?_⟩⟩, ?_⟩
      · rw [Below.heap_setCell _ _ _ _ (fun e => HG.out (by first | exact e | exact e.symm))]; exact HR.out
      · rw [HN.pos, HB.out.pos]; omega
    | true =>
      have HE2 : Aside0 (b = wend (lt s) a) := ⟨(wend_end hE).symm.trans HE.out⟩
      have HEB := Aside0.mk hE
      clear hE
      go_wp2_with (first
        | (go_at_call 40; refine (end_any HB.out b hs (by omega)).mono ?_; rintro e w3 ⟨rfl, rfl⟩; rw [HEB.out]))
      have hb0 : (0 : Int) ≤ (a : Int) := by omega
      have hb1 : (b : Int) ≤ (s.size : Int) := by omega
      have hb2 : (a : Int) ≤ (b : Int) := by omega
      rw [← HE2.out] at HX
      rw [← HE2.out] at H1
      rw [← HE2.out] at H2
      rw [← HE2.out] at HC
      rw [← HE2.out] at HPA
      rw [← HE2.out] at HFM
      go_region_held3 (fun W' => (W'.cell? ⟨g, 0, none⟩ = some (.string s) ∧ W'.cell? ⟨g, 1, none⟩ = some (.int .i64 (b : Int))) ∧ Aside0 (RdAt W' g s b o ∧ Kp (fun k => k = g) w W' ∧ W'.heap[w.heap.size]? = some (.cells #[.int .u8 0, .string ⟨#[]⟩, .int .i64 0, .slice none 0 0] 25))) (exact ⟨⟨d0, d1⟩, ⟨HB.out.drew, HK.out.drew, HR.out⟩⟩) (fail)
      have HTR := Aside0.mk (HT.out.kp HK.out.drew).tabs
      replace HB := Aside0.mk HB.out.drew
      replace HK := Aside0.mk HK.out.drew
      have hbs : (s.extract a b).size ≤ 1000 := by simp; omega
      generalize s.extract a b = X at HX H1 H2 HC HPA HFM hbs ⊢
      have hX := not_star HX.out
      have hX2 : ¬ X.toList = [42] := by simpa using hX
      have hne : (X.toList == []) = false := by
        rw [ByteArray.toList_eq]
        have := HC.out
        cases hq : X.data.toList with
        | nil => rw [lt, hq] at this; simp at this
        | cons _ _ => rfl
      have hne2 : ¬ X.toList = [] := by simpa using hne
      have hsz : 0 < X.size := by
        rcases Nat.eq_zero_or_pos X.size with h0 | h0
        · exfalso; apply hne2; rw [ByteArray.toList_eq]; exact List.length_eq_zero_iff.1 (by simpa using h0)
        · exact h0
      have h1sz : (1 : Int) ≤ (X.size : Int) := by omega
      have hd0 : decide (0 < X.size) = true := decide_eq_true hsz
      have hc0 : X[0].toNat = 60 := by
        have := HC.out
        rw [byte_eq X hsz] at this
        injection this with this
        rw [this]; rfl
      have hc1 : (X[0].toNat : Int) = 60 := by omega
      have HN0 := Aside0.mk (parse_bounds HPA.out).1
      have HN1 := Aside0.mk (parse_bounds HPA.out).2
      obtain ⟨Z, hZ⟩ : ∃ Z : ByteArray, Z = ⟨(Lib.itoa n).toArray⟩ := ⟨_, rfl⟩
      have HZ := Aside0.mk hZ
      rw [← hZ] at HFM
      clear hZ
      have hF := not_bytes HFM.out
      have hF2 : ¬ Z.toList = (X.extract 1 X.size).toList := by simpa using hF
      go_wp2_with (first
        | (go_at_call 56; refine (one_any _ _ (by omega) HTR.out).mono ?_; rintro e w5 ⟨rfl, hB⟩; rw [H1.out]; replace HR := Aside0.mk ((hB.block w.heap.size (blk_lt HR.out)).trans HR.out); replace HB := Aside0.mk (HB.out.old hB); replace HK := Aside0.mk (HK.out.trans (Kp.of_below hB)); replace HTR := Aside0.mk (tabs_below HTR.out hB); clear hB; have hr := HR.out; have r0 := blk_cell hr 0; have r1 := blk_cell hr 1; have r2 := blk_cell hr 2; have r3 := blk_cell hr 3; have q0 := blk_frozen hr 0; have q1 := blk_frozen hr 1; have q2 := blk_frozen hr 2; have q3 := blk_frozen hr 3; clear hr)
        | (go_at_call 57; refine (pair_any _ _ (by omega) HTR.out).mono ?_; rintro e w6 ⟨rfl, hB⟩; rw [H2.out]; replace HR := Aside0.mk ((hB.block w.heap.size (blk_lt HR.out)).trans HR.out); replace HB := Aside0.mk (HB.out.old hB); replace HK := Aside0.mk (HK.out.trans (Kp.of_below hB)); replace HTR := Aside0.mk (tabs_below HTR.out hB); clear hB; clear r0 r1 r2 r3 q0 q1 q2 q3; have hr := HR.out; have r0 := blk_cell hr 0; have r1 := blk_cell hr 1; have r2 := blk_cell hr 2; have r3 := blk_cell hr 3; have q0 := blk_frozen hr 0; have q1 := blk_frozen hr 1; have q2 := blk_frozen hr 2; have q3 := blk_frozen hr 3; clear hr)
        | (go_at_call 58; refine (parse_ok _ _ (by simp; omega) HTR.out HPA.out).mono ?_; rintro e w8 ⟨rfl, hB⟩; replace HR := Aside0.mk ((hB.block w.heap.size (blk_lt HR.out)).trans HR.out); replace HB := Aside0.mk (HB.out.old hB); replace HK := Aside0.mk (HK.out.trans (Kp.of_below hB)); replace HTR := Aside0.mk (tabs_below HTR.out hB); clear hB; clear r0 r1 r2 r3 q0 q1 q2 q3; have hr := HR.out; have r0 := blk_cell hr 0; have r1 := blk_cell hr 1; have r2 := blk_cell hr 2; have r3 := blk_cell hr 3; have q0 := blk_frozen hr 0; have q1 := blk_frozen hr 1; have q2 := blk_frozen hr 2; have q3 := blk_frozen hr 3; clear hr))
      clear r0 r1 r2 r3 q0 q1 q2 q3
      have HS : Aside0 (Kst w g s b o _) := ⟨⟨HB.out, HK.out, HR.out, HTR.out⟩⟩
      go_region_held3 (fun W' => Aside0 (Kst w g s b o W')) (first | exact HS | exact ⟨HS.out.drew⟩) (first
        | (go_at_call 37; refine (fmt_any _ HN0.out HN1.out _ (by exact HS.out.tb)).mono ?_; rintro e w9 ⟨rfl, hB⟩; replace HS := Aside0.mk (show Kst w g s b o w9 from HS.out.drew.old hB); rw [← HZ.out]))
      go_wp2_with (first
        | (go_at_call 19; refine (give_any a 4 _).mono ?_; rintro e w7 ⟨rfl, rfl⟩))
      exact ⟨rfl, rfl, HS.out.kp⟩
end Go.Proofs.YtlmmbefejmbpeaaDoor.M
namespace Go.Proofs.YtlmmbefejmbpeaaDoor.M
open Go.RowKit Go.Shelf Go.Proofs.Qp Go.Proofs.YtlmmbefejmbpeaaDoorW.PrintWords Go.Proofs.YtlmmbefejmbpeaaDoorW.PrintLast Go.Proofs.YtlmmbefejmbpeaaDoorW.PrintMore Go.Proofs.YtlmmbefejmbpeaaDoor.PQry0 Go.Proofs.YtlmmbefejmbpeaaDoor.G
set_option linter.unusedVariables false
set_option linter.unusedSimpArgs false
set_option maxHeartbeats 4000000 in
set_option maxRecDepth 100000 in
theorem word_other {w : World} {g : Nat} {s : ByteArray} {a o : Nat} (h : RdAt w g s a o) (hT : TT g w) (hs : s.size ≤ 1000) (ha : a ≤ s.size) (hX : ¬ (s.extract a (wend (lt s) a)) = ⟨#[42]⟩) (h1 : oneB (s.extract a (wend (lt s) a)) = false) (h2 : pairB (s.extract a (wend (lt s) a)) = false) (c : UInt8) (h3 : (lt (s.extract a (wend (lt s) a)))[0]? = some c) (h4 : c ≠ 62) (h5 : c ≠ 60) :
    Calls Tryd.prog 47 #[rp g] w fun e w' => e = .panicked (faultV a 4) ∧ Kp (fun k => k = g) w w' := by
  obtain ⟨c0, c1, c2, f1, f2⟩ := h.cells
  have H := Aside0.mk h
  clear h
  have HG : Aside0 (w.heap.size ≠ g) := ⟨by have := H.out.lt; omega⟩
  have HT := Aside0.mk hT
  clear hT
  have HX := Aside0.mk hX
  have H1 := Aside0.mk h1
  have H2 := Aside0.mk h2
  have HC := Aside0.mk h3
  clear hX h1 h2 h3
  have HA := Aside0.mk (H.out.old (Below.alloc (Below.refl w.heap.size w) (Nat.le_refl _) (.cells #[.int .u8 0, .string ⟨#[]⟩, .int .i64 0, .slice none 0 0] 25)))
  obtain ⟨e0, e1, e2, k1, k2⟩ := HA.out.cells
  have hu25 := Tryd.underlying25
  have hs25 := Tryd.sizeOf25
  have hz25 := Tryd.zeroValue25
  go_enter Tryd.func47, Tryd.ntmps47
  go_wp2
  have HK0 := Aside0.mk (Kp.of_below (S := fun k => k = g) (Below.alloc (Below.refl w.heap.size w) (Nat.le_refl _) (.cells #[.int .u8 0, .string ⟨#[]⟩, .int .i64 0, .slice none 0 0] 25)))
  go_loopw [] (fun wq => ∃ b : Nat, a ≤ b ∧ b ≤ s.size ∧ Aside0 (RdAt wq g s b o) ∧ Aside0 (wend (lt s) b = wend (lt s) a) ∧ Aside0 (Kp (fun k => k = g) w wq) ∧ Aside0 (wq.heap[w.heap.size]? = some (.cells #[.int .u8 0, .string ⟨#[]⟩, .int .i64 0, .slice none 0 0] 25))) (fun wq => s.size - posOf g wq)
  case atStart => exact ⟨a, Nat.le_refl _, ha, HA, ⟨rfl⟩, HK0, ⟨by show (w.heap.push _)[w.heap.size]? = _; simp⟩⟩
  case round =>
    obtain ⟨b, hab, hb, HB, HE, HK, HR⟩ := hrel
    obtain ⟨d0, d1, d2, f1, f2⟩ := HB.out.cells
    cases hE : endB (lt s) b with
    | false =>
      have hlt : b < s.size := by have := endB_lt hE; simpa using this
      have HE2 := Aside0.mk ((wend_go hE).trans HE.out)
      have HEB := Aside0.mk hE
      clear hE
      go_wp2_with (first
        | (go_at_call 40; refine (end_any HB.out b hs (by omega)).mono ?_; rintro e w3 ⟨rfl, rfl⟩; rw [HEB.out]))
      have HN := HB.out.setA (b := b + 1) (x := (b : Int) + 1) (by omega)
      refine ⟨⟨b + 1, by omega, by omega, ⟨HN⟩, HE2, ⟨HK.out.setCell (p := ⟨g, 1, none⟩) rfl _⟩, ⟨?_⟩⟩, ?_⟩
      · rw [Below.heap_setCell _ _ _ _ (fun e => HG.out (by first | exact e | exact e.symm))]; exact HR.out
      · rw [HN.pos, HB.out.pos]; omega
    | true =>
      have HE2 : Aside0 (b = wend (lt s) a) := ⟨(wend_end hE).symm.trans HE.out⟩
      have HEB := Aside0.mk hE
      clear hE
      go_wp2_with (first
        | (go_at_call 40; refine (end_any HB.out b hs (by omega)).mono ?_; rintro e w3 ⟨rfl, rfl⟩; rw [HEB.out]))
      have hb0 : (0 : Int) ≤ (a : Int) := by omega
      have hb1 : (b : Int) ≤ (s.size : Int) := by omega
      have hb2 : (a : Int) ≤ (b : Int) := by omega
      rw [← HE2.out] at HX
      rw [← HE2.out] at H1
      rw [← HE2.out] at H2
      rw [← HE2.out] at HC
      go_region_held3 (fun W' => (W'.cell? ⟨g, 0, none⟩ = some (.string s) ∧ W'.cell? ⟨g, 1, none⟩ = some (.int .i64 (b : Int))) ∧ Aside0 (RdAt W' g s b o ∧ Kp (fun k => k = g) w W' ∧ W'.heap[w.heap.size]? = some (.cells #[.int .u8 0, .string ⟨#[]⟩, .int .i64 0, .slice none 0 0] 25))) (exact ⟨⟨d0, d1⟩, ⟨HB.out.drew, HK.out.drew, HR.out⟩⟩) (fail)
      have HTR := Aside0.mk (HT.out.kp HK.out.drew).tabs
      replace HB := Aside0.mk HB.out.drew
      replace HK := Aside0.mk HK.out.drew
      have hbs : (s.extract a b).size ≤ 1000 := by simp; omega
      generalize s.extract a b = X at HX H1 H2 HC hbs ⊢
      have hX := not_star HX.out
      have hX2 : ¬ X.toList = [42] := by simpa using hX
      have hne : (X.toList == []) = false := by
        rw [ByteArray.toList_eq]
        have := HC.out
        cases hq : X.data.toList with
        | nil => rw [lt, hq] at this; simp at this
        | cons _ _ => rfl
      have hne2 : ¬ X.toList = [] := by simpa using hne
      have hsz : 0 < X.size := by
        rcases Nat.eq_zero_or_pos X.size with h0 | h0
        · exfalso; apply hne2; rw [ByteArray.toList_eq]; exact List.length_eq_zero_iff.1 (by simpa using h0)
        · exact h0
      have h1sz : (1 : Int) ≤ (X.size : Int) := by omega
      have hd0 : decide (0 < X.size) = true := decide_eq_true hsz
      have hc0 : X[0].toNat = c.toNat := by
        have := HC.out
        rw [byte_eq X hsz] at this
        injection this with this
        rw [this]
      have hc1 : (X[0].toNat : Int) = c.toNat := by omega
      have hc2 : c.toNat ≠ 62 := fun e => h4 (UInt8.toNat_inj.1 (by simpa using e))
      have hc3 : c.toNat ≠ 60 := fun e => h5 (UInt8.toNat_inj.1 (by simpa using e))
      have q62 : ((X[0].toNat : Int) == 62) = false := by simp; omega
      have q60 : ((X[0].toNat : Int) == 60) = false := by simp; omega
      clear hc0 hc1
      have p62 : ¬ (X[0].toNat : Int) = 62 := by simpa using q62
      have p60 : ¬ (X[0].toNat : Int) = 60 := by simpa using q60
      have n62 : ¬ X[0].toNat = 62 := by omega
      have n60 : ¬ X[0].toNat = 60 := by omega
      clear hc2 hc3
      go_wp2_with (first
        | (go_at_call 56; refine (one_any _ _ (by omega) HTR.out).mono ?_; rintro e w5 ⟨rfl, hB⟩; rw [H1.out]; replace HR := Aside0.mk ((hB.block w.heap.size (blk_lt HR.out)).trans HR.out); replace HB := Aside0.mk (HB.out.old hB); replace HK := Aside0.mk (HK.out.trans (Kp.of_below hB)); replace HTR := Aside0.mk (tabs_below HTR.out hB); clear hB; have hr := HR.out; have r0 := blk_cell hr 0; have r1 := blk_cell hr 1; have r2 := blk_cell hr 2; have r3 := blk_cell hr 3; have q0 := blk_frozen hr 0; have q1 := blk_frozen hr 1; have q2 := blk_frozen hr 2; have q3 := blk_frozen hr 3; clear hr)
        | (go_at_call 57; refine (pair_any _ _ (by omega) HTR.out).mono ?_; rintro e w6 ⟨rfl, hB⟩; rw [H2.out]; replace HR := Aside0.mk ((hB.block w.heap.size (blk_lt HR.out)).trans HR.out); replace HB := Aside0.mk (HB.out.old hB); replace HK := Aside0.mk (HK.out.trans (Kp.of_below hB)); replace HTR := Aside0.mk (tabs_below HTR.out hB); clear hB; clear r0 r1 r2 r3 q0 q1 q2 q3; have hr := HR.out; have r0 := blk_cell hr 0; have r1 := blk_cell hr 1; have r2 := blk_cell hr 2; have r3 := blk_cell hr 3; have q0 := blk_frozen hr 0; have q1 := blk_frozen hr 1; have q2 := blk_frozen hr 2; have q3 := blk_frozen hr 3; clear hr)
        | (go_at_call 19; refine (give_any a 4 _).mono ?_; rintro e w7 ⟨rfl, rfl⟩))
      exact ⟨rfl, rfl, HK.out⟩
end Go.Proofs.YtlmmbefejmbpeaaDoor.M
namespace Go.Proofs.YtlmmbefejmbpeaaDoor.M
open Go.RowKit Go.Shelf Go.Proofs.Qp Go.Proofs.YtlmmbefejmbpeaaDoorW.PrintWords Go.Proofs.YtlmmbefejmbpeaaDoorW.PrintLast Go.Proofs.YtlmmbefejmbpeaaDoorW.PrintMore Go.Proofs.YtlmmbefejmbpeaaDoor.PQry0 Go.Proofs.YtlmmbefejmbpeaaDoor.G
set_option linter.unusedVariables false
set_option linter.unusedSimpArgs false
/-- what a reader's function answers: a query that is its own, or the fault -/
def Out (g : Nat) (s : ByteArray) (w w' : World) (e : Ending) : Rs S25 → Prop
  | .ok q a o => (∃ cs : List Value, e = .returned (.agg cs.toArray) ∧ k25.M w' w.heap.size (fun k => w.heap.size ≤ k) q cs) ∧ RdAt w' g s a o ∧ Kp (fun k => k = g) w w'
  | .bad a c => e = .panicked (faultV a c) ∧ Kp (fun k => k = g) w w'
abbrev lf (l : List UInt8) : Option S25 := leafV ⟨l.toArray⟩
def wordR (l : List UInt8) (a o : Nat) : Rs S25 := match lf (wordAt l a) with
  | some q => .ok q (wend l a) o
  | none => .bad a 4
theorem extract_word (s : ByteArray) (a : Nat) : s.extract a (wend (lt s) a) = ⟨(wordAt (lt s) a).toArray⟩ := by
  have h : (s.extract a (wend (lt s) a)).data.toList = wordAt (lt s) a := by
    have h1 : (s.extract a (wend (lt s) a)).data.toList = ((lt s).drop a).take (wend (lt s) a - a) := by
      simp [List.drop_take]
    rw [h1]
    have h2 : wend (lt s) a - a = (wordAt (lt s) a).length := by unfold wend; omega
    rw [h2]
    unfold wordAt
    exact List.prefix_iff_eq_take.1 (List.takeWhile_prefix _) |>.symm
  cases hx : s.extract a (wend (lt s) a) with
  | mk d =>
    rw [hx] at h
    rw [← h]
theorem out_leaf {g : Nat} {s : ByteArray} {w w' : World} {a o : Nat} {k : Int} {t : ByteArray} {n : Int} (hr : RdAt w' g s a o) (hk : Kp (fun k => k = g) w w') :
    Out g s w w' (.returned (.agg #[.int .u8 k, .string t, .int .i64 n, .slice none 0 0])) (.ok ⟨k, t, n, []⟩ a o) :=
  ⟨⟨[.int .u8 k, .string t, .int .i64 n, .slice none 0 0], rfl, k25_mkM _ _ _ ⟨k, t, n, []⟩ (Kd.R_nil _ _ _ _ _)⟩, hr, hk⟩
theorem first_none {x : ByteArray} (h : (lt x)[0]? = none) : x = ⟨#[]⟩ := by
  have h2 : x.data.toList = [] := List.eq_nil_of_length_eq_zero (Nat.le_zero.1 (List.getElem?_eq_none_iff.1 h))
  cases x with
  | mk d => have h3 : d = #[] := by cases d; simp at h2; rw [h2]
            rw [h3]
theorem out_bad {g : Nat} {s : ByteArray} {w w' : World} {a : Nat} {c : Int} (hk : Kp (fun k => k = g) w w') : Out g s w w' (.panicked (faultV a c)) (.bad a c) := ⟨rfl, hk⟩
theorem word_any {w : World} {g : Nat} {s : ByteArray} {a o : Nat} (h : RdAt w g s a o) (hT : TT g w) (hs : s.size ≤ 1000) (ha : a ≤ s.size) :
    Calls Tryd.prog 47 #[rp g] w fun e w' => Out g s w w' e (wordR (lt s) a o) := by
  unfold wordR lf
  rw [← extract_word]
  by_cases hX : s.extract a (wend (lt s) a) = ⟨#[42]⟩
  · refine (word_all h hT.tabs hs ha hX).mono ?_
    rintro e w' ⟨rfl, hr, hk⟩
    rw [show leafV (s.extract a (wend (lt s) a)) = some ⟨0, ⟨#[]⟩, 0, []⟩ from by unfold leafV; rw [if_pos hX]]
    exact out_leaf hr hk
  cases h1 : oneB (s.extract a (wend (lt s) a)) with
  | true =>
    refine (word_one h hT hs ha hX h1).mono ?_
    rintro e w' ⟨⟨rfl, hr⟩, hk⟩
    rw [show leafV (s.extract a (wend (lt s) a)) = some ⟨1, _, 0, []⟩ from by unfold leafV; rw [if_neg hX, if_pos h1]]
    exact out_leaf hr hk
  | false =>
  cases h2 : pairB (s.extract a (wend (lt s) a)) with
  | true =>
    refine (word_pair h hT hs ha hX h1 h2).mono ?_
    rintro e w' ⟨⟨rfl, hr⟩, hk⟩
    rw [show leafV (s.extract a (wend (lt s) a)) = some ⟨2, _, 0, []⟩ from by unfold leafV; rw [if_neg hX, if_neg (by rw [h1]; simp), if_pos h2]]
    exact out_leaf hr hk
  | false =>
  have hL : leafV (s.extract a (wend (lt s) a)) = numV (s.extract a (wend (lt s) a)) := by unfold leafV; rw [if_neg hX, if_neg (by rw [h1]; simp), if_neg (by rw [h2]; simp)]
  cases h3 : (lt (s.extract a (wend (lt s) a)))[0]? with
  | none =>
    refine (word_empty h hT hs ha hX h1 h2 (first_none h3)).mono ?_
    rintro e w' ⟨rfl, hk⟩
    rw [hL, numV_none (by rw [h3]; simp) (by rw [h3]; simp)]
    exact out_bad hk
  | some c =>
  by_cases c62 : c = 62
  · subst c62
    by_cases hh : ∃ v, Lib.parseIntB 64 (lt ((s.extract a (wend (lt s) a)).extract 1 (s.extract a (wend (lt s) a)).size)) = .ok v
    · obtain ⟨v, h4⟩ := hh
      by_cases h5 : (⟨(Lib.itoa v).toArray⟩ : ByteArray) = (s.extract a (wend (lt s) a)).extract 1 (s.extract a (wend (lt s) a)).size
      · refine (word_after h hT hs ha hX h1 h2 h3 v h4 h5).mono ?_
        rintro e w' ⟨⟨rfl, hr⟩, hk⟩
        rw [hL, numV_ok (.inl h3) h4 h5, if_pos h3]
        exact out_leaf hr hk
      · refine (word_fmtgt h hT hs ha hX h1 h2 h3 v h4 h5).mono ?_
        rintro e w' ⟨rfl, hk⟩
        rw [hL, numV_fmt h4 h5]
        exact out_bad hk
    · have h4 : ∀ v, Lib.parseIntB 64 (lt ((s.extract a (wend (lt s) a)).extract 1 (s.extract a (wend (lt s) a)).size)) ≠ .ok v := fun v e => hh ⟨v, e⟩
      refine (word_pargt h hT hs ha hX h1 h2 h3 h4).mono ?_
      rintro e w' ⟨rfl, hk⟩
      rw [hL, numV_bad h4]
      exact out_bad hk
  by_cases c60 : c = 60
  · subst c60
    by_cases hh : ∃ v, Lib.parseIntB 64 (lt ((s.extract a (wend (lt s) a)).extract 1 (s.extract a (wend (lt s) a)).size)) = .ok v
    · obtain ⟨v, h4⟩ := hh
      by_cases h5 : (⟨(Lib.itoa v).toArray⟩ : ByteArray) = (s.extract a (wend (lt s) a)).extract 1 (s.extract a (wend (lt s) a)).size
      · refine (word_before h hT hs ha hX h1 h2 h3 v h4 h5).mono ?_
        rintro e w' ⟨⟨rfl, hr⟩, hk⟩
        rw [hL, numV_ok (.inr h3) h4 h5, if_neg (by rw [h3]; decide)]
        exact out_leaf hr hk
      · refine (word_fmtlt h hT hs ha hX h1 h2 h3 v h4 h5).mono ?_
        rintro e w' ⟨rfl, hk⟩
        rw [hL, numV_fmt h4 h5]
        exact out_bad hk
    · have h4 : ∀ v, Lib.parseIntB 64 (lt ((s.extract a (wend (lt s) a)).extract 1 (s.extract a (wend (lt s) a)).size)) ≠ .ok v := fun v e => hh ⟨v, e⟩
      refine (word_parlt h hT hs ha hX h1 h2 h3 h4).mono ?_
      rintro e w' ⟨rfl, hk⟩
      rw [hL, numV_bad h4]
      exact out_bad hk
  refine (word_other h hT hs ha hX h1 h2 c h3 c62 c60).mono ?_
  rintro e w' ⟨rfl, hk⟩
  rw [hL, numV_none (by rw [h3]; simpa using c62) (by rw [h3]; simpa using c60)]
  exact out_bad hk
end Go.Proofs.YtlmmbefejmbpeaaDoor.M
