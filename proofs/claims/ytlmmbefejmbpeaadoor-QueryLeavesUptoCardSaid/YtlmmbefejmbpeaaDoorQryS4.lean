/- Or, not. -/
import Derived.Test.YtlmmbefejmbpeaaDoorQryS3
namespace Go.Proofs.YtlmmbefejmbpeaaDoor.M
open Go.RowKit Go.Shelf Go.Proofs.Qp Go.Proofs.YtlmmbefejmbpeaaDoorW.PrintWords Go.Proofs.YtlmmbefejmbpeaaDoorW.PrintLast Go.Proofs.YtlmmbefejmbpeaaDoorW.PrintMore Go.Proofs.YtlmmbefejmbpeaaDoor.PQry0 Go.Proofs.YtlmmbefejmbpeaaDoor.G
set_option linter.unusedVariables false
set_option linter.unusedSimpArgs false
/-- and, over not at fuel f, answers as andV -/
def AndOk (g : Nat) (s : ByteArray) (f : Nat) : Prop := ∀ (w : World) (a o : Nat), RdAt w g s a o → TT g w → a ≤ s.size → o ≤ 16 → s.size < f + a →
  Calls Tryd.prog 28 #[rp g] w fun e w' => Out g s w w' e (andV (lt s) mkQ (notV (lt s) mkQ lf f) a o)
section
variable {Q : Type} {l : List UInt8} {mk : Int → List Q → Q} {A : Nat → Nat → Rs Q} {k : Nat} {acc : List Q} {a o : Nat}
theorem or_stop (hk : 0 < k) (h : keyB l a [79, 82] = false) : orLoop l mk A k acc a o = .ok (lst mk 4 acc) (skip l a) o := by
  obtain ⟨k, rfl⟩ : ∃ j, k = j + 1 := ⟨k - 1, by omega⟩
  unfold keyB at h
  unfold orLoop
  rw [if_neg (by intro ⟨h1, h2⟩; rw [h1] at h; simp at h; rw [h2] at h; simp at h)]
theorem or_fault (hk : 0 < k) (h1 : isB l (skip l a) [79, 82] = true) (h2 : endB l (skip l a + 2) = true) {p : Nat} {e : Int} (hN : A (skip l a + 2) o = .bad p e) : orLoop l mk A k acc a o = .bad p e := by
  obtain ⟨k, rfl⟩ : ∃ j, k = j + 1 := ⟨k - 1, by omega⟩
  unfold orLoop
  rw [if_pos ⟨h1, h2⟩, hN]
theorem or_next (hk : 0 < k) (h1 : isB l (skip l a) [79, 82] = true) (h2 : endB l (skip l a + 2) = true) {q : Q} {a' o' : Nat} (hN : A (skip l a + 2) o = .ok q a' o') : orLoop l mk A k acc a o = orLoop l mk A (k - 1) (acc ++ [q]) a' o' := by
  obtain ⟨k, rfl⟩ : ∃ j, k = j + 1 := ⟨k - 1, by omega⟩
  show orLoop l mk A (k + 1) acc a o = orLoop l mk A k (acc ++ [q]) a' o'
  rw [orLoop, if_pos ⟨h1, h2⟩, hN]
end
set_option maxHeartbeats 4000000 in
set_option maxRecDepth 100000 in
theorem or_bad {w : World} {g : Nat} {s : ByteArray} {f a o : Nat} (hN : AndOk g s f) (h : RdAt w g s a o) (hT : TT g w) (hs : s.size ≤ 1000) (ha : a ≤ s.size) (ho : o ≤ 16) (hf : s.size < f + a) {p : Nat} {c : Int} (hE : andV (lt s) mkQ (notV (lt s) mkQ lf f) a o = .bad p c) :
    Calls Tryd.prog 17 #[rp g] w fun e w' => Out g s w w' e (.bad p c) := by
  obtain ⟨c0, c1, c2, f1, f2⟩ := h.cells
  have H := Aside0.mk h
  have HN := Aside0.mk (fun w' hr hk => (hN w' a o hr (hT.kp hk) ha ho hf : Calls Tryd.prog 28 #[rp g] w' fun e w'' => Out g s w' w'' e (andV (lt s) mkQ (notV (lt s) mkQ lf f) a o)))
  rw [hE] at HN
  clear h hT hN hE
  have HA := Aside0.mk (H.out.old (Below.alloc (Below.refl w.heap.size w) (Nat.le_refl _) (.cells Z4 25)))
  have HK := Aside0.mk (Kp.of_below (S := fun k => k = g) (Below.alloc (Below.refl w.heap.size w) (Nat.le_refl _) (.cells Z4 25)))
  have hu25 := Tryd.underlying25
  have hs25 := Tryd.sizeOf25
  have hz25 := Tryd.zeroValue25
  go_enter Tryd.func17, Tryd.ntmps17
  go_wp2_with (first
    | (go_at_call 28; refine (HN.out _ HA.out HK.out).mono ?_; rintro e w3 ⟨rfl, hk⟩))
  exact ⟨rfl, out_bad (HK.out.trans hk)⟩
set_option maxHeartbeats 4000000 in
set_option maxRecDepth 100000 in
theorem or_ok {w : World} {g : Nat} {s : ByteArray} {f a o a1 : Nat} {q1 : S25} (hN : AndOk g s f) (h : RdAt w g s a o) (hT : TT g w) (hs : s.size ≤ 1000) (ha : a ≤ s.size) (ho : o ≤ 16) (hf : s.size < f + a) (hE : andV (lt s) mkQ (notV (lt s) mkQ lf f) a o = .ok q1 a1 o) (h1 : a < a1) (h2 : a1 ≤ s.size) :
    Calls Tryd.prog 17 #[rp g] w fun e w' => Out g s w w' e (orLoop (lt s) mkQ (andV (lt s) mkQ (notV (lt s) mkQ lf f)) (s.size + 1) [q1] a1 o) := by
  obtain ⟨c0, c1, c2, f1, f2⟩ := h.cells
  have H := Aside0.mk h
  have HN := Aside0.mk hN
  have HT := Aside0.mk hT
  have HE := Aside0.mk hE
  have HG : Aside0 (w.heap.size ≠ g) := ⟨by have := H.out.lt; omega⟩
  clear h hT hN hE
  have HA := Aside0.mk (H.out.old (Below.alloc (Below.refl w.heap.size w) (Nat.le_refl _) (.cells Z4 25)))
  have HK := Aside0.mk (Kp.of_below (S := fun k => k = g) (Below.alloc (Below.refl w.heap.size w) (Nat.le_refl _) (.cells Z4 25)))
  have HZ : Aside0 ((w.alloc (.cells Z4 25)).heap[w.heap.size]? = some (.cells Z4 25)) := ⟨blk_new _ _⟩
  have hu25 := Tryd.underlying25
  have hs25 := Tryd.sizeOf25
  have hz25 := Tryd.zeroValue25
  go_enter Tryd.func17, Tryd.ntmps17
  go_wp2_with (first
    | (go_at_call 28; refine (HN.out _ a o HA.out (HT.out.kp HK.out) ha ho hf).mono ?_; rw [HE.out]; rintro e w3 ⟨⟨cs, rfl, hM⟩, hr, hk⟩; obtain ⟨A3, n3, rfl⟩ := M_opened hM
       have HS := Aside0.mk (show Ast w g s a1 o _ [q1] (w3.alloc (.cells #[.int .u8 q1.f0, .string q1.f1, .int .i64 q1.f2, .slice A3 q1.f3.length n3] 25)) from ⟨hr.old (Below.alloc (Below.refl _ _) (Nat.le_refl _) _), (HK.out.trans hk).alloc _, R_lit1 (k25.M_lower (by simp) hM) (fun k hk => by simp at hk; omega) (by have := hk.size; simp at this; omega) (by have := hk.size; simp at this; omega), by rw [← HZ.out]; exact ((Below.alloc (Below.refl w3.heap.size w3) (Nat.le_refl _) _).block _ (by have := hk.size; simp at this; omega)).trans (hk.block _ (by simp) (by exact HG.out))⟩); clear hM hr hk))
  have hgw : g < w.heap.size := H.out.lt
  go_loopw [3] (fun v wq => ∃ (acc : List S25) (b k : Nat), a < b ∧ b ≤ s.size ∧ s.size < k + b ∧ acc.length ≤ b ∧ Aside0 (Ast w g s b o v acc wq) ∧ Aside0 (orLoop (lt s) mkQ (andV (lt s) mkQ (notV (lt s) mkQ lf f)) k acc b o = orLoop (lt s) mkQ (andV (lt s) mkQ (notV (lt s) mkQ lf f)) (s.size + 1) [q1] a1 o)) (fun _ wq => s.size - posOf g wq)
  case atStart => exact ⟨[q1], a1, s.size + 1, h1, h2, by omega, by simp; omega, HS, ⟨rfl⟩⟩
  case round =>
    obtain ⟨acc, b0, k, hb0, hb1, hk, hal, HS, HL⟩ := hrel
    have HPW := Aside0.mk HS.out.rd.pos
    obtain ⟨A0, n0, ev⟩ := Kd.R_slice HS.out.row
    subst ev
    have hle := skip_le (lt s) (i := b0) (by simpa using hb1)
    have hge := skip_ge (lt s) b0
    have hle2 : skip (lt s) b0 ≤ s.size := by simpa using hle
    clear hle
    generalize hbb : skip (lt s) b0 = b at hle2 hge
    have HB0 := Aside0.mk hbb
    clear hbb
    have hk0 : 0 < k := by omega
    have hb00 : (0 : Int) ≤ (b : Int) := by omega
    cases hkb : keyB (lt s) b0 [79, 82] with
    | false =>
      have HLF := Aside0.mk (HL.out.symm.trans (or_stop hk0 hkb))
      rw [HB0.out] at HLF
      have HKB : Aside0 (keyB (lt s) b0 (lt ⟨#[79, 82]⟩) = false) := ⟨hkb⟩
      clear hkb
      go_wp2_with (first
        | (go_at_call 29; refine (key_no HS.out.rd ⟨#[79, 82]⟩ hs hb1 (by decide) HKB.out).mono ?_; rintro e w1 ⟨rfl, hR, hK⟩; rw [HB0.out] at hR; replace HS := Aside0.mk (HS.out.moved hgw hR hK); clear hR hK)
        | (go_at_call 30; refine (list_any 4 (by exact HS.out.row)).mono ?_; rintro e w6 ⟨⟨cs, rfl, hM⟩, hBl⟩; obtain ⟨A6, n6, rfl⟩ := M_opened hM; replace HM := Aside0.mk hM; replace HS := Aside0.mk (HS.out.old hBl); have HBK := Aside0.mk HS.out.blk; have hr := HBK.out; have r0 := blk_cell hr 0; have r1 := blk_cell hr 1; have r2 := blk_cell hr 2; have r3 := blk_cell hr 3; have z0 := blk_frozen hr 0; have z1 := blk_frozen hr 1; have z2 := blk_frozen hr 2; have z3 := blk_frozen hr 3; clear hr; clear hM hBl))
      refine bodyPost_ret (results_cell_row rfl _ _ w.heap.size 25 #[.int .u8 (lst mkQ 4 acc).f0, .string (lst mkQ 4 acc).f1, .int .i64 (lst mkQ 4 acc).f2, .slice A6 (lst mkQ 4 acc).f3.length n6] (0, 0) _ rfl (blk_put (blk_put (blk_put (blk_put HBK.out 0 (.int .u8 (lst mkQ 4 acc).f0) rfl) 1 (.string (lst mkQ 4 acc).f1) rfl) 2 (.int .i64 (lst mkQ 4 acc).f2) rfl) 3 (.slice A6 (lst mkQ 4 acc).f3.length n6) rfl) hu25 rfl rfl) rfl ?_
      rw [HLF.out]
      exact HS.out.fin hgw HM.out _ _ _ _
    | true =>
      have hkk : isB (lt s) b [79, 82] = true ∧ endB (lt s) (b + 2) = true := by
        unfold keyB at hkb; rw [HB0.out] at hkb; simpa using hkb
      obtain ⟨hk1, hk2⟩ := hkk
      have hb2 : b + 2 ≤ s.size := by have := isB_le (lt s) hk1 (by simp); simpa using this
      have HK1 : Aside0 (isB (lt s) (skip (lt s) b0) (lt ⟨#[79, 82]⟩) = true) := ⟨by rw [HB0.out]; exact hk1⟩
      have HK2 : Aside0 (endB (lt s) (skip (lt s) b0 + (⟨#[79, 82]⟩ : ByteArray).size) = true) := ⟨by rw [HB0.out]; exact hk2⟩
      clear hkb
      cases hN2 : andV (lt s) mkQ (notV (lt s) mkQ lf f) (b + 2) o with
      | bad p c =>
        have HLF := Aside0.mk (HL.out.symm.trans (or_fault hk0 (by rw [HB0.out]; exact hk1) (by rw [HB0.out]; exact hk2) (by rw [HB0.out]; exact hN2)))
        have HN2 := Aside0.mk hN2
        clear hN2 hk1 hk2
        go_wp2_with (first
          | (go_at_call 29; refine (key_yes HS.out.rd ⟨#[79, 82]⟩ hs hb1 (by decide) HK1.out HK2.out).mono ?_; rintro e w1 ⟨rfl, hR, hK⟩; rw [HB0.out] at hR; replace HS := Aside0.mk (HS.out.moved hgw (show RdAt w1 g s (b + 2) _ from hR) hK); clear hR hK)
          | (go_at_call 28; refine (HN.out _ (b + 2) o (by exact HS.out.rd) (HT.out.kp HS.out.kp) hb2 ho (by omega)).mono ?_; rw [HN2.out]; rintro e w7 ⟨rfl, hk7⟩))
        exact ⟨rfl, by rw [HLF.out]; exact out_bad (HS.out.kp.trans hk7)⟩
      | ok q2 a2 o2 =>
        obtain ⟨g1, g2, rfl⟩ := andV_goes (lt s) mkQ (notV_goes (lt s) mkQ lf leaf_nil f) _ _ _ _ _ (by simpa using hb2) hN2
        have g3 : a2 ≤ s.size := by simpa using g2
        have HLF := Aside0.mk (HL.out.symm.trans (or_next hk0 (by rw [HB0.out]; exact hk1) (by rw [HB0.out]; exact hk2) (by rw [HB0.out]; exact hN2)))
        have HN2 := Aside0.mk hN2
        clear hN2 g2 hk1 hk2
        go_wp2_with (first
          | (go_at_call 29; refine (key_yes HS.out.rd ⟨#[79, 82]⟩ hs hb1 (by decide) HK1.out HK2.out).mono ?_; rintro e w1 ⟨rfl, hR, hK⟩; rw [HB0.out] at hR; replace HS := Aside0.mk (HS.out.moved hgw (show RdAt w1 g s (b + 2) _ from hR) hK); clear hR hK)
          | (go_at_call 28; refine (HN.out _ (b + 2) o2 (by exact HS.out.rd) (HT.out.kp HS.out.kp) hb2 ho (by omega)).mono ?_; rw [HN2.out]; rintro e w7 ⟨⟨cs, rfl, hM⟩, hR, hK⟩; obtain ⟨A7, n7, rfl⟩ := M_opened hM; have HM := Aside0.mk (k25.M_lower HS.out.kp.size hM); have HOW := Aside0.mk (Kd.R_lt HS.out.row); have HSZ := Aside0.mk (blk_lt HS.out.blk); replace HS := Aside0.mk (HS.out.moved hgw hR hK); clear hM hR hK)
          | (at_builtin; refine Kd.R_append k25 w.heap.size rfl (.tmp 9) (.tmp 12) 23 25 (.agg Z4) 56 rfl Tryd.underlying23 info25q rfl (by decide) (by omega) (.slice A0 acc.length n0) acc q2 [.int .u8 q2.f0, .string q2.f1, .int .i64 q2.f2, .slice A7 q2.f3.length n7] (fun k => w.heap.size < k) _ rfl rfl HM.out (fun k hk => ?ap) (fun k hk => ?fr) HS.out.row (Below.refl w.heap.size _) HS.out.kp.size ?ln ?_; (case ap => exact ⟨Nat.lt_of_lt_of_le HSZ.out hk, fun e => by have := HOW.out k e.symm; omega⟩); (case fr => exact Nat.lt_of_lt_of_le (blk_lt HS.out.blk) hk); (case ln => omega); intro v8 w8 hR8 hB8 hG8 hat8; replace HS := Aside0.mk (HS.out.grow hgw hR8 hG8); clear hR8 hB8 hG8 hat8))
        refine ⟨⟨acc ++ [q2], a2, k - 1, by omega, g3, by omega, by simp; omega, HS, ⟨HLF.out.symm⟩⟩, ?_⟩
        rw [HS.out.rd.pos, HPW.out]; omega
end Go.Proofs.YtlmmbefejmbpeaaDoor.M
namespace Go.Proofs.YtlmmbefejmbpeaaDoor.M
open Go.RowKit Go.Shelf Go.Proofs.Qp Go.Proofs.YtlmmbefejmbpeaaDoorW.PrintWords Go.Proofs.YtlmmbefejmbpeaaDoorW.PrintLast Go.Proofs.YtlmmbefejmbpeaaDoorW.PrintMore Go.Proofs.YtlmmbefejmbpeaaDoor.PQry0 Go.Proofs.YtlmmbefejmbpeaaDoor.G
set_option linter.unusedVariables false
set_option linter.unusedSimpArgs false
theorem and_any {g : Nat} {s : ByteArray} {f : Nat} (hN : NotOk g s f) (hs : s.size ≤ 1000) : AndOk g s f := by
  intro w a o h hT ha ho hf
  unfold andV
  cases hE : notV (lt s) mkQ lf f a o with
  | bad p c => exact and_bad hN h hT hs ha ho hf hE
  | ok q a1 o1 =>
    obtain ⟨g1, g2, rfl⟩ := notV_goes (lt s) mkQ lf leaf_nil f _ _ _ _ _ (by simpa using ha) hE
    have := and_ok hN h hT hs ha ho hf hE g1 (by simpa using g2)
    simpa using this
/-- or, over not at fuel f, answers as orV -/
def OrOk (g : Nat) (s : ByteArray) (f : Nat) : Prop := ∀ (w : World) (a o : Nat), RdAt w g s a o → TT g w → a ≤ s.size → o ≤ 16 → s.size < f + a →
  Calls Tryd.prog 17 #[rp g] w fun e w' => Out g s w w' e (orV (lt s) mkQ (andV (lt s) mkQ (notV (lt s) mkQ lf f)) a o)
theorem or_any {g : Nat} {s : ByteArray} {f : Nat} (hN : AndOk g s f) (hs : s.size ≤ 1000) : OrOk g s f := by
  intro w a o h hT ha ho hf
  unfold orV
  cases hE : andV (lt s) mkQ (notV (lt s) mkQ lf f) a o with
  | bad p c => exact or_bad hN h hT hs ha ho hf hE
  | ok q a1 o1 =>
    obtain ⟨g1, g2, rfl⟩ := andV_goes (lt s) mkQ (notV_goes (lt s) mkQ lf leaf_nil f) _ _ _ _ _ (by simpa using ha) hE
    have := or_ok hN h hT hs ha ho hf hE g1 (by simpa using g2)
    simpa using this
theorem tw_stop {α : Type} (p : α → Bool) : ∀ (m : List α) (c : α), m[(m.takeWhile p).length]? = some c → p c = false := by
  intro m
  induction m with
  | nil => intro c h; simp at h
  | cons x t ih =>
    intro c h
    cases hx : p x with
    | true =>
      rw [List.takeWhile_cons, hx] at h
      simp at h
      exact ih c h
    | false =>
      rw [List.takeWhile_cons, hx] at h
      simp at h
      rw [← h]; exact hx
theorem skip_skip (l : List UInt8) (a : Nat) : skip l (skip l a) = skip l a := by
  apply skip_stop
  intro c hc e
  subst e
  unfold skip at hc
  rw [← List.getElem?_drop] at hc
  have := tw_stop _ _ _ hc
  simp at this
/-- where not stands at first: its result's cell is there -/
abbrev Nst (w : World) (g : Nat) (s : ByteArray) (a o : Nat) (w' : World) : Prop := Ast w g s a o (.slice none 0 0) [] w'
theorem nst_start {w : World} {g : Nat} {s : ByteArray} {a o : Nat} (h : RdAt w g s a o) : Nst w g s a o (w.alloc (.cells Z4 25)) :=
  ⟨h.old (Below.alloc (Below.refl w.heap.size w) (Nat.le_refl _) _), Kp.of_below (Below.alloc (Below.refl w.heap.size w) (Nat.le_refl _) _), Kd.R_nil _ _ _ _ _, blk_new _ _⟩
theorem Ast.setA {w : World} {g : Nat} {s : ByteArray} {a o : Nat} {v : Value} {acc : List S25} {w' : World} (hg : g < w.heap.size) (h : Ast w g s a o v acc w') {b : Nat} {x : Int} (e : x = (b : Int)) : Ast w g s b o v acc (w'.setCell ⟨g, 1, none⟩ (.int .i64 x)) :=
  h.moved hg (h.rd.setA e) ((Kp.refl (fun k => k = g) _).setCell (p := ⟨g, 1, none⟩) rfl _)
theorem Ast.setO {w : World} {g : Nat} {s : ByteArray} {a o : Nat} {v : Value} {acc : List S25} {w' : World} (hg : g < w.heap.size) (h : Ast w g s a o v acc w') {b : Nat} {x : Int} (e : x = (b : Int)) : Ast w g s a b v acc (w'.setCell ⟨g, 2, none⟩ (.int .i64 x)) :=
  h.moved hg (h.rd.setO e) ((Kp.refl (fun k => k = g) _).setCell (p := ⟨g, 2, none⟩) rfl _)
theorem Ast.alloc {w : World} {g : Nat} {s : ByteArray} {a o : Nat} {v : Value} {acc : List S25} {w' : World} (h : Ast w g s a o v acc w') (ob : Obj) : Ast w g s a o v acc (w'.alloc ob) :=
  h.old (Below.alloc (Below.refl _ _) (Nat.le_refl _) _)
/-- where not stands with a query in a variable of its own -/
structure Bst (w : World) (g : Nat) (s : ByteArray) (a o n : Nat) (q : S25) (cs : List Value) (w' : World) : Prop where
  st : Nst w g s a o w'
  lt : w.heap.size < n
  qc : w'.heap[n]? = some (.cells cs.toArray 25)
  qm : k25.M w' w.heap.size (fun k => w.heap.size < k) q cs
theorem Bst.moved {w : World} {g : Nat} {s : ByteArray} {a o n : Nat} {q : S25} {cs : List Value} {a' o' : Nat} {w' w2 : World} (hg : g < w.heap.size) (h : Bst w g s a o n q cs w') (hr : RdAt w2 g s a' o') (hk : Kp (fun k => k = g) w' w2) : Bst w g s a' o' n q cs w2 :=
  ⟨h.st.moved hg hr hk, h.lt, (hk.block n (blk_lt h.qc) (by have := h.lt; omega)).trans h.qc, Kd.M_step h.qm (fun k hk2 hlt => hk.block k hlt (by omega))⟩
theorem Bst.setA {w : World} {g : Nat} {s : ByteArray} {a o n : Nat} {q : S25} {cs : List Value} {w' : World} (hg : g < w.heap.size) (h : Bst w g s a o n q cs w') {b : Nat} {x : Int} (e : x = (b : Int)) : Bst w g s b o n q cs (w'.setCell ⟨g, 1, none⟩ (.int .i64 x)) :=
  h.moved hg (h.st.rd.setA e) ((Kp.refl (fun k => k = g) _).setCell (p := ⟨g, 1, none⟩) rfl _)
theorem Bst.setO {w : World} {g : Nat} {s : ByteArray} {a o n : Nat} {q : S25} {cs : List Value} {w' : World} (hg : g < w.heap.size) (h : Bst w g s a o n q cs w') {b : Nat} {x : Int} (e : x = (b : Int)) : Bst w g s a b n q cs (w'.setCell ⟨g, 2, none⟩ (.int .i64 x)) :=
  h.moved hg (h.st.rd.setO e) ((Kp.refl (fun k => k = g) _).setCell (p := ⟨g, 2, none⟩) rfl _)
theorem Bst.old {w : World} {g : Nat} {s : ByteArray} {a o n : Nat} {q : S25} {cs : List Value} {w' w2 : World} (h : Bst w g s a o n q cs w') (hb : Below w'.heap.size w' w2) : Bst w g s a o n q cs w2 :=
  ⟨h.st.old hb, h.lt, (hb.block n (blk_lt h.qc)).trans h.qc, Kd.M_below h.qm hb⟩
theorem Bst.mk2 {w : World} {g : Nat} {s : ByteArray} {a o : Nat} {q : S25} {cs : List Value} {w' : World} (h : Nst w g s a o w') (hm : k25.M w' w.heap.size (fun k => w.heap.size < k) q cs) : Bst w g s a o w'.heap.size q cs (w'.alloc (.cells cs.toArray 25)) :=
  ⟨h.alloc _, blk_lt h.blk, blk_new _ _, Kd.M_alloc hm _⟩
theorem is_bst {w : World} (g : Nat) (s : ByteArray) (b o n : Nat) (q : S25) (cs : List Value) (p : ByteArray) {w' : World} (h : Bst w g s b o n q cs w') (hs : s.size ≤ 1000) (hb : b ≤ s.size) {r : Bool} (hr : isB (lt s) b (lt p) = r) :
    Calls Tryd.prog 39 #[rp g, .string p] w' fun e w2 => e = .returned (.bool r) ∧ Bst w g s b o n q cs w2 :=
  (is_any h.st.rd p hs hb).mono fun e w2 ⟨h1, h2⟩ => ⟨by rw [h1, hr], h.old h2⟩
theorem M_kid {w : World} {base : Nat} {ok : Nat → Prop} {k : Int} {qs : List S25} {A : Option Addr} {n : Nat} (h : k25.R 25 w base ok (.slice A qs.length n) qs) : k25.M w base ok (mkQ k qs) [.int .u8 k, .string ⟨#[]⟩, .int .i64 0, .slice A qs.length n] :=
  k25_mkM w base ok (mkQ k qs) h
set_option maxHeartbeats 4000000 in
set_option maxRecDepth 100000 in
theorem not_word_bad {w : World} {g : Nat} {s : ByteArray} {a o : Nat} (h : RdAt w g s a o) (hT : TT g w) (hs : s.size ≤ 1000) (ha : a ≤ s.size)
    (hk : keyB (lt s) a [78, 79, 84] = false) (hp : isB (lt s) (skip (lt s) a) [40] = false) {p : Nat} {c : Int} (hw : wordR (lt s) (skip (lt s) a) o = .bad p c) :
    Calls Tryd.prog 38 #[rp g] w fun e w' => Out g s w w' e (.bad p c) := by
  have hgw : g < w.heap.size := h.lt
  have HT := Aside0.mk hT
  have HS := Aside0.mk (nst_start h)
  have hle2 : skip (lt s) a ≤ s.size := by simpa using skip_le (lt s) (i := a) (by simpa using ha)
  have hss := skip_skip (lt s) a
  unfold keyB at hk
  generalize hbb : skip (lt s) a = b at hle2 hss hk hp hw
  have HB0 := Aside0.mk hbb
  have HSS := Aside0.mk hss
  have HKB : Aside0 (keyB (lt s) b (lt ⟨#[78, 79, 84]⟩) = false) := ⟨by unfold keyB; rw [hss]; exact hk⟩
  have HP : Aside0 (isB (lt s) b (lt ⟨#[40]⟩) = false) := ⟨hp⟩
  have HW := Aside0.mk hw
  clear h hT hbb hss hk hp hw
  have hu25 := Tryd.underlying25
  have hs25 := Tryd.sizeOf25
  have hz25 := Tryd.zeroValue25
  obtain ⟨c0, c1, c2, f1, f2⟩ := HS.out.rd.cells
  go_enter Tryd.func38, Tryd.ntmps38
  go_wp2_with (first
    | (go_at_call 18; refine (skip_any HS.out.rd hs ha).mono ?_; rintro e w1 ⟨rfl, hR, hK⟩; rw [HB0.out] at hR; replace HS := Aside0.mk (HS.out.moved hgw hR hK); clear hR hK c0 c1 c2 f1 f2; obtain ⟨c0, c1, c2, f1, f2⟩ := HS.out.rd.cells)
    | (go_at_call 29; refine (key_no HS.out.rd ⟨#[78, 79, 84]⟩ hs hle2 (by decide) HKB.out).mono ?_; rintro e w2 ⟨rfl, hR, hK⟩; rw [HSS.out] at hR; replace HS := Aside0.mk (HS.out.moved hgw hR hK); clear hR hK c0 c1 c2 f1 f2; obtain ⟨c0, c1, c2, f1, f2⟩ := HS.out.rd.cells)
    | (go_at_call 39; refine (is_ast (w := w) g s b o (.slice none 0 0) [] _ (by first | exact HS.out | exact HS.out.drew) hs hle2 rfl).mono ?_; rintro e w5 ⟨rfl, hS⟩; replace HS := Aside0.mk hS; clear hS; rw [HP.out])
    | (go_at_call 47; refine (word_any HS.out.rd (HT.out.kp HS.out.kp) hs hle2).mono ?_; rw [HW.out]; rintro e w7 ⟨rfl, hk7⟩))
  exact ⟨rfl, out_bad (HS.out.kp.trans hk7)⟩
end Go.Proofs.YtlmmbefejmbpeaaDoor.M
namespace Go.Proofs.YtlmmbefejmbpeaaDoor.M
open Go.RowKit Go.Shelf Go.Proofs.Qp Go.Proofs.YtlmmbefejmbpeaaDoorW.PrintWords Go.Proofs.YtlmmbefejmbpeaaDoorW.PrintLast Go.Proofs.YtlmmbefejmbpeaaDoorW.PrintMore Go.Proofs.YtlmmbefejmbpeaaDoor.PQry0 Go.Proofs.YtlmmbefejmbpeaaDoor.G
set_option linter.unusedVariables false
set_option linter.unusedSimpArgs false
set_option maxHeartbeats 4000000 in
set_option maxRecDepth 100000 in
theorem not_wok {w : World} {g : Nat} {s : ByteArray} {a o f : Nat} (hN : NotOk g s f) (hO : OrOk g s f) (h : RdAt w g s a o) (hT : TT g w) (hs : s.size ≤ 1000) (ha : a ≤ s.size) (ho : o ≤ 16) (hf : s.size < f + 1 + a)
    (hk : keyB (lt s) a [78, 79, 84] = false) (hp : isB (lt s) (skip (lt s) a) [40] = false) {q : S25} {a1 o1 : Nat} (hw : wordR (lt s) (skip (lt s) a) o = .ok q a1 o1) :
    Calls Tryd.prog 38 #[rp g] w fun e w' => Out g s w w' e (.ok q a1 o1) := by
  have hgw : g < w.heap.size := h.lt
  have HT := Aside0.mk hT
  have HN := Aside0.mk hN
  have HO := Aside0.mk hO
  have HS := Aside0.mk (nst_start h)
  have hle2 : skip (lt s) a ≤ s.size := by simpa using skip_le (lt s) (i := a) (by simpa using ha)
  have hge := skip_ge (lt s) a
  have hss := skip_skip (lt s) a
  generalize hbb : skip (lt s) a = b at *
  have HB0 := Aside0.mk hbb
  have HSS := Aside0.mk hss
  have HKB : Aside0 (keyB (lt s) b (lt ⟨#[78, 79, 84]⟩) = false) := ⟨by unfold keyB at hk ⊢; rw [hss]; rw [hbb] at hk; exact hk⟩
  have HP : Aside0 (isB (lt s) b (lt ⟨#[40]⟩) = false) := ⟨hp⟩
  have HW := Aside0.mk hw
  clear hk hp hw
  clear h hT hN hO hbb hss
  have hu25 := Tryd.underlying25
  have hs25 := Tryd.sizeOf25
  have hz25 := Tryd.zeroValue25
  obtain ⟨c0, c1, c2, f1, f2⟩ := HS.out.rd.cells
  go_enter Tryd.func38, Tryd.ntmps38
  go_wp2_with (first
    | (go_at_call 18; refine (skip_any HS.out.rd hs ha).mono ?_; rintro e w1 ⟨rfl, hR, hK⟩; rw [HB0.out] at hR; replace HS := Aside0.mk (HS.out.moved hgw hR hK); clear hR hK; clear c0 c1 c2 f1 f2; obtain ⟨c0, c1, c2, f1, f2⟩ := HS.out.rd.cells)
    | (go_at_call 29; refine (key_no HS.out.rd ⟨#[78, 79, 84]⟩ hs hle2 (by decide) HKB.out).mono ?_; rintro e w2 ⟨rfl, hR, hK⟩; rw [HSS.out] at hR; replace HS := Aside0.mk (HS.out.moved hgw hR hK); clear hR hK; clear c0 c1 c2 f1 f2; obtain ⟨c0, c1, c2, f1, f2⟩ := HS.out.rd.cells)
    | (go_at_call 39; refine (is_ast (w := w) g s b o (.slice none 0 0) [] _ (by first | exact HS.out | exact HS.out.drew) hs hle2 rfl).mono ?_; rintro e w5 ⟨rfl, hS⟩; replace HS := Aside0.mk hS; clear hS; clear c0 c1 c2 f1 f2; obtain ⟨c0, c1, c2, f1, f2⟩ := HS.out.rd.cells; rw [HP.out])
    | (go_at_call 47; refine (word_any HS.out.rd (HT.out.kp HS.out.kp) hs hle2).mono ?_; rw [HW.out]; rintro e w7 ⟨⟨cs, rfl, hM⟩, hR, hK⟩; obtain ⟨A6, n6, rfl⟩ := M_opened hM; have HM := Aside0.mk (k25.M_lower HS.out.kp.size (k25.M_mono (ok' := fun k => w.heap.size < k) (fun k hk => Nat.lt_of_lt_of_le (blk_lt HS.out.blk) hk) hM)); clear hM; replace HS := Aside0.mk (HS.out.moved hgw hR hK); clear hR hK; clear c0 c1 c2 f1 f2; obtain ⟨c0, c1, c2, f1, f2⟩ := HS.out.rd.cells; have HBK := Aside0.mk HS.out.blk; have hr := HBK.out; have r0 := blk_cell hr 0; have r1 := blk_cell hr 1; have r2 := blk_cell hr 2; have r3 := blk_cell hr 3; have z0 := blk_frozen hr 0; have z1 := blk_frozen hr 1; have z2 := blk_frozen hr 2; have z3 := blk_frozen hr 3; clear hr))
  refine bodyPost_ret (results_cell_row rfl _ _ w.heap.size 25 #[.int .u8 (q).f0, .string (q).f1, .int .i64 (q).f2, .slice A6 (q).f3.length n6] (0, 0) _ rfl (blk_put (blk_put (blk_put (blk_put HBK.out 0 (.int .u8 (q).f0) rfl) 1 (.string (q).f1) rfl) 2 (.int .i64 (q).f2) rfl) 3 (.slice A6 (q).f3.length n6) rfl) hu25 rfl rfl) rfl ?_
  exact HS.out.fin hgw HM.out _ _ _ _
end Go.Proofs.YtlmmbefejmbpeaaDoor.M
namespace Go.Proofs.YtlmmbefejmbpeaaDoor.M
open Go.RowKit Go.Shelf Go.Proofs.Qp Go.Proofs.YtlmmbefejmbpeaaDoorW.PrintWords Go.Proofs.YtlmmbefejmbpeaaDoorW.PrintLast Go.Proofs.YtlmmbefejmbpeaaDoorW.PrintMore Go.Proofs.YtlmmbefejmbpeaaDoor.PQry0 Go.Proofs.YtlmmbefejmbpeaaDoor.G
set_option linter.unusedVariables false
set_option linter.unusedSimpArgs false
set_option maxHeartbeats 4000000 in
set_option maxRecDepth 100000 in
theorem not_ndeep {w : World} {g : Nat} {s : ByteArray} {a o f : Nat} (hN : NotOk g s f) (hO : OrOk g s f) (h : RdAt w g s a o) (hT : TT g w) (hs : s.size ≤ 1000) (ha : a ≤ s.size) (ho : o ≤ 16) (hf : s.size < f + 1 + a)
    (hk1 : isB (lt s) (skip (lt s) a) [78, 79, 84] = true) (hk2 : endB (lt s) (skip (lt s) a + 3) = true) (h16 : 16 < o + 1) :
    Calls Tryd.prog 38 #[rp g] w fun e w' => Out g s w w' e (.bad (skip (lt s) a) 7) := by
  have hgw : g < w.heap.size := h.lt
  have HT := Aside0.mk hT
  have HN := Aside0.mk hN
  have HO := Aside0.mk hO
  have HS := Aside0.mk (nst_start h)
  have hle2 : skip (lt s) a ≤ s.size := by simpa using skip_le (lt s) (i := a) (by simpa using ha)
  have hge := skip_ge (lt s) a
  have hss := skip_skip (lt s) a
  generalize hbb : skip (lt s) a = b at *
  have HB0 := Aside0.mk hbb
  have HSS := Aside0.mk hss
  have hb3 : b + 3 ≤ s.size := by have := isB_le (lt s) hk1 (by simp); simpa using this
  have HK1 : Aside0 (isB (lt s) (skip (lt s) b) (lt ⟨#[78, 79, 84]⟩) = true) := ⟨by rw [hss]; exact hk1⟩
  have HK2 : Aside0 (endB (lt s) (skip (lt s) b + (⟨#[78, 79, 84]⟩ : ByteArray).size) = true) := ⟨by rw [hss]; exact hk2⟩
  clear hk1 hk2
  clear h hT hN hO hbb hss
  have hu25 := Tryd.underlying25
  have hs25 := Tryd.sizeOf25
  have hz25 := Tryd.zeroValue25
  obtain ⟨c0, c1, c2, f1, f2⟩ := HS.out.rd.cells
  go_enter Tryd.func38, Tryd.ntmps38
  go_wp2_with (first
    | (go_at_call 18; refine (skip_any HS.out.rd hs ha).mono ?_; rintro e w1 ⟨rfl, hR, hK⟩; rw [HB0.out] at hR; replace HS := Aside0.mk (HS.out.moved hgw hR hK); clear hR hK; clear c0 c1 c2 f1 f2; obtain ⟨c0, c1, c2, f1, f2⟩ := HS.out.rd.cells)
    | (go_at_call 29; refine (key_yes HS.out.rd ⟨#[78, 79, 84]⟩ hs hle2 (by decide) HK1.out HK2.out).mono ?_; rintro e w2 ⟨rfl, hR, hK⟩; rw [HSS.out] at hR; replace HS := Aside0.mk (HS.out.moved hgw (show RdAt w2 g s (b + 3) o from hR) hK); clear hR hK; clear c0 c1 c2 f1 f2; obtain ⟨c0, c1, c2, f1, f2⟩ := HS.out.rd.cells)
    | (go_at_call 46; refine (deeper_no HS.out.rd b (by omega) (by omega)).mono ?_; rintro e w3 ⟨rfl, hk7⟩))
  exact ⟨rfl, out_bad (HS.out.kp.trans hk7)⟩
end Go.Proofs.YtlmmbefejmbpeaaDoor.M
namespace Go.Proofs.YtlmmbefejmbpeaaDoor.M
open Go.RowKit Go.Shelf Go.Proofs.Qp Go.Proofs.YtlmmbefejmbpeaaDoorW.PrintWords Go.Proofs.YtlmmbefejmbpeaaDoorW.PrintLast Go.Proofs.YtlmmbefejmbpeaaDoorW.PrintMore Go.Proofs.YtlmmbefejmbpeaaDoor.PQry0 Go.Proofs.YtlmmbefejmbpeaaDoor.G
set_option linter.unusedVariables false
set_option linter.unusedSimpArgs false
set_option maxHeartbeats 4000000 in
set_option maxRecDepth 100000 in
theorem not_nbad {w : World} {g : Nat} {s : ByteArray} {a o f : Nat} (hN : NotOk g s f) (hO : OrOk g s f) (h : RdAt w g s a o) (hT : TT g w) (hs : s.size ≤ 1000) (ha : a ≤ s.size) (ho : o ≤ 16) (hf : s.size < f + 1 + a)
    (hk1 : isB (lt s) (skip (lt s) a) [78, 79, 84] = true) (hk2 : endB (lt s) (skip (lt s) a + 3) = true) (h16 : ¬ 16 < o + 1) {p : Nat} {c : Int} (hE : notV (lt s) mkQ lf f (skip (lt s) a + 3) (o + 1) = .bad p c) :
    Calls Tryd.prog 38 #[rp g] w fun e w' => Out g s w w' e (.bad p c) := by
  have hgw : g < w.heap.size := h.lt
  have HT := Aside0.mk hT
  have HN := Aside0.mk hN
  have HO := Aside0.mk hO
  have HS := Aside0.mk (nst_start h)
  have hle2 : skip (lt s) a ≤ s.size := by simpa using skip_le (lt s) (i := a) (by simpa using ha)
  have hge := skip_ge (lt s) a
  have hss := skip_skip (lt s) a
  generalize hbb : skip (lt s) a = b at *
  have HB0 := Aside0.mk hbb
  have HSS := Aside0.mk hss
  have hb3 : b + 3 ≤ s.size := by have := isB_le (lt s) hk1 (by simp); simpa using this
  have HK1 : Aside0 (isB (lt s) (skip (lt s) b) (lt ⟨#[78, 79, 84]⟩) = true) := ⟨by rw [hss]; exact hk1⟩
  have HK2 : Aside0 (endB (lt s) (skip (lt s) b + (⟨#[78, 79, 84]⟩ : ByteArray).size) = true) := ⟨by rw [hss]; exact hk2⟩
  clear hk1 hk2
  have HE := Aside0.mk hE
  clear hE
  clear h hT hN hO hbb hss
  have hu25 := Tryd.underlying25
  have hs25 := Tryd.sizeOf25
  have hz25 := Tryd.zeroValue25
  obtain ⟨c0, c1, c2, f1, f2⟩ := HS.out.rd.cells
  go_enter Tryd.func38, Tryd.ntmps38
  go_wp2_with (first
    | (go_at_call 18; refine (skip_any HS.out.rd hs ha).mono ?_; rintro e w1 ⟨rfl, hR, hK⟩; rw [HB0.out] at hR; replace HS := Aside0.mk (HS.out.moved hgw hR hK); clear hR hK; clear c0 c1 c2 f1 f2; obtain ⟨c0, c1, c2, f1, f2⟩ := HS.out.rd.cells)
    | (go_at_call 29; refine (key_yes HS.out.rd ⟨#[78, 79, 84]⟩ hs hle2 (by decide) HK1.out HK2.out).mono ?_; rintro e w2 ⟨rfl, hR, hK⟩; rw [HSS.out] at hR; replace HS := Aside0.mk (HS.out.moved hgw (show RdAt w2 g s (b + 3) o from hR) hK); clear hR hK; clear c0 c1 c2 f1 f2; obtain ⟨c0, c1, c2, f1, f2⟩ := HS.out.rd.cells)
    | (go_at_call 46; refine (deeper_ok HS.out.rd b (by omega)).mono ?_; rintro e w3 ⟨rfl, hR, hK⟩; replace HS := Aside0.mk (HS.out.moved hgw hR hK); clear hR hK; clear c0 c1 c2 f1 f2; obtain ⟨c0, c1, c2, f1, f2⟩ := HS.out.rd.cells)
    | (go_at_call 38; refine (HN.out _ (b + 3) (o + 1) HS.out.rd (HT.out.kp HS.out.kp) hb3 (by omega) (by omega)).mono ?_; rw [HE.out]; rintro e w7 ⟨rfl, hk7⟩))
  exact ⟨rfl, out_bad (HS.out.kp.trans hk7)⟩
end Go.Proofs.YtlmmbefejmbpeaaDoor.M
namespace Go.Proofs.YtlmmbefejmbpeaaDoor.M
open Go.RowKit Go.Shelf Go.Proofs.Qp Go.Proofs.YtlmmbefejmbpeaaDoorW.PrintWords Go.Proofs.YtlmmbefejmbpeaaDoorW.PrintLast Go.Proofs.YtlmmbefejmbpeaaDoorW.PrintMore Go.Proofs.YtlmmbefejmbpeaaDoor.PQry0 Go.Proofs.YtlmmbefejmbpeaaDoor.G
set_option linter.unusedVariables false
set_option linter.unusedSimpArgs false
set_option maxHeartbeats 4000000 in
set_option maxRecDepth 100000 in
theorem not_nok {w : World} {g : Nat} {s : ByteArray} {a o f : Nat} (hN : NotOk g s f) (hO : OrOk g s f) (h : RdAt w g s a o) (hT : TT g w) (hs : s.size ≤ 1000) (ha : a ≤ s.size) (ho : o ≤ 16) (hf : s.size < f + 1 + a)
    (hk1 : isB (lt s) (skip (lt s) a) [78, 79, 84] = true) (hk2 : endB (lt s) (skip (lt s) a + 3) = true) (h16 : ¬ 16 < o + 1) {q : S25} {a1 : Nat} (hE : notV (lt s) mkQ lf f (skip (lt s) a + 3) (o + 1) = .ok q a1 (o + 1)) :
    Calls Tryd.prog 38 #[rp g] w fun e w' => Out g s w w' e (.ok (mkQ 5 [q]) a1 o) := by
  have hgw : g < w.heap.size := h.lt
  have HT := Aside0.mk hT
  have HN := Aside0.mk hN
  have HO := Aside0.mk hO
  have HS := Aside0.mk (nst_start h)
  have hle2 : skip (lt s) a ≤ s.size := by simpa using skip_le (lt s) (i := a) (by simpa using ha)
  have hge := skip_ge (lt s) a
  have hss := skip_skip (lt s) a
  generalize hbb : skip (lt s) a = b at *
  have HB0 := Aside0.mk hbb
  have HSS := Aside0.mk hss
  have hb3 : b + 3 ≤ s.size := by have := isB_le (lt s) hk1 (by simp); simpa using this
  have HK1 : Aside0 (isB (lt s) (skip (lt s) b) (lt ⟨#[78, 79, 84]⟩) = true) := ⟨by rw [hss]; exact hk1⟩
  have HK2 : Aside0 (endB (lt s) (skip (lt s) b + (⟨#[78, 79, 84]⟩ : ByteArray).size) = true) := ⟨by rw [hss]; exact hk2⟩
  clear hk1 hk2
  have HE := Aside0.mk hE
  clear hE
  clear h hT hN hO hbb hss
  have hu25 := Tryd.underlying25
  have hs25 := Tryd.sizeOf25
  have hz25 := Tryd.zeroValue25
  obtain ⟨c0, c1, c2, f1, f2⟩ := HS.out.rd.cells
  go_enter Tryd.func38, Tryd.ntmps38
  go_upto_region 6 with (first
    | (go_at_call 18; refine (skip_any HS.out.rd hs ha).mono ?_; rintro e w1 ⟨rfl, hR, hK⟩; rw [HB0.out] at hR; replace HS := Aside0.mk (HS.out.moved hgw hR hK); clear hR hK; clear c0 c1 c2 f1 f2; obtain ⟨c0, c1, c2, f1, f2⟩ := HS.out.rd.cells)
    | (go_at_call 29; refine (key_yes HS.out.rd ⟨#[78, 79, 84]⟩ hs hle2 (by decide) HK1.out HK2.out).mono ?_; rintro e w2 ⟨rfl, hR, hK⟩; rw [HSS.out] at hR; replace HS := Aside0.mk (HS.out.moved hgw (show RdAt w2 g s (b + 3) o from hR) hK); clear hR hK; clear c0 c1 c2 f1 f2; obtain ⟨c0, c1, c2, f1, f2⟩ := HS.out.rd.cells)
    | (go_at_call 46; refine (deeper_ok HS.out.rd b (by omega)).mono ?_; rintro e w3 ⟨rfl, hR, hK⟩; replace HS := Aside0.mk (HS.out.moved hgw hR hK); clear hR hK; clear c0 c1 c2 f1 f2; obtain ⟨c0, c1, c2, f1, f2⟩ := HS.out.rd.cells)
    | (go_at_call 38; refine (HN.out _ (b + 3) (o + 1) HS.out.rd (HT.out.kp HS.out.kp) hb3 (by omega) (by omega)).mono ?_; rw [HE.out]; rintro e w7 ⟨⟨cs, rfl, hM⟩, hR, hK⟩; obtain ⟨A6, n6, rfl⟩ := M_opened hM; have HM := Aside0.mk (k25.M_lower HS.out.kp.size (k25.M_mono (ok' := fun k => w.heap.size < k) (fun k hk => Nat.lt_of_lt_of_le (blk_lt HS.out.blk) hk) hM)); clear hM; replace HS := Aside0.mk (HS.out.moved hgw hR hK); clear hR hK; clear c0 c1 c2 f1 f2; obtain ⟨c0, c1, c2, f1, f2⟩ := HS.out.rd.cells; have HBK := Aside0.mk HS.out.blk))
  have hR1 := R_lit1 HM.out (fun k hk => hk) (blk_lt HS.out.blk) HS.out.kp.size
  have HB := Aside0.mk (Bst.mk2 (HS.out.alloc (.cells #[.int .u8 q.f0, .string q.f1, .int .i64 q.f2, .slice A6 q.f3.length n6] 25)) (M_kid (k := 5) (qs := [q]) hR1))
  have hn : (w7.alloc (.cells #[.int .u8 q.f0, .string q.f1, .int .i64 q.f2, .slice A6 q.f3.length n6] 25)).heap.size = w7.heap.size + 1 := by simp
  rw [hn] at HB
  clear hR1 hn HBK HM HS HN HO HE HK1 HK2 HT c0 c1 c2 f1 f2
  have HB1 : Aside0 (Bst w g s a1 (o + 1) (w7.heap.size + 1) (mkQ 5 [q]) [.int .u8 5, .string ⟨#[]⟩, .int .i64 0, .slice (some ⟨w7.heap.size, 0, none⟩) 1 1] (World.alloc (World.alloc w7 (.cells #[.int .u8 q.f0, .string q.f1, .int .i64 q.f2, .slice A6 q.f3.length n6] 25)) (.cells #[.int .u8 5, .string ⟨#[]⟩, .int .i64 0, .slice (some ⟨w7.heap.size, 0, none⟩) 1 1] 25))) := HB
  clear HB
  generalize (World.alloc (World.alloc w7 (.cells #[.int .u8 q.f0, .string q.f1, .int .i64 q.f2, .slice A6 q.f3.length n6] 25)) (.cells #[.int .u8 5, .string ⟨#[]⟩, .int .i64 0, .slice (some ⟨w7.heap.size, 0, none⟩) 1 1] 25)) = W9 at HB1 ⊢
  generalize w7.heap.size = m at HB1 ⊢
  obtain ⟨d0, d1, d2, k1, k2⟩ := HB1.out.st.rd.cells
  have hw2 : IntKind.i64.wrap (((o + 1 : Nat) : Int) - 1) = ((o + 1 : Nat) : Int) - 1 := IntWalk.i64_in _ (by omega)
  have HX : Aside0 (((o + 1 : Nat) : Int) - 1 = (o : Int)) := ⟨by omega⟩
  generalize ((o + 1 : Nat) : Int) = x at d2 hw2 HX
  clear hf ha hge hle2 hb3 h16 hs
  go_upto_region 7 with (fail)
  have HB2 := Aside0.mk (HB1.out.setO hgw (b := o) (x := x - 1) HX.out)
  generalize W9.setCell ⟨g, 2, none⟩ (.int .i64 (x - 1)) = W10 at HB2 ⊢
  clear HB1 hw2 d0 d1 d2 k1 k2
  have hr := HB2.out.st.blk
  have r0 := blk_cell hr 0
  have r1 := blk_cell hr 1
  have r2 := blk_cell hr 2
  have r3 := blk_cell hr 3
  have z0 := blk_frozen hr 0
  have z1 := blk_frozen hr 1
  have z2 := blk_frozen hr 2
  have z3 := blk_frozen hr 3
  have HBK := Aside0.mk hr
  have y0 := blk_cell HB2.out.qc 0
  have y1 := blk_cell HB2.out.qc 1
  have y2 := blk_cell HB2.out.qc 2
  have y3 := blk_cell HB2.out.qc 3
  clear hr
  go_wp2
  refine bodyPost_ret (results_cell_row rfl _ _ w.heap.size 25 #[.int .u8 5, .string ⟨#[]⟩, .int .i64 0, .slice (some ⟨m, 0, none⟩) 1 1] (0, 0) _ rfl (blk_put (blk_put (blk_put (blk_put HBK.out 0 (.int .u8 5) rfl) 1 (.string ⟨#[]⟩) rfl) 2 (.int .i64 0) rfl) 3 (.slice (some ⟨m, 0, none⟩) 1 1) rfl) hu25 rfl rfl) rfl ?_
  exact HB2.out.st.fin hgw HB2.out.qm _ _ _ _
end Go.Proofs.YtlmmbefejmbpeaaDoor.M
namespace Go.Proofs.YtlmmbefejmbpeaaDoor.M
open Go.RowKit Go.Shelf Go.Proofs.Qp Go.Proofs.YtlmmbefejmbpeaaDoorW.PrintWords Go.Proofs.YtlmmbefejmbpeaaDoorW.PrintLast Go.Proofs.YtlmmbefejmbpeaaDoorW.PrintMore Go.Proofs.YtlmmbefejmbpeaaDoor.PQry0 Go.Proofs.YtlmmbefejmbpeaaDoor.G
set_option linter.unusedVariables false
set_option linter.unusedSimpArgs false
set_option maxHeartbeats 4000000 in
set_option maxRecDepth 100000 in
theorem not_pdeep {w : World} {g : Nat} {s : ByteArray} {a o f : Nat} (hN : NotOk g s f) (hO : OrOk g s f) (h : RdAt w g s a o) (hT : TT g w) (hs : s.size ≤ 1000) (ha : a ≤ s.size) (ho : o ≤ 16) (hf : s.size < f + 1 + a)
    (hk : keyB (lt s) a [78, 79, 84] = false) (hp : isB (lt s) (skip (lt s) a) [40] = true) (h16 : 16 < o + 1) :
    Calls Tryd.prog 38 #[rp g] w fun e w' => Out g s w w' e (.bad (skip (lt s) a) 7) := by
  have hgw : g < w.heap.size := h.lt
  have HT := Aside0.mk hT
  have HN := Aside0.mk hN
  have HO := Aside0.mk hO
  have HS := Aside0.mk (nst_start h)
  have hle2 : skip (lt s) a ≤ s.size := by simpa using skip_le (lt s) (i := a) (by simpa using ha)
  have hge := skip_ge (lt s) a
  have hss := skip_skip (lt s) a
  generalize hbb : skip (lt s) a = b at *
  have HB0 := Aside0.mk hbb
  have HSS := Aside0.mk hss
  have HKB : Aside0 (keyB (lt s) b (lt ⟨#[78, 79, 84]⟩) = false) := ⟨by unfold keyB at hk ⊢; rw [hss]; rw [hbb] at hk; exact hk⟩
  have HP : Aside0 (isB (lt s) b (lt ⟨#[40]⟩) = true) := ⟨hp⟩
  have hb1 : b + 1 ≤ s.size := by have := isB_le (lt s) hp (by simp); simpa using this
  clear hk hp
  clear h hT hN hO hbb hss
  have hu25 := Tryd.underlying25
  have hs25 := Tryd.sizeOf25
  have hz25 := Tryd.zeroValue25
  obtain ⟨c0, c1, c2, f1, f2⟩ := HS.out.rd.cells
  go_enter Tryd.func38, Tryd.ntmps38
  go_wp2_with (first
    | (go_at_call 18; refine (skip_any HS.out.rd hs ha).mono ?_; rintro e w1 ⟨rfl, hR, hK⟩; rw [HB0.out] at hR; replace HS := Aside0.mk (HS.out.moved hgw hR hK); clear hR hK; clear c0 c1 c2 f1 f2; obtain ⟨c0, c1, c2, f1, f2⟩ := HS.out.rd.cells)
    | (go_at_call 29; refine (key_no HS.out.rd ⟨#[78, 79, 84]⟩ hs hle2 (by decide) HKB.out).mono ?_; rintro e w2 ⟨rfl, hR, hK⟩; rw [HSS.out] at hR; replace HS := Aside0.mk (HS.out.moved hgw hR hK); clear hR hK; clear c0 c1 c2 f1 f2; obtain ⟨c0, c1, c2, f1, f2⟩ := HS.out.rd.cells)
    | (go_at_call 39; refine (is_ast (w := w) g s b o (.slice none 0 0) [] _ (by first | exact HS.out | exact HS.out.drew) hs hle2 rfl).mono ?_; rintro e w5 ⟨rfl, hS⟩; replace HS := Aside0.mk hS; clear hS; clear c0 c1 c2 f1 f2; obtain ⟨c0, c1, c2, f1, f2⟩ := HS.out.rd.cells; rw [HP.out])
    | (go_at_call 46; refine (deeper_no HS.out.rd b (by omega) (by omega)).mono ?_; rintro e w3 ⟨rfl, hk7⟩))
  exact ⟨rfl, out_bad (HS.out.kp.trans hk7)⟩
end Go.Proofs.YtlmmbefejmbpeaaDoor.M
namespace Go.Proofs.YtlmmbefejmbpeaaDoor.M
open Go.RowKit Go.Shelf Go.Proofs.Qp Go.Proofs.YtlmmbefejmbpeaaDoorW.PrintWords Go.Proofs.YtlmmbefejmbpeaaDoorW.PrintLast Go.Proofs.YtlmmbefejmbpeaaDoorW.PrintMore Go.Proofs.YtlmmbefejmbpeaaDoor.PQry0 Go.Proofs.YtlmmbefejmbpeaaDoor.G
set_option linter.unusedVariables false
set_option linter.unusedSimpArgs false
set_option maxHeartbeats 4000000 in
set_option maxRecDepth 100000 in
theorem not_pbad {w : World} {g : Nat} {s : ByteArray} {a o f : Nat} (hN : NotOk g s f) (hO : OrOk g s f) (h : RdAt w g s a o) (hT : TT g w) (hs : s.size ≤ 1000) (ha : a ≤ s.size) (ho : o ≤ 16) (hf : s.size < f + 1 + a)
    (hk : keyB (lt s) a [78, 79, 84] = false) (hp : isB (lt s) (skip (lt s) a) [40] = true) (h16 : ¬ 16 < o + 1) {p : Nat} {c : Int} (hE : orV (lt s) mkQ (andV (lt s) mkQ (notV (lt s) mkQ lf f)) (skip (lt s) a + 1) (o + 1) = .bad p c) :
    Calls Tryd.prog 38 #[rp g] w fun e w' => Out g s w w' e (.bad p c) := by
  have hgw : g < w.heap.size := h.lt
  have HT := Aside0.mk hT
  have HN := Aside0.mk hN
  have HO := Aside0.mk hO
  have HS := Aside0.mk (nst_start h)
  have hle2 : skip (lt s) a ≤ s.size := by simpa using skip_le (lt s) (i := a) (by simpa using ha)
  have hge := skip_ge (lt s) a
  have hss := skip_skip (lt s) a
  generalize hbb : skip (lt s) a = b at *
  have HB0 := Aside0.mk hbb
  have HSS := Aside0.mk hss
  have HKB : Aside0 (keyB (lt s) b (lt ⟨#[78, 79, 84]⟩) = false) := ⟨by unfold keyB at hk ⊢; rw [hss]; rw [hbb] at hk; exact hk⟩
  have HP : Aside0 (isB (lt s) b (lt ⟨#[40]⟩) = true) := ⟨hp⟩
  have hb1 : b + 1 ≤ s.size := by have := isB_le (lt s) hp (by simp); simpa using this
  have HE := Aside0.mk hE
  clear hk hp hE
  clear h hT hN hO hbb hss
  have hu25 := Tryd.underlying25
  have hs25 := Tryd.sizeOf25
  have hz25 := Tryd.zeroValue25
  obtain ⟨c0, c1, c2, f1, f2⟩ := HS.out.rd.cells
  go_enter Tryd.func38, Tryd.ntmps38
  go_wp2_with (first
    | (go_at_call 18; refine (skip_any HS.out.rd hs ha).mono ?_; rintro e w1 ⟨rfl, hR, hK⟩; rw [HB0.out] at hR; replace HS := Aside0.mk (HS.out.moved hgw hR hK); clear hR hK; clear c0 c1 c2 f1 f2; obtain ⟨c0, c1, c2, f1, f2⟩ := HS.out.rd.cells)
    | (go_at_call 29; refine (key_no HS.out.rd ⟨#[78, 79, 84]⟩ hs hle2 (by decide) HKB.out).mono ?_; rintro e w2 ⟨rfl, hR, hK⟩; rw [HSS.out] at hR; replace HS := Aside0.mk (HS.out.moved hgw hR hK); clear hR hK; clear c0 c1 c2 f1 f2; obtain ⟨c0, c1, c2, f1, f2⟩ := HS.out.rd.cells)
    | (go_at_call 39; refine (is_ast (w := w) g s b o (.slice none 0 0) [] _ (by first | exact HS.out | exact HS.out.drew) hs hle2 rfl).mono ?_; rintro e w5 ⟨rfl, hS⟩; replace HS := Aside0.mk hS; clear hS; clear c0 c1 c2 f1 f2; obtain ⟨c0, c1, c2, f1, f2⟩ := HS.out.rd.cells; rw [HP.out])
    | (go_at_call 46; refine (deeper_ok HS.out.rd b (by omega)).mono ?_; rintro e w3 ⟨rfl, hR, hK⟩; replace HS := Aside0.mk (HS.out.moved hgw hR hK); clear hR hK; clear c0 c1 c2 f1 f2; obtain ⟨c0, c1, c2, f1, f2⟩ := HS.out.rd.cells)
    | (go_at_call 17; refine (HO.out _ (b + 1) (o + 1) (HS.out.setA hgw (b := b + 1) (by omega)).rd (HT.out.kp (HS.out.setA hgw (b := b + 1) (by omega)).kp) hb1 (by omega) (by omega)).mono ?_; rw [HE.out]; rintro e w7 ⟨rfl, hk7⟩))
  exact ⟨rfl, out_bad ((HS.out.setA hgw (b := b + 1) (by omega)).kp.trans hk7)⟩
end Go.Proofs.YtlmmbefejmbpeaaDoor.M
namespace Go.Proofs.YtlmmbefejmbpeaaDoor.M
open Go.RowKit Go.Shelf Go.Proofs.Qp Go.Proofs.YtlmmbefejmbpeaaDoorW.PrintWords Go.Proofs.YtlmmbefejmbpeaaDoorW.PrintLast Go.Proofs.YtlmmbefejmbpeaaDoorW.PrintMore Go.Proofs.YtlmmbefejmbpeaaDoor.PQry0 Go.Proofs.YtlmmbefejmbpeaaDoor.G
set_option linter.unusedVariables false
set_option linter.unusedSimpArgs false
set_option maxHeartbeats 4000000 in
set_option maxRecDepth 100000 in
theorem not_popen {w : World} {g : Nat} {s : ByteArray} {a o f : Nat} (hN : NotOk g s f) (hO : OrOk g s f) (h : RdAt w g s a o) (hT : TT g w) (hs : s.size ≤ 1000) (ha : a ≤ s.size) (ho : o ≤ 16) (hf : s.size < f + 1 + a)
    (hk : keyB (lt s) a [78, 79, 84] = false) (hp : isB (lt s) (skip (lt s) a) [40] = true) (h16 : ¬ 16 < o + 1) {q : S25} {a1 : Nat} (hE : orV (lt s) mkQ (andV (lt s) mkQ (notV (lt s) mkQ lf f)) (skip (lt s) a + 1) (o + 1) = .ok q a1 (o + 1)) (ha1 : a1 ≤ s.size) (h5 : isB (lt s) (skip (lt s) a1) [41] = false) :
    Calls Tryd.prog 38 #[rp g] w fun e w' => Out g s w w' e (.bad (skip (lt s) a1) 4) := by
  have hgw : g < w.heap.size := h.lt
  have HT := Aside0.mk hT
  have HN := Aside0.mk hN
  have HO := Aside0.mk hO
  have HS := Aside0.mk (nst_start h)
  have hle2 : skip (lt s) a ≤ s.size := by simpa using skip_le (lt s) (i := a) (by simpa using ha)
  have hge := skip_ge (lt s) a
  have hss := skip_skip (lt s) a
  generalize hbb : skip (lt s) a = b at *
  have HB0 := Aside0.mk hbb
  have HSS := Aside0.mk hss
  have HKB : Aside0 (keyB (lt s) b (lt ⟨#[78, 79, 84]⟩) = false) := ⟨by unfold keyB at hk ⊢; rw [hss]; rw [hbb] at hk; exact hk⟩
  have HP : Aside0 (isB (lt s) b (lt ⟨#[40]⟩) = true) := ⟨hp⟩
  have hb1 : b + 1 ≤ s.size := by have := isB_le (lt s) hp (by simp); simpa using this
  have HE := Aside0.mk hE
  have hc5 : skip (lt s) a1 ≤ s.size := by simpa using skip_le (lt s) (i := a1) (by simpa using ha1)
  generalize hbb5 : skip (lt s) a1 = c5 at *
  have HB5 := Aside0.mk hbb5
  have HP5 : Aside0 (isB (lt s) c5 (lt ⟨#[41]⟩) = false) := ⟨h5⟩
  clear hk hp hE h5 hbb5
  clear h hT hN hO hbb hss
  have hu25 := Tryd.underlying25
  have hs25 := Tryd.sizeOf25
  have hz25 := Tryd.zeroValue25
  obtain ⟨c0, c1, c2, f1, f2⟩ := HS.out.rd.cells
  go_enter Tryd.func38, Tryd.ntmps38
  go_upto_region 13 with (first
    | (go_at_call 18; refine (skip_any HS.out.rd hs ha).mono ?_; rintro e w1 ⟨rfl, hR, hK⟩; rw [HB0.out] at hR; replace HS := Aside0.mk (HS.out.moved hgw hR hK); clear hR hK; clear c0 c1 c2 f1 f2; obtain ⟨c0, c1, c2, f1, f2⟩ := HS.out.rd.cells)
    | (go_at_call 29; refine (key_no HS.out.rd ⟨#[78, 79, 84]⟩ hs hle2 (by decide) HKB.out).mono ?_; rintro e w2 ⟨rfl, hR, hK⟩; rw [HSS.out] at hR; replace HS := Aside0.mk (HS.out.moved hgw hR hK); clear hR hK; clear c0 c1 c2 f1 f2; obtain ⟨c0, c1, c2, f1, f2⟩ := HS.out.rd.cells)
    | (go_at_call 39; refine (is_ast (w := w) g s b o (.slice none 0 0) [] _ (by first | exact HS.out | exact HS.out.drew) hs hle2 rfl).mono ?_; rintro e w5 ⟨rfl, hS⟩; replace HS := Aside0.mk hS; clear hS; clear c0 c1 c2 f1 f2; obtain ⟨c0, c1, c2, f1, f2⟩ := HS.out.rd.cells; rw [HP.out])
    | (go_at_call 46; refine (deeper_ok HS.out.rd b (by omega)).mono ?_; rintro e w3 ⟨rfl, hR, hK⟩; replace HS := Aside0.mk (HS.out.moved hgw hR hK); clear hR hK; clear c0 c1 c2 f1 f2; obtain ⟨c0, c1, c2, f1, f2⟩ := HS.out.rd.cells)
    | (go_at_call 17; refine (HO.out _ (b + 1) (o + 1) (HS.out.setA hgw (b := b + 1) (by omega)).rd (HT.out.kp (HS.out.setA hgw (b := b + 1) (by omega)).kp) hb1 (by omega) (by omega)).mono ?_; rw [HE.out]; rintro e w7 ⟨⟨cs, rfl, hM⟩, hR, hK⟩; obtain ⟨A6, n6, rfl⟩ := M_opened hM; replace HS := Aside0.mk (HS.out.setA hgw (b := b + 1) (x := (b : Int) + 1) (by omega)); have HM := Aside0.mk (k25.M_lower HS.out.kp.size (k25.M_mono (ok' := fun k => w.heap.size < k) (fun k hk => Nat.lt_of_lt_of_le (blk_lt HS.out.blk) hk) hM)); clear hM; replace HS := Aside0.mk (HS.out.moved hgw hR hK); clear hR hK c0 c1 c2 f1 f2))
  have HB1 : Aside0 (Bst w g s a1 (o + 1) w7.heap.size q [.int .u8 q.f0, .string q.f1, .int .i64 q.f2, .slice A6 q.f3.length n6] (World.alloc w7 (.cells #[.int .u8 q.f0, .string q.f1, .int .i64 q.f2, .slice A6 q.f3.length n6] 25))) := ⟨Bst.mk2 HS.out HM.out⟩
  clear HS HM HN HO HE HT HP HKB
  generalize (World.alloc w7 (.cells #[.int .u8 q.f0, .string q.f1, .int .i64 q.f2, .slice A6 q.f3.length n6] 25)) = W9 at HB1 ⊢
  generalize w7.heap.size = m at HB1 ⊢
  go_wp2_with (first
    | (go_at_call 18; refine (skip_any HB1.out.st.rd hs ha1).mono ?_; rintro e w8 ⟨rfl, hR, hK⟩; rw [HB5.out] at hR; replace HB1 := Aside0.mk (HB1.out.moved hgw hR hK); clear hR hK; obtain ⟨d0, d1, d2, k1, k2⟩ := HB1.out.st.rd.cells)
    | (go_at_call 39; refine (is_bst (w := w) g s c5 (o + 1) m q [.int .u8 q.f0, .string q.f1, .int .i64 q.f2, .slice A6 q.f3.length n6] _ HB1.out hs hc5 rfl).mono ?_; rintro e w9 ⟨rfl, hS⟩; replace HB1 := Aside0.mk hS; clear hS d0 d1 d2 k1 k2; obtain ⟨d0, d1, d2, k1, k2⟩ := HB1.out.st.rd.cells; rw [HP5.out])
    | (go_at_call 19; refine (give_any c5 4 _).mono ?_; rintro e w7 ⟨rfl, rfl⟩))
  exact ⟨rfl, out_bad HB1.out.st.kp⟩
end Go.Proofs.YtlmmbefejmbpeaaDoor.M
namespace Go.Proofs.YtlmmbefejmbpeaaDoor.M
open Go.RowKit Go.Shelf Go.Proofs.Qp Go.Proofs.YtlmmbefejmbpeaaDoorW.PrintWords Go.Proofs.YtlmmbefejmbpeaaDoorW.PrintLast Go.Proofs.YtlmmbefejmbpeaaDoorW.PrintMore Go.Proofs.YtlmmbefejmbpeaaDoor.PQry0 Go.Proofs.YtlmmbefejmbpeaaDoor.G
set_option linter.unusedVariables false
set_option linter.unusedSimpArgs false
set_option maxHeartbeats 4000000 in
set_option maxRecDepth 100000 in
theorem not_pok {w : World} {g : Nat} {s : ByteArray} {a o f : Nat} (hN : NotOk g s f) (hO : OrOk g s f) (h : RdAt w g s a o) (hT : TT g w) (hs : s.size ≤ 1000) (ha : a ≤ s.size) (ho : o ≤ 16) (hf : s.size < f + 1 + a)
    (hk : keyB (lt s) a [78, 79, 84] = false) (hp : isB (lt s) (skip (lt s) a) [40] = true) (h16 : ¬ 16 < o + 1) {q : S25} {a1 : Nat} (hE : orV (lt s) mkQ (andV (lt s) mkQ (notV (lt s) mkQ lf f)) (skip (lt s) a + 1) (o + 1) = .ok q a1 (o + 1)) (ha1 : a1 ≤ s.size) (h5 : isB (lt s) (skip (lt s) a1) [41] = true) :
    Calls Tryd.prog 38 #[rp g] w fun e w' => Out g s w w' e (.ok q (skip (lt s) a1 + 1) o) := by
  have hgw : g < w.heap.size := h.lt
  have HT := Aside0.mk hT
  have HN := Aside0.mk hN
  have HO := Aside0.mk hO
  have HS := Aside0.mk (nst_start h)
  have hle2 : skip (lt s) a ≤ s.size := by simpa using skip_le (lt s) (i := a) (by simpa using ha)
  have hge := skip_ge (lt s) a
  have hss := skip_skip (lt s) a
  generalize hbb : skip (lt s) a = b at *
  have HB0 := Aside0.mk hbb
  have HSS := Aside0.mk hss
  have HKB : Aside0 (keyB (lt s) b (lt ⟨#[78, 79, 84]⟩) = false) := ⟨by unfold keyB at hk ⊢; rw [hss]; rw [hbb] at hk; exact hk⟩
  have HP : Aside0 (isB (lt s) b (lt ⟨#[40]⟩) = true) := ⟨hp⟩
  have hb1 : b + 1 ≤ s.size := by have := isB_le (lt s) hp (by simp); simpa using this
  have HE := Aside0.mk hE
  have hc5 : skip (lt s) a1 ≤ s.size := by simpa using skip_le (lt s) (i := a1) (by simpa using ha1)
  generalize hbb5 : skip (lt s) a1 = c5 at *
  have HB5 := Aside0.mk hbb5
  have HP5 : Aside0 (isB (lt s) c5 (lt ⟨#[41]⟩) = true) := ⟨h5⟩
  have hc6 : c5 + 1 ≤ s.size := by have := isB_le (lt s) h5 (by simp); simpa using this
  clear hk hp hE h5 hbb5
  clear h hT hN hO hbb hss
  have hu25 := Tryd.underlying25
  have hs25 := Tryd.sizeOf25
  have hz25 := Tryd.zeroValue25
  obtain ⟨c0, c1, c2, f1, f2⟩ := HS.out.rd.cells
  go_enter Tryd.func38, Tryd.ntmps38
  go_upto_region 13 with (first
    | (go_at_call 18; refine (skip_any HS.out.rd hs ha).mono ?_; rintro e w1 ⟨rfl, hR, hK⟩; rw [HB0.out] at hR; replace HS := Aside0.mk (HS.out.moved hgw hR hK); clear hR hK; clear c0 c1 c2 f1 f2; obtain ⟨c0, c1, c2, f1, f2⟩ := HS.out.rd.cells)
    | (go_at_call 29; refine (key_no HS.out.rd ⟨#[78, 79, 84]⟩ hs hle2 (by decide) HKB.out).mono ?_; rintro e w2 ⟨rfl, hR, hK⟩; rw [HSS.out] at hR; replace HS := Aside0.mk (HS.out.moved hgw hR hK); clear hR hK; clear c0 c1 c2 f1 f2; obtain ⟨c0, c1, c2, f1, f2⟩ := HS.out.rd.cells)
    | (go_at_call 39; refine (is_ast (w := w) g s b o (.slice none 0 0) [] _ (by first | exact HS.out | exact HS.out.drew) hs hle2 rfl).mono ?_; rintro e w5 ⟨rfl, hS⟩; replace HS := Aside0.mk hS; clear hS; clear c0 c1 c2 f1 f2; obtain ⟨c0, c1, c2, f1, f2⟩ := HS.out.rd.cells; rw [HP.out])
    | (go_at_call 46; refine (deeper_ok HS.out.rd b (by omega)).mono ?_; rintro e w3 ⟨rfl, hR, hK⟩; replace HS := Aside0.mk (HS.out.moved hgw hR hK); clear hR hK; clear c0 c1 c2 f1 f2; obtain ⟨c0, c1, c2, f1, f2⟩ := HS.out.rd.cells)
    | (go_at_call 17; refine (HO.out _ (b + 1) (o + 1) (HS.out.setA hgw (b := b + 1) (by omega)).rd (HT.out.kp (HS.out.setA hgw (b := b + 1) (by omega)).kp) hb1 (by omega) (by omega)).mono ?_; rw [HE.out]; rintro e w7 ⟨⟨cs, rfl, hM⟩, hR, hK⟩; obtain ⟨A6, n6, rfl⟩ := M_opened hM; replace HS := Aside0.mk (HS.out.setA hgw (b := b + 1) (x := (b : Int) + 1) (by omega)); have HM := Aside0.mk (k25.M_lower HS.out.kp.size (k25.M_mono (ok' := fun k => w.heap.size < k) (fun k hk => Nat.lt_of_lt_of_le (blk_lt HS.out.blk) hk) hM)); clear hM; replace HS := Aside0.mk (HS.out.moved hgw hR hK); clear hR hK c0 c1 c2 f1 f2))
  have HB1 : Aside0 (Bst w g s a1 (o + 1) w7.heap.size q [.int .u8 q.f0, .string q.f1, .int .i64 q.f2, .slice A6 q.f3.length n6] (World.alloc w7 (.cells #[.int .u8 q.f0, .string q.f1, .int .i64 q.f2, .slice A6 q.f3.length n6] 25))) := ⟨Bst.mk2 HS.out HM.out⟩
  clear HS HM HN HO HE HT HP HKB
  generalize (World.alloc w7 (.cells #[.int .u8 q.f0, .string q.f1, .int .i64 q.f2, .slice A6 q.f3.length n6] 25)) = W9 at HB1 ⊢
  generalize w7.heap.size = m at HB1 ⊢
  go_upto_region 16 with (first
    | (go_at_call 18; refine (skip_any HB1.out.st.rd hs ha1).mono ?_; rintro e w8 ⟨rfl, hR, hK⟩; rw [HB5.out] at hR; replace HB1 := Aside0.mk (HB1.out.moved hgw hR hK); clear hR hK; obtain ⟨d0, d1, d2, k1, k2⟩ := HB1.out.st.rd.cells)
    | (go_at_call 39; refine (is_bst (w := w) g s c5 (o + 1) m q [.int .u8 q.f0, .string q.f1, .int .i64 q.f2, .slice A6 q.f3.length n6] _ HB1.out hs hc5 rfl).mono ?_; rintro e w9 ⟨rfl, hS⟩; replace HB1 := Aside0.mk hS; clear hS d0 d1 d2 k1 k2; obtain ⟨d0, d1, d2, k1, k2⟩ := HB1.out.st.rd.cells; rw [HP5.out]))
  have hwa : IntKind.i64.wrap ((c5 : Int) + 1) = (c5 : Int) + 1 := IntWalk.i64_in _ (by omega)
  clear HP5 HB5
  generalize hW9 : w9 = W9 at *
  clear hW9
  go_upto_region 17 with (fail)
  have HB3 := Aside0.mk (HB1.out.setA hgw (b := c5 + 1) (x := (c5 : Int) + 1) (by omega))
  clear HB1 hwa d0 d1 d2 k1 k2
  generalize W9.setCell ⟨g, 1, none⟩ (.int .i64 ((c5 : Int) + 1)) = W8 at HB3 ⊢
  obtain ⟨d0, d1, d2, k1, k2⟩ := HB3.out.st.rd.cells
  have hw2 : IntKind.i64.wrap (((o + 1 : Nat) : Int) - 1) = ((o + 1 : Nat) : Int) - 1 := IntWalk.i64_in _ (by omega)
  have HX : Aside0 (((o + 1 : Nat) : Int) - 1 = (o : Int)) := ⟨by omega⟩
  generalize ((o + 1 : Nat) : Int) = x at d2 hw2 HX
  clear hf ha hge hle2 h16 hs ha1 hc5 hc6 hb1
  go_upto_region 18 with (fail)
  have HB2 := Aside0.mk (HB3.out.setO hgw (b := o) (x := x - 1) HX.out)
  generalize W8.setCell ⟨g, 2, none⟩ (.int .i64 (x - 1)) = W10 at HB2 ⊢
  clear HB3 hw2 d0 d1 d2 k1 k2
  have hr := HB2.out.st.blk
  have r0 := blk_cell hr 0
  have r1 := blk_cell hr 1
  have r2 := blk_cell hr 2
  have r3 := blk_cell hr 3
  have z0 := blk_frozen hr 0
  have z1 := blk_frozen hr 1
  have z2 := blk_frozen hr 2
  have z3 := blk_frozen hr 3
  have HBK := Aside0.mk hr
  have y0 := blk_cell HB2.out.qc 0
  have y1 := blk_cell HB2.out.qc 1
  have y2 := blk_cell HB2.out.qc 2
  have y3 := blk_cell HB2.out.qc 3
  clear hr
  go_wp2
  refine bodyPost_ret (results_cell_row rfl _ _ w.heap.size 25 #[.int .u8 q.f0, .string q.f1, .int .i64 q.f2, .slice A6 q.f3.length n6] (0, 0) _ rfl (blk_put (blk_put (blk_put (blk_put HBK.out 0 (.int .u8 q.f0) rfl) 1 (.string q.f1) rfl) 2 (.int .i64 q.f2) rfl) 3 (.slice A6 q.f3.length n6) rfl) hu25 rfl rfl) rfl ?_
  exact HB2.out.st.fin hgw HB2.out.qm _ _ _ _
end Go.Proofs.YtlmmbefejmbpeaaDoor.M
namespace Go.Proofs.YtlmmbefejmbpeaaDoor.M
open Go.RowKit Go.Shelf Go.Proofs.Qp Go.Proofs.YtlmmbefejmbpeaaDoorW.PrintWords Go.Proofs.YtlmmbefejmbpeaaDoorW.PrintLast Go.Proofs.YtlmmbefejmbpeaaDoorW.PrintMore Go.Proofs.YtlmmbefejmbpeaaDoor.PQry0 Go.Proofs.YtlmmbefejmbpeaaDoor.G
set_option linter.unusedVariables false
set_option linter.unusedSimpArgs false
theorem key_false {l : List UInt8} {a : Nat} {p : List UInt8} (h : ¬ (isB l (skip l a) p = true ∧ endB l (skip l a + p.length) = true)) : keyB l a p = false := by
  unfold keyB
  rw [Bool.eq_false_iff]
  intro e
  exact h (by simpa using e)
theorem not_all {g : Nat} {s : ByteArray} (hs : s.size ≤ 1000) : ∀ f, NotOk g s f := by
  intro f
  induction f with
  | zero => intro w a o h hT ha ho hf; omega
  | succ f ih =>
    have hO := or_any (and_any ih hs) hs
    intro w a o h hT ha ho hf
    unfold notV
    by_cases hk : isB (lt s) (skip (lt s) a) [78, 79, 84] = true ∧ endB (lt s) (skip (lt s) a + 3) = true
    · rw [if_pos hk]
      by_cases h16 : 16 < o + 1
      · rw [if_pos h16]
        exact not_ndeep ih hO h hT hs ha ho (by omega) hk.1 hk.2 h16
      · rw [if_neg h16]
        cases hE : notV (lt s) mkQ lf f (skip (lt s) a + 3) (o + 1) with
        | bad p c => exact not_nbad ih hO h hT hs ha ho (by omega) hk.1 hk.2 h16 hE
        | ok q a1 o1 =>
          have hb : skip (lt s) a + 3 ≤ (lt s).length := isB_le (lt s) hk.1 (by simp)
          obtain ⟨g1, g2, rfl⟩ := notV_goes (lt s) mkQ lf leaf_nil f _ _ _ _ _ hb hE
          exact not_nok ih hO h hT hs ha ho (by omega) hk.1 hk.2 h16 hE
    · rw [if_neg hk]
      have hkf := key_false hk
      cases hp : isB (lt s) (skip (lt s) a) [40] with
      | false =>
        rw [if_pos rfl]
        cases hL : lf (wordAt (lt s) (skip (lt s) a)) with
        | none =>
          have hw : wordR (lt s) (skip (lt s) a) o = .bad (skip (lt s) a) 4 := by unfold wordR; rw [hL]
          exact not_word_bad h hT hs ha hkf hp hw
        | some q =>
          have hw : wordR (lt s) (skip (lt s) a) o = .ok q (wend (lt s) (skip (lt s) a)) o := by unfold wordR; rw [hL]
          exact not_wok ih hO h hT hs ha ho (by omega) hkf hp hw
      | true =>
        rw [if_neg (by simp)]
        by_cases h16 : 16 < o + 1
        · rw [if_pos h16]
          exact not_pdeep ih hO h hT hs ha ho (by omega) hkf hp h16
        · rw [if_neg h16]
          cases hE : orV (lt s) mkQ (andV (lt s) mkQ (notV (lt s) mkQ lf f)) (skip (lt s) a + 1) (o + 1) with
          | bad p c => exact not_pbad ih hO h hT hs ha ho (by omega) hkf hp h16 hE
          | ok q a1 o1 =>
            have hb : skip (lt s) a + 1 ≤ (lt s).length := isB_le (lt s) hp (by simp)
            obtain ⟨g1, g2, rfl⟩ := orV_goes (lt s) mkQ (andV_goes (lt s) mkQ (notV_goes (lt s) mkQ lf leaf_nil f)) _ _ _ _ _ hb hE
            have ha1 : a1 ≤ s.size := by simpa using g2
            cases h5 : isB (lt s) (skip (lt s) a1) [41] with
            | false =>
              have := not_popen ih hO h hT hs ha ho (by omega) hkf hp h16 hE ha1 h5
              simpa [h5] using this
            | true =>
              have := not_pok ih hO h hT hs ha ho (by omega) hkf hp h16 hE ha1 h5
              simpa [h5] using this
theorem or_all {g : Nat} {s : ByteArray} (hs : s.size ≤ 1000) (f : Nat) : OrOk g s f := or_any (and_any (not_all hs f) hs) hs
end Go.Proofs.YtlmmbefejmbpeaaDoor.M
