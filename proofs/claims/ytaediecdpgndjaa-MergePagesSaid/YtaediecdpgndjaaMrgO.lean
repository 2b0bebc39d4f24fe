/- merge.Merge: what it answers; words for its walk. -/
import Derived.Test.YtaediecdpgndjaaMrgN
namespace Go.Proofs.Ytaediecdpgndjaa.M
open Go.RowKit Go.Proofs.Mg Go.Proofs.YtaediecdpgndjaaW.PrintWords Go.Proofs.YtaediecdpgndjaaW.PrintLast Go.Proofs.YtaediecdpgndjaaW.PrintMore Go.Proofs.Ytaediecdpgndjaa.PMrg0
set_option linter.unusedVariables false
set_option linter.unusedSimpArgs false
def mergeV (l : List (List S31)) (lim : Int) : List S31 × Bool × Int :=
  if lim < 0 then ([], false, 1) else if l.all inOrd = true then ((srt lt31 l.flatten).take lim.toNat, decide (lim < (l.flatten.length : Int)), 0) else ([], false, 3)
/-- a line whose list came in -/
structure LnIn (w : World) (x : Ln) : Prop where
  c : Kd.C k31 w (some x.a) (x.h :: x.t).length (x.h :: x.t)
  l : (x.h :: x.t).length ≤ x.c
theorem LnIn.doc {w : World} {x : Ln} (h : LnIn w x) : DocAt w x := by
  obtain ⟨ad, e, h0, h1, h2⟩ := at_T31 h.c 0 (by omega) (by simp)
  cases e
  exact ⟨h0, h1, h2⟩
theorem HS.old {w0 w w' : World} {Q G n cap : Nat} {g : Nat → Ln} (h : HS w0 w Q G n cap g) (hb : Below w.heap.size w w') : HS w0 w' Q G n cap g :=
  ⟨h.b.trans (hb.mono h.b.size), h.q.old hb, h.hq, h.hg, h.d, h.h⟩
theorem HS.kp {w0 w w' : World} {Q G n cap : Nat} {g : Nat → Ln} (h : HS w0 w Q G n cap g) {S : Nat → Prop} (hk : Kp S w w') (hs : ∀ k, S k → w0.heap.size ≤ k ∧ k ≠ Q ∧ k ≠ G) : HS w0 w' Q G n cap g :=
  ⟨⟨hk.os.trans h.b.os, hk.tape.trans h.b.tape, hk.output.trans h.b.output, Nat.le_trans h.b.size hk.size, fun k hkl => (hk.block k (Nat.lt_of_lt_of_le hkl h.b.size) (fun e => by have := (hs k e).1; omega)).trans (h.b.block k hkl)⟩,
   ⟨(hk.block Q (blk_lt h.q.hd) (fun e => (hs Q e).2.1 rfl)).trans h.q.hd, h.q.row.old (hk.block G h.q.row.lt (fun e => (hs G e).2.2 rfl)), h.q.cap, h.q.ne⟩, h.hq, h.hg, h.d, h.h⟩
/-- the heap at the beginning -/
theorem HS.start (w : World) : HS w ((w.alloc (.cells #[] 46)).alloc (.cells #[.slice (some ⟨w.heap.size, 0, none⟩) 0 0] 42)) (w.heap.size + 1) w.heap.size 0 0 (fun _ => ⟨⟨0, 0, none⟩, 0, z31, [], 0⟩) := by
  have hb : Below w.heap.size w ((w.alloc (.cells #[] 46)).alloc (.cells #[.slice (some ⟨w.heap.size, 0, none⟩) 0 0] 42)) := below_alloc (below_alloc (Below.refl _ _) _) _
  refine ⟨hb, ⟨?_, ⟨#[], ?_, ⟨Nat.le_refl _, rfl, by unfold maxLen; omega⟩, fun i hi => by omega⟩, Nat.le_refl _, by omega⟩, by omega, Nat.le_refl _, fun c hc => by omega, fun c h0 hc => by omega⟩
  · have := heap_alloc_new (w.alloc (.cells #[] 46)) (.cells #[.slice (some ⟨w.heap.size, 0, none⟩) 0 0] 42)
    simpa using this
  · exact (Below.heap_alloc _ _ _ (by simp)).trans (heap_alloc_new w _)
theorem k31_E : ∀ q, q ∈ 31 :: k31.E → q = 31 := fun q hq => by simpa using (show q ∈ [31] from hq)
/-- the lists that came out, while the heap turns -/
theorem out_kp {w0 w w' : World} {Q G n cap : Nat} {g : Nat → Ln} {v : Value} {out : List S31} (h : HS w0 w Q G n cap g) (hr : Kd.R k31 31 w w0.heap.size (fun _ => True) v out) (hk : Kp (fun k => k = Q ∨ k = G) w w') : Kd.R k31 31 w' w0.heap.size (fun _ => True) v out := by
  obtain ⟨cs, hG, _⟩ := h.q.row.bl
  have h1 := Kd.R_types hr h.q.hd (fun q hq => by rw [k31_E q hq]; decide)
  have h2 := Kd.R_types h1 hG (fun q hq => by rw [k31_E q hq]; decide)
  exact Kd.R_mono (Kd.R_step h2 (fun k hk1 hkl => hk.block k hkl (fun e => e.elim (fun e => hk1.1.2 e) (fun e => hk1.2 e)))) (fun _ _ => trivial)
/-- the heap, while a list grows -/
theorem HS.grown {w0 w w' : World} {Q G n cap : Nat} {g : Nat → Ln} {v : Value} {out : List S31} (h : HS w0 w Q G n cap g) (hr : Kd.R k31 31 w w0.heap.size (fun _ => True) v out) (hg : w.grownBy w' v.ownBlock) : HS w0 w' Q G n cap g := by
  obtain ⟨cs, hG, _⟩ := h.q.row.bl
  refine h.kp (S := fun k => some k = v.ownBlock) ⟨hg.os, hg.tape, hg.output, hg.size, fun k hkl hs => hg.block k hkl hs⟩ fun k hk => ⟨Kd.R_base hr k hk.symm, ?_, ?_⟩
  · rintro rfl
    obtain ⟨cells, hc⟩ := Kd.R_typed hr k hk.symm
    rw [h.q.hd] at hc; cases hc
  · rintro rfl
    obtain ⟨cells, hc⟩ := Kd.R_typed hr k hk.symm
    rw [hG] at hc; cases hc
theorem box_grown {w0 w w' : World} {b t : Nat} {cs : Array Value} {v : Value} {out : List S31} (hb : w.heap[b]? = some (.cells cs t (0, 0))) (ht : t ≠ 31) (hr : Kd.R k31 31 w w0.heap.size (fun _ => True) v out) (hg : w.grownBy w' v.ownBlock) : w'.heap[b]? = some (.cells cs t (0, 0)) := by
  refine (hg.block b (blk_lt hb) (fun e => ?_)).trans hb
  obtain ⟨cells, hc⟩ := Kd.R_typed hr b e.symm
  rw [hb] at hc
  injection hc with hc
  injection hc with _ hc
  exact ht hc
theorem srt_len (l : List S31) : (srt lt31 l).length = l.length := (srt_perm lt31 l).length_eq
theorem mergeV_end {l rs : List (List S31)} {out : List S31} {lim : Int} (hlim : ¬ lim < 0) (hal : l.all inOrd = true) (hE : srt lt31 l.flatten = out ++ srt lt31 rs.flatten) (ho : (out.length : Int) ≤ lim) (b : Bool)
    (h1 : b = true → rs.flatten ≠ [] ∧ lim ≤ (out.length : Int)) (h0 : b = false → rs.flatten = []) : mergeV l lim = (out, b, 0) := by
  have hL := srt_len l.flatten
  rw [hE, List.length_append, srt_len] at hL
  unfold mergeV
  rw [if_neg hlim, if_pos hal, hE]
  cases b with
  | false =>
    have hr := h0 rfl
    rw [hr, List.length_nil] at hL
    rw [hr]
    have : srt lt31 [] = [] := rfl
    rw [this, List.append_nil, List.take_of_length_le (by omega), decide_eq_false (by omega)]
  | true =>
    obtain ⟨hr, hg⟩ := h1 rfl
    have : 0 < rs.flatten.length := List.length_pos_iff.2 hr
    rw [List.take_left' (by omega), decide_eq_true (by omega)]
theorem take_snoc {α : Type} (l : List α) (k : Nat) (hk : k < l.length) : l.take (k + 1) = l.take k ++ [l[k]] := List.take_succ_eq_append_getElem hk
end Go.Proofs.Ytaediecdpgndjaa.M
