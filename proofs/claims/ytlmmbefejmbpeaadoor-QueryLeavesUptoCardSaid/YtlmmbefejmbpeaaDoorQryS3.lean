/- List, and. -/
import Derived.Test.YtlmmbefejmbpeaaDoorQryS2
namespace Go.Proofs.YtlmmbefejmbpeaaDoor.M
open Go.RowKit Go.Shelf Go.Proofs.Qp Go.Proofs.YtlmmbefejmbpeaaDoorW.PrintWords Go.Proofs.YtlmmbefejmbpeaaDoorW.PrintLast Go.Proofs.YtlmmbefejmbpeaaDoorW.PrintMore Go.Proofs.YtlmmbefejmbpeaaDoor.PQry0 Go.Proofs.YtlmmbefejmbpeaaDoor.G
set_option linter.unusedVariables false
set_option linter.unusedSimpArgs false
def mkQ (k : Int) (qs : List S25) : S25 := ⟨k, ⟨#[]⟩, 0, qs⟩
/-- a row that is its own, and a store into a new block -/
theorem R_new {w : World} {base : Nat} {ok : Nat → Prop} {v : Value} {l : List S25} {n : Nat} (h : k25.R 25 w base (fun k => ok k ∧ k < n) v l) {p : Addr} (hp : n ≤ p.block) (u : Value) : k25.R 25 (w.setCell p u) base (fun k => ok k ∧ k < n) v l :=
  Kd.R_far h (fun k hk e => by have := hk.2; omega) u
theorem M_new {w : World} {base : Nat} {ok : Nat → Prop} {x : S25} {cs : List Value} {n : Nat} (h : k25.M w base (fun k => ok k ∧ k < n) x cs) {p : Addr} (hp : n ≤ p.block) (u : Value) : k25.M (w.setCell p u) base (fun k => ok k ∧ k < n) x cs :=
  Kd.M_far h (fun k hk e => by have := hk.2; omega) u
theorem blk_new (w : World) (o : Obj) : (w.alloc o).heap[w.heap.size]? = some o := by
  show (w.heap.push o)[w.heap.size]? = _
  simp
/-- the elder blocks are those of the world ahead of the new one -/
theorem M_over {w : World} {base : Nat} {ok : Nat → Prop} {x : S25} {cs : List Value} {o o' : Obj} (h : k25.M (w.alloc o) base (fun k => ok k ∧ k < w.heap.size) x cs) : k25.M (w.alloc o') base ok x cs :=
  k25.M_mono (fun k hk => hk.1) (k25.M_move (fun k hk => by
    show (w.heap.push o')[k]? = (w.heap.push o)[k]?
    rw [Array.getElem?_push_lt hk.2, Array.getElem?_push_lt hk.2]) h)
theorem R_over1 {w : World} {base : Nat} {ok : Nat → Prop} {v : Value} {xs : List S25} {o : Obj} (h : k25.R 25 w base ok v xs) : k25.R 25 (w.alloc o) base ok v xs := Kd.R_alloc h o
abbrev Z4 : Array Value := #[.int .u8 0, .string ⟨#[]⟩, .int .i64 0, .slice none 0 0]
set_option maxHeartbeats 4000000 in
set_option maxRecDepth 100000 in
theorem list_one {w : World} {base g c : Nat} {ok : Nat → Prop} {q : S25} (k : Int) (h : k25.R 25 w base ok (.slice (some ⟨g, 0, none⟩) 1 c) [q]) :
    Calls Tryd.prog 30 #[.int .u8 k, .slice (some ⟨g, 0, none⟩) 1 c] w fun e w' => (∃ cs : List Value, e = .returned (.agg cs.toArray) ∧ k25.M w' base ok q cs) ∧ Below w.heap.size w w' := by
  have h2 : k25.R 25 w base (fun k => ok k ∧ k < w.heap.size) (.slice (some ⟨g, 0, none⟩) 1 c) [q] := Kd.R_mono (Kd.R_bound h) (fun k hk => ⟨hk.1, hk.2.2.1⟩)
  have hA := Kd.R_alloc h2 (.cells Z4 25)
  obtain ⟨cs, hcl, hM, hc, hf⟩ := Kd.R_elem hA ⟨0, ⟨#[]⟩, 0, []⟩ 0 (by omega) (by omega)
  obtain ⟨v3, rfl, hR⟩ := k25_openM hM
  obtain ⟨A3, cc3, rfl⟩ := Kd.R_slice hR
  have c0 := hc 0 _ rfl
  have c1 := hc 1 _ rfl
  have c2 := hc 2 _ rfl
  have c3 := hc 3 _ rfl
  have hlt : g < w.heap.size := Kd.R_lt h g (by simp [Value.ownBlock])
  have hgn : w.heap.size ≠ g := by omega
  simp at c0 c1 c2 c3
  have HM := Aside0.mk (show k25.M (w.alloc (.cells Z4 25)) base (fun k => ok k ∧ k < w.heap.size) q _ from k25.M_mono (fun k hk => hk.1) hM)
  have HBl := Aside0.mk (Below.alloc (Below.refl w.heap.size w) (Nat.le_refl _) (.cells Z4 25))
  clear hM hR hc hf hA h2 h hcl
  have hu25 := Tryd.underlying25
  have hs25 := Tryd.sizeOf25
  have hz25 := Tryd.zeroValue25
  go_enter Tryd.func30, Tryd.ntmps30
  go_wp2
  refine bodyPost_ret (results_cell_row rfl _ _ w.heap.size 25 #[.int .u8 q.f0, .string q.f1, .int .i64 q.f2, .slice A3 q.f3.length cc3] (0, 0) _ rfl (blk_new _ _) hu25 rfl rfl) rfl ?_
  refine ⟨⟨_, rfl, ?_⟩, ?_⟩
  · exact M_over HM.out
  · exact Below.alloc (Below.refl w.heap.size w) (Nat.le_refl _) _
set_option maxHeartbeats 4000000 in
set_option maxRecDepth 100000 in
theorem list_more {w : World} {base : Nat} {ok : Nat → Prop} {v : Value} {l : List S25} (k : Int) (h : k25.R 25 w base ok v l) (hl : l.length ≠ 1) :
    Calls Tryd.prog 30 #[.int .u8 k, v] w fun e w' => (∃ cs : List Value, e = .returned (.agg cs.toArray) ∧ k25.M w' base ok (mkQ k l) cs) ∧ Below w.heap.size w w' := by
  obtain ⟨A3, cc3, rfl⟩ := Kd.R_slice h
  have hl0 : ¬ (l.length : Int) = 1 := by omega
  have hl1 : ((l.length : Int) == 1) = false := by simpa using hl0
  have HM := Aside0.mk (fun o => k25_mkM (w.alloc o) base ok (mkQ k l) (Kd.R_alloc h o))
  clear h
  have hu25 := Tryd.underlying25
  have hs25 := Tryd.sizeOf25
  have hz25 := Tryd.zeroValue25
  go_enter Tryd.func30, Tryd.ntmps30
  go_wp2
  refine bodyPost_ret (results_cell_row rfl _ _ w.heap.size 25 #[.int .u8 k, .string ⟨#[]⟩, .int .i64 0, .slice A3 l.length cc3] (0, 0) _ rfl (blk_new _ _) hu25 rfl rfl) rfl ?_
  refine ⟨⟨_, rfl, ?_⟩, ?_⟩
  · exact HM.out _
  · exact Below.alloc (Below.refl w.heap.size w) (Nat.le_refl _) _
/-- one kid alone is itself; else they are a query's kids -/
theorem list_any {w : World} {base : Nat} {ok : Nat → Prop} {v : Value} {l : List S25} (k : Int) (h : k25.R 25 w base ok v l) :
    Calls Tryd.prog 30 #[.int .u8 k, v] w fun e w' => (∃ cs : List Value, e = .returned (.agg cs.toArray) ∧ k25.M w' base ok (lst mkQ k l) cs) ∧ Below w.heap.size w w' := by
  by_cases hl : l.length = 1
  · match l, hl, h with
    | [q], _, h =>
      obtain ⟨g, cap, rfl, _⟩ := Kd.R_form h (by simp)
      exact list_one k h
  · rw [show lst mkQ k l = mkQ k l from by
      match l, hl with
      | [], _ => rfl
      | _ :: _ :: _, _ => rfl]
    exact list_more k h hl
end Go.Proofs.YtlmmbefejmbpeaaDoor.M
namespace Go.Proofs.YtlmmbefejmbpeaaDoor.M
open Go.RowKit Go.Shelf Go.Proofs.Qp Go.Proofs.YtlmmbefejmbpeaaDoorW.PrintWords Go.Proofs.YtlmmbefejmbpeaaDoorW.PrintLast Go.Proofs.YtlmmbefejmbpeaaDoorW.PrintMore Go.Proofs.YtlmmbefejmbpeaaDoor.PQry0 Go.Proofs.YtlmmbefejmbpeaaDoor.G
set_option linter.unusedVariables false
set_option linter.unusedSimpArgs false
theorem leaf_nil : lf [] = none := by
  show leafV ⟨#[]⟩ = none
  unfold leafV
  rw [if_neg (by intro h; injection h with h; simp at h), if_neg (by rw [show oneB ⟨#[]⟩ = false from rfl]; simp), if_neg (by rw [show pairB ⟨#[]⟩ = false from rfl]; simp)]
  exact numV_none (by simp) (by simp)
/-- not, at fuel f, answers as notV -/
def NotOk (g : Nat) (s : ByteArray) (f : Nat) : Prop := ∀ (w : World) (a o : Nat), RdAt w g s a o → TT g w → a ≤ s.size → o ≤ 16 → s.size < f + a →
  Calls Tryd.prog 38 #[rp g] w fun e w' => Out g s w w' e (notV (lt s) mkQ lf f a o)
theorem R_lit1 {w : World} {base : Nat} {ok okp : Nat → Prop} {q : S25} {cs : List Value} (h : k25.M w base okp q cs) (hok : ∀ k, okp k → ok k) (hn : ok w.heap.size) (hb : base ≤ w.heap.size) :
    k25.R 25 (w.alloc (.cells cs.toArray 25)) base ok (.slice (some ⟨w.heap.size, 0, none⟩) 1 1) [q] := by
  have hl : cs.length = k25.sz := k25.K_len (k25.K_of_M h)
  refine ⟨fun k hk => ?_, cs, ⟨by rw [hl]; rfl, .inr ⟨w.heap.size, 1, cs.toArray, rfl, hb, blk_new _ _, Nat.le_refl _, by decide, by simpa using hl, by simp [← hl]⟩⟩, ⟨by rw [hl]; rfl, fun j p hj => ?_⟩⟩
  · have : w.heap.size = k := by simpa [Value.ownBlock] using hk
    exact this ▸ hn
  · match j, hj with
    | 0, hj =>
      injection hj with hj
      subst hj
      rw [Nat.zero_mul, List.drop_zero, ← hl, List.take_length]
      refine k25.M_mono (fun k hk => ?_) (Kd.M_alloc (k25.M_bound h) (.cells cs.toArray 25))
      exact ⟨hok k hk.1, fun e => by simp [Value.ownBlock] at e; have := hk.2.2.1; omega⟩
set_option maxHeartbeats 4000000 in
set_option maxRecDepth 100000 in
theorem and_bad {w : World} {g : Nat} {s : ByteArray} {f a o : Nat} (hN : NotOk g s f) (h : RdAt w g s a o) (hT : TT g w) (hs : s.size ≤ 1000) (ha : a ≤ s.size) (ho : o ≤ 16) (hf : s.size < f + a) {p : Nat} {c : Int} (hE : notV (lt s) mkQ lf f a o = .bad p c) :
    Calls Tryd.prog 28 #[rp g] w fun e w' => Out g s w w' e (.bad p c) := by
  obtain ⟨c0, c1, c2, f1, f2⟩ := h.cells
  have H := Aside0.mk h
  have HN := Aside0.mk (fun w' hr hk => (hN w' a o hr (hT.kp hk) ha ho hf : Calls Tryd.prog 38 #[rp g] w' fun e w'' => Out g s w' w'' e (notV (lt s) mkQ lf f a o)))
  rw [hE] at HN
  clear h hT hN hE
  have HA := Aside0.mk (H.out.old (Below.alloc (Below.refl w.heap.size w) (Nat.le_refl _) (.cells Z4 25)))
  have HK := Aside0.mk (Kp.of_below (S := fun k => k = g) (Below.alloc (Below.refl w.heap.size w) (Nat.le_refl _) (.cells Z4 25)))
  have hu25 := Tryd.underlying25
  have hs25 := Tryd.sizeOf25
  have hz25 := Tryd.zeroValue25
  go_enter Tryd.func28, Tryd.ntmps28
  go_wp2_with (first
    | (go_at_call 38; refine (HN.out _ HA.out HK.out).mono ?_; rintro e w3 ⟨rfl, hk⟩))
  exact ⟨rfl, out_bad (HK.out.trans hk)⟩
/-- where and stands: the reader, what is kept, the variables, the parts read so far -/
structure Ast (w : World) (g : Nat) (s : ByteArray) (a o : Nat) (v : Value) (acc : List S25) (w' : World) : Prop where
  rd : RdAt w' g s a o
  kp : Kp (fun k => k = g) w w'
  row : k25.R 25 w' w.heap.size (fun k => w.heap.size < k) v acc
  blk : w'.heap[w.heap.size]? = some (.cells Z4 25)
theorem Ast.drew {w : World} {g : Nat} {s : ByteArray} {a o : Nat} {v : Value} {acc : List S25} {w' : World} (h : Ast w g s a o v acc w') : Ast w g s a o v acc w'.drew := ⟨h.rd.drew, h.kp.drew, Kd.R_drew h.row, h.blk⟩
theorem Ast.old {w : World} {g : Nat} {s : ByteArray} {a o : Nat} {v : Value} {acc : List S25} {w' w2 : World} (h : Ast w g s a o v acc w') (hb : Below w'.heap.size w' w2) : Ast w g s a o v acc w2 :=
  ⟨h.rd.old hb, h.kp.trans (Kp.of_below hb), Kd.R_below h.row hb, (hb.block _ (blk_lt h.blk)).trans h.blk⟩
/-- only the reader has moved -/
theorem Ast.moved {w : World} {g : Nat} {s : ByteArray} {a o a' o' : Nat} {v : Value} {acc : List S25} {w' w2 : World} (hg : g < w.heap.size) (h : Ast w g s a o v acc w') (hr : RdAt w2 g s a' o') (hk : Kp (fun k => k = g) w' w2) : Ast w g s a' o' v acc w2 :=
  ⟨hr, h.kp.trans hk, Kd.R_step h.row (fun k hk2 hlt => hk.block k hlt (by omega)), (hk.block _ (blk_lt h.blk) (by omega)).trans h.blk⟩
theorem is_ast {w : World} (g : Nat) (s : ByteArray) (b o : Nat) (v : Value) (acc : List S25) (p : ByteArray) {w' : World} (h : Ast w g s b o v acc w') (hs : s.size ≤ 1000) (hb : b ≤ s.size) {r : Bool} (hr : isB (lt s) b (lt p) = r) :
    Calls Tryd.prog 39 #[rp g, .string p] w' fun e w2 => e = .returned (.bool r) ∧ Ast w g s b o v acc w2 :=
  (is_any h.rd p hs hb).mono fun e w2 ⟨h1, h2⟩ => ⟨by rw [h1, hr], h.old h2⟩
theorem end_ast {w : World} (g : Nat) (s : ByteArray) (b o : Nat) (v : Value) (acc : List S25) (c : Nat) {x : Int} (hx : x = (c : Int)) {w' : World} (h : Ast w g s b o v acc w') (hs : s.size ≤ 1000) (hb : c ≤ 2000) {r : Bool} (hr : endB (lt s) c = r) :
    Calls Tryd.prog 40 #[rp g, .int .i64 x] w' fun e w2 => e = .returned (.bool r) ∧ Ast w g s b o v acc w2 :=
  hx ▸ (end_any h.rd c hs hb).mono fun e w2 ⟨h1, h2⟩ => ⟨by rw [h1, hr], h2 ▸ h⟩
theorem Ast.fin {w : World} {g : Nat} {s : ByteArray} {b o : Nat} {v : Value} {acc : List S25} {w6 : World} {q : S25} {A : Option Addr} {n : Nat} (hg : g < w.heap.size) (h : Ast w g s b o v acc w6)
    (hM : k25.M w6 w.heap.size (fun k => w.heap.size < k) q [.int .u8 q.f0, .string q.f1, .int .i64 q.f2, .slice A q.f3.length n]) (u0 u1 u2 u3 : Value) :
    Out g s w ((((w6.setCell ⟨w.heap.size, 0, none⟩ u0).setCell ⟨w.heap.size, 1, none⟩ u1).setCell ⟨w.heap.size, 2, none⟩ u2).setCell ⟨w.heap.size, 3, none⟩ u3) (.returned (.agg #[.int .u8 q.f0, .string q.f1, .int .i64 q.f2, .slice A q.f3.length n])) (.ok q b o) := by
  have hne : w.heap.size ≠ g := by omega
  have f : ∀ k, w.heap.size < k → k ≠ w.heap.size := fun k hk => by omega
  refine ⟨⟨_, rfl, ?_⟩, (((h.rd.far (p := ⟨_, _, _⟩) hne _).far (p := ⟨_, _, _⟩) hne _).far (p := ⟨_, _, _⟩) hne _).far (p := ⟨_, _, _⟩) hne _, (((h.kp.setNew (p := ⟨_, _, _⟩) (Nat.le_refl _) _).setNew (p := ⟨_, _, _⟩) (Nat.le_refl _) _).setNew (p := ⟨_, _, _⟩) (Nat.le_refl _) _).setNew (p := ⟨_, _, _⟩) (Nat.le_refl _) _⟩
  exact k25.M_mono (fun k hk => by omega) (Kd.M_far (Kd.M_far (Kd.M_far (Kd.M_far hM (p := ⟨_, _, _⟩) f _) (p := ⟨_, _, _⟩) f _) (p := ⟨_, _, _⟩) f _) (p := ⟨_, _, _⟩) f _)
theorem info25q : (Tryd.prog.info? 25).map (fun i => (i.zero, i.size, i.bytes)) = some (some (.agg Z4), k25.sz, 56) := by kernel_rfl
/-- the row has grown -/
theorem Ast.grow {w : World} {g : Nat} {s : ByteArray} {b o : Nat} {v : Value} {acc : List S25} {w7 w8 : World} (hg : g < w.heap.size) (h : Ast w g s b o v acc w7) {v1 : Value} {acc1 : List S25}
    (hR : k25.R 25 w8 w.heap.size (fun k => w.heap.size < k) v1 acc1) (hG : w7.grownBy w8 v.ownBlock) : Ast w g s b o v1 acc1 w8 := by
  have hne : ∀ k, k ≤ w.heap.size → some k ≠ v.ownBlock := fun k hk e => by have := h.row.1 k e.symm; omega
  refine ⟨(hG.block g h.rd.lt (hne g (by omega))).trans h.rd, ⟨hG.os.trans h.kp.os, hG.tape.trans h.kp.tape, hG.output.trans h.kp.output, Nat.le_trans h.kp.size hG.size, fun k hk hs => ?_⟩, hR, (hG.block _ (blk_lt h.blk) (hne _ (Nat.le_refl _))).trans h.blk⟩
  exact (hG.block k (Nat.lt_of_lt_of_le hk h.kp.size) (hne k (by omega))).trans (h.kp.block k hk hs)
section
variable {Q : Type} {l : List UInt8} {mk : Int → List Q → Q} {N : Nat → Nat → Rs Q} {k : Nat} {acc : List Q} {a o : Nat}
theorem and_stop (hk : 0 < k) (h : l.length ≤ skip l a ∨ isB l (skip l a) [41] = true ∨ (isB l (skip l a) [79, 82] = true ∧ endB l (skip l a + 2) = true)) : andLoop l mk N k acc a o = .ok (lst mk 3 acc) (skip l a) o := by
  obtain ⟨k, rfl⟩ : ∃ j, k = j + 1 := ⟨k - 1, by omega⟩
  unfold andLoop
  rw [if_pos h]
theorem and_fault (hk : 0 < k) (h : ¬ (l.length ≤ skip l a ∨ isB l (skip l a) [41] = true ∨ (isB l (skip l a) [79, 82] = true ∧ endB l (skip l a + 2) = true))) {p : Nat} {e : Int} (hN : N (skip l a) o = .bad p e) : andLoop l mk N k acc a o = .bad p e := by
  obtain ⟨k, rfl⟩ : ∃ j, k = j + 1 := ⟨k - 1, by omega⟩
  unfold andLoop
  rw [if_neg h, hN]
theorem and_next (hk : 0 < k) (h : ¬ (l.length ≤ skip l a ∨ isB l (skip l a) [41] = true ∨ (isB l (skip l a) [79, 82] = true ∧ endB l (skip l a + 2) = true))) {q : Q} {a' o' : Nat} (hN : N (skip l a) o = .ok q a' o') : andLoop l mk N k acc a o = andLoop l mk N (k - 1) (acc ++ [q]) a' o' := by
  obtain ⟨k, rfl⟩ : ∃ j, k = j + 1 := ⟨k - 1, by omega⟩
  show andLoop l mk N (k + 1) acc a o = andLoop l mk N k (acc ++ [q]) a' o'
  rw [andLoop, if_neg h, hN]
end
theorem M_opened {w : World} {base : Nat} {ok : Nat → Prop} {x : S25} {cs : List Value} (h : k25.M w base ok x cs) : ∃ A c, cs = [.int .u8 x.f0, .string x.f1, .int .i64 x.f2, .slice A x.f3.length c] := by
  obtain ⟨v3, rfl, hR⟩ := k25_openM h
  obtain ⟨A, c, rfl⟩ := Kd.R_slice hR
  exact ⟨A, c, rfl⟩
end Go.Proofs.YtlmmbefejmbpeaaDoor.M
namespace Go.Proofs.YtlmmbefejmbpeaaDoor.M
open Go.RowKit Go.Shelf Go.Proofs.Qp Go.Proofs.YtlmmbefejmbpeaaDoorW.PrintWords Go.Proofs.YtlmmbefejmbpeaaDoorW.PrintLast Go.Proofs.YtlmmbefejmbpeaaDoorW.PrintMore Go.Proofs.YtlmmbefejmbpeaaDoor.PQry0 Go.Proofs.YtlmmbefejmbpeaaDoor.G
set_option linter.unusedVariables false
set_option linter.unusedSimpArgs false
set_option maxHeartbeats 4000000 in
set_option maxRecDepth 100000 in
theorem and_ok {w : World} {g : Nat} {s : ByteArray} {f a o a1 : Nat} {q1 : S25} (hN : NotOk g s f) (h : RdAt w g s a o) (hT : TT g w) (hs : s.size ≤ 1000) (ha : a ≤ s.size) (ho : o ≤ 16) (hf : s.size < f + a) (hE : notV (lt s) mkQ lf f a o = .ok q1 a1 o) (h1 : a < a1) (h2 : a1 ≤ s.size) :
    Calls Tryd.prog 28 #[rp g] w fun e w' => Out g s w w' e (andLoop (lt s) mkQ (notV (lt s) mkQ lf f) (s.size + 1) [q1] a1 o) := by
  obtain ⟨c0, c1, c2, f1, f2⟩ := h.cells
  have H := Aside0.mk h
  have HN := Aside0.mk hN
  have HT := Aside0.mk hT
  have HE := Aside0.mk hE
  have HG : Aside0 (w.heap.size ≠ g) := ⟨by have := H.out.lt; omega⟩
  clear h hT hN hE
  have HA := Aside0.mk (H.out.old (Below.alloc (Below.refl w.heap.size w) (Nat.le_refl _) (.cells Z4 25)))
  have HK := Aside0.mk (Kp.of_below (S := fun k => k = g) (Below.alloc (Below.refl w.heap.size w) (Nat.le_refl _) (.cells Z4 25)))
  have HZ : Aside0 ((w.alloc (.cells Z4 25)).heap[w.heap.size]? = some (.cells Z4 25)) := ⟨blk_new _ _⟩
  have hu25 := Tryd.underlying25
  have hs25 := Tryd.sizeOf25
  have hz25 := Tryd.zeroValue25
  go_enter Tryd.func28, Tryd.ntmps28
  go_wp2_with (first
    | (go_at_call 38; refine (HN.out _ a o HA.out (HT.out.kp HK.out) ha ho hf).mono ?_; rw [HE.out]; rintro e w3 ⟨⟨cs, rfl, hM⟩, hr, hk⟩; obtain ⟨A3, n3, rfl⟩ := M_opened hM
       have HS := Aside0.mk (show Ast w g s a1 o _ [q1] (w3.alloc (.cells #[.int .u8 q1.f0, .string q1.f1, .int .i64 q1.f2, .slice A3 q1.f3.length n3] 25)) from ⟨hr.old (Below.alloc (Below.refl _ _) (Nat.le_refl _) _), (HK.out.trans hk).alloc _, R_lit1 (k25.M_lower (by simp) hM) (fun k hk => by simp at hk; omega) (by have := hk.size; simp at this; omega) (by have := hk.size; simp at this; omega), by rw [← HZ.out]; exact ((Below.alloc (Below.refl w3.heap.size w3) (Nat.le_refl _) _).block _ (by have := hk.size; simp at this; omega)).trans (hk.block _ (by simp) (by exact HG.out))⟩); clear hM hr hk))
  have hgw : g < w.heap.size := H.out.lt
  go_loopw [3] (fun v wq => ∃ (acc : List S25) (b k : Nat), a < b ∧ b ≤ s.size ∧ s.size < k + b ∧ acc.length ≤ b ∧ Aside0 (Ast w g s b o v acc wq) ∧ Aside0 (andLoop (lt s) mkQ (notV (lt s) mkQ lf f) k acc b o = andLoop (lt s) mkQ (notV (lt s) mkQ lf f) (s.size + 1) [q1] a1 o)) (fun _ wq => s.size - posOf g wq)
  case atStart => exact ⟨[q1], a1, s.size + 1, h1, h2, by omega, by simp; omega, HS, ⟨rfl⟩⟩
  case round =>
    obtain ⟨acc, b0, k, hb0, hb1, hk, hal, HS, HL⟩ := hrel
    have HPW := Aside0.mk HS.out.rd.pos
    obtain ⟨A0, n0, ev⟩ := Kd.R_slice HS.out.row
    subst ev
    have hle := skip_le (lt s) (i := b0) (by simpa using hb1)
    have hge := skip_ge (lt s) b0
    have hle2 : skip (lt s) b0 ≤ s.size := by simpa using hle
    clear hle
    generalize hbb : skip (lt s) b0 = b at hle2 hge
    have HB0 := Aside0.mk hbb
    clear hbb
    have hk0 : 0 < k := by omega
    have hb00 : (0 : Int) ≤ (b : Int) := by omega
    have hwr : IntKind.i64.wrap ((b : Int) + 2) = (b : Int) + 2 := IntWalk.i64_in _ (by omega)
    by_cases hc1 : s.size ≤ b
    · have hd1 : decide ((s.size : Int) ≤ (b : Int)) = true := decide_eq_true (by omega)
      have hd2 : decide (s.size ≤ b) = true := decide_eq_true hc1
      have HLF := Aside0.mk (HL.out.symm.trans (and_stop hk0 (.inl (by rw [HB0.out]; simpa using hc1))))
      rw [HB0.out] at HLF
      go_wp2_with (first
        | (go_at_call 18; refine (skip_any HS.out.rd hs hb1).mono ?_; rintro e w1 ⟨rfl, hR, hK⟩; rw [HB0.out] at hR; replace HS := Aside0.mk (HS.out.moved hgw hR hK); clear hR hK))
      have hc := HS.out.rd.cells
      obtain ⟨d0, d1, _, _, _⟩ := hc
      go_region
      replace HS := Aside0.mk HS.out.drew
      go_wp2_with (first
        | (go_at_call 30; refine (list_any 3 (by exact HS.out.row)).mono ?_; rintro e w6 ⟨⟨cs, rfl, hM⟩, hBl⟩; obtain ⟨A6, n6, rfl⟩ := M_opened hM; replace HM := Aside0.mk hM; replace HS := Aside0.mk (HS.out.old hBl); have HBK := Aside0.mk HS.out.blk; have hr := HBK.out; have r0 := blk_cell hr 0; have r1 := blk_cell hr 1; have r2 := blk_cell hr 2; have r3 := blk_cell hr 3; have z0 := blk_frozen hr 0; have z1 := blk_frozen hr 1; have z2 := blk_frozen hr 2; have z3 := blk_frozen hr 3; clear hr; clear hM hBl))
      refine bodyPost_ret (results_cell_row rfl _ _ w.heap.size 25 #[.int .u8 (lst mkQ 3 acc).f0, .string (lst mkQ 3 acc).f1, .int .i64 (lst mkQ 3 acc).f2, .slice A6 (lst mkQ 3 acc).f3.length n6] (0, 0) _ rfl (blk_put (blk_put (blk_put (blk_put HBK.out 0 (.int .u8 (lst mkQ 3 acc).f0) rfl) 1 (.string (lst mkQ 3 acc).f1) rfl) 2 (.int .i64 (lst mkQ 3 acc).f2) rfl) 3 (.slice A6 (lst mkQ 3 acc).f3.length n6) rfl) hu25 rfl rfl) rfl ?_
      rw [HLF.out]
      exact HS.out.fin hgw HM.out _ _ _ _
    have hd1 : decide ((s.size : Int) ≤ (b : Int)) = false := decide_eq_false (by omega)
    have hd2 : decide (s.size ≤ b) = false := decide_eq_false hc1
    cases hc2 : isB (lt s) b [41] with
    | true =>
      have H2 : Aside0 (isB (lt s) b (lt ⟨#[41]⟩) = true) := ⟨hc2⟩
      have HLF := Aside0.mk (HL.out.symm.trans (and_stop hk0 (.inr (.inl (by rw [HB0.out]; exact hc2)))))
      rw [HB0.out] at HLF
      clear hc2
      go_wp2_with (first
        | (go_at_call 18; refine (skip_any HS.out.rd hs hb1).mono ?_; rintro e w1 ⟨rfl, hR, hK⟩; rw [HB0.out] at hR; replace HS := Aside0.mk (HS.out.moved hgw hR hK); clear hR hK))
      have hc := HS.out.rd.cells
      obtain ⟨d0, d1, _, _, _⟩ := hc
      have hund : undef = Value.tuple #[] := rfl
      first | (go_region_law ((go_simp; go_at_call 39; refine (is_ast (w := w) g s b o (.slice A0 acc.length n0) acc _ (by first | exact HS.out | exact HS.out.drew) hs hle2 rfl).mono ?_; rintro e w5 ⟨rfl, hS⟩; replace HS := Aside0.mk hS; clear hS; rw [H2.out]))) | fail
      all_goals (try simp only [← hund])
      all_goals clear hund
      all_goals
        go_wp2_with (first
          | (go_at_call 30; refine (list_any 3 (by exact HS.out.row)).mono ?_; rintro e w6 ⟨⟨cs, rfl, hM⟩, hBl⟩; obtain ⟨A6, n6, rfl⟩ := M_opened hM; replace HM := Aside0.mk hM; replace HS := Aside0.mk (HS.out.old hBl); have HBK := Aside0.mk HS.out.blk; have hr := HBK.out; have r0 := blk_cell hr 0; have r1 := blk_cell hr 1; have r2 := blk_cell hr 2; have r3 := blk_cell hr 3; have z0 := blk_frozen hr 0; have z1 := blk_frozen hr 1; have z2 := blk_frozen hr 2; have z3 := blk_frozen hr 3; clear hr; clear hM hBl))
        refine bodyPost_ret (results_cell_row rfl _ _ w.heap.size 25 #[.int .u8 (lst mkQ 3 acc).f0, .string (lst mkQ 3 acc).f1, .int .i64 (lst mkQ 3 acc).f2, .slice A6 (lst mkQ 3 acc).f3.length n6] (0, 0) _ rfl (blk_put (blk_put (blk_put (blk_put HBK.out 0 (.int .u8 (lst mkQ 3 acc).f0) rfl) 1 (.string (lst mkQ 3 acc).f1) rfl) 2 (.int .i64 (lst mkQ 3 acc).f2) rfl) 3 (.slice A6 (lst mkQ 3 acc).f3.length n6) rfl) hu25 rfl rfl) rfl ?_
        rw [HLF.out]
        exact HS.out.fin hgw HM.out _ _ _ _
    | false =>
    have H2 : Aside0 (isB (lt s) b (lt ⟨#[41]⟩) = false) := ⟨hc2⟩
    cases hc3 : isB (lt s) b [79, 82] with
    | true =>
      have hle3 : b + 2 ≤ s.size := by have := isB_le (lt s) hc3 (by simp); simpa using this
      have H3 : Aside0 (isB (lt s) b (lt ⟨#[79, 82]⟩) = true) := ⟨hc3⟩
      cases hc4 : endB (lt s) (b + 2) with
      | true =>
        have H4 := Aside0.mk hc4
        have HLF := Aside0.mk (HL.out.symm.trans (and_stop hk0 (.inr (.inr (by rw [HB0.out]; exact ⟨hc3, hc4⟩)))))
        rw [HB0.out] at HLF
        clear hc2 hc3 hc4
        go_wp2_with (first
          | (go_at_call 18; refine (skip_any HS.out.rd hs hb1).mono ?_; rintro e w1 ⟨rfl, hR, hK⟩; rw [HB0.out] at hR; replace HS := Aside0.mk (HS.out.moved hgw hR hK); clear hR hK))
        have hc := HS.out.rd.cells
        obtain ⟨d0, d1, _, _, _⟩ := hc
        go_region_held3 (fun W' => (W'.cell? ⟨g, 0, none⟩ = some (.string s) ∧ W'.cell? ⟨g, 1, none⟩ = some (.int .i64 (b : Int))) ∧ Aside0 (Ast w g s b o (.slice A0 acc.length n0) acc W')) (exact ⟨⟨HS.out.rd.cells.1, HS.out.rd.cells.2.1⟩, ⟨by first | exact HS.out | exact HS.out.drew⟩⟩) (first
          | (go_at_call 39; refine (is_ast (w := w) g s b o (.slice A0 acc.length n0) acc _ (by first | exact HS.out | exact HS.out.drew) hs hle2 rfl).mono ?_; rintro e w5 ⟨rfl, hS⟩; replace HS := Aside0.mk hS; clear hS; first | rw [H2.out] | rw [H3.out])
          | (go_at_call 40; refine (end_ast (w := w) g s b o (.slice A0 acc.length n0) acc (b + 2) (by first | omega | (rw [hwr]; omega)) (by first | exact HS.out | exact HS.out.drew) hs (by omega) H4.out).mono ?_; rintro e w5 ⟨rfl, hS⟩; replace HS := Aside0.mk hS; clear hS))
        go_wp2_with (first
          | (go_at_call 30; refine (list_any 3 (by exact HS.out.row)).mono ?_; rintro e w6 ⟨⟨cs, rfl, hM⟩, hBl⟩; obtain ⟨A6, n6, rfl⟩ := M_opened hM; replace HM := Aside0.mk hM; replace HS := Aside0.mk (HS.out.old hBl); have HBK := Aside0.mk HS.out.blk; have hr := HBK.out; have r0 := blk_cell hr 0; have r1 := blk_cell hr 1; have r2 := blk_cell hr 2; have r3 := blk_cell hr 3; have z0 := blk_frozen hr 0; have z1 := blk_frozen hr 1; have z2 := blk_frozen hr 2; have z3 := blk_frozen hr 3; clear hr; clear hM hBl))
        refine bodyPost_ret (results_cell_row rfl _ _ w.heap.size 25 #[.int .u8 (lst mkQ 3 acc).f0, .string (lst mkQ 3 acc).f1, .int .i64 (lst mkQ 3 acc).f2, .slice A6 (lst mkQ 3 acc).f3.length n6] (0, 0) _ rfl (blk_put (blk_put (blk_put (blk_put HBK.out 0 (.int .u8 (lst mkQ 3 acc).f0) rfl) 1 (.string (lst mkQ 3 acc).f1) rfl) 2 (.int .i64 (lst mkQ 3 acc).f2) rfl) 3 (.slice A6 (lst mkQ 3 acc).f3.length n6) rfl) hu25 rfl rfl) rfl ?_
        rw [HLF.out]
        exact HS.out.fin hgw HM.out _ _ _ _
      | false =>
        have H4 := Aside0.mk hc4
        have HC : Aside0 (¬ ((lt s).length ≤ skip (lt s) b0 ∨ isB (lt s) (skip (lt s) b0) [41] = true ∨ (isB (lt s) (skip (lt s) b0) [79, 82] = true ∧ endB (lt s) (skip (lt s) b0 + 2) = true))) := ⟨by rw [HB0.out, hc2, hc4]; simpa using hc1⟩
        clear hc2 hc3 hc4
        go_wp2_with (first
          | (go_at_call 18; refine (skip_any HS.out.rd hs hb1).mono ?_; rintro e w1 ⟨rfl, hR, hK⟩; rw [HB0.out] at hR; replace HS := Aside0.mk (HS.out.moved hgw hR hK); clear hR hK))
        have hc := HS.out.rd.cells
        obtain ⟨d0, d1, _, _, _⟩ := hc
        go_region_held3 (fun W' => (W'.cell? ⟨g, 0, none⟩ = some (.string s) ∧ W'.cell? ⟨g, 1, none⟩ = some (.int .i64 (b : Int))) ∧ Aside0 (Ast w g s b o (.slice A0 acc.length n0) acc W')) (exact ⟨⟨HS.out.rd.cells.1, HS.out.rd.cells.2.1⟩, ⟨by first | exact HS.out | exact HS.out.drew⟩⟩) (first
          | (go_at_call 39; refine (is_ast (w := w) g s b o (.slice A0 acc.length n0) acc _ (by first | exact HS.out | exact HS.out.drew) hs hle2 rfl).mono ?_; rintro e w5 ⟨rfl, hS⟩; replace HS := Aside0.mk hS; clear hS; first | rw [H2.out] | rw [H3.out])
          | (go_at_call 40; refine (end_ast (w := w) g s b o (.slice A0 acc.length n0) acc (b + 2) (by first | omega | (rw [hwr]; omega)) (by first | exact HS.out | exact HS.out.drew) hs (by omega) H4.out).mono ?_; rintro e w5 ⟨rfl, hS⟩; replace HS := Aside0.mk hS; clear hS))
        cases hN2 : notV (lt s) mkQ lf f b o with
        | bad p c =>
          have HLF := Aside0.mk (HL.out.symm.trans (and_fault hk0 HC.out (by rw [HB0.out]; exact hN2)))
          have HN2 := Aside0.mk hN2
          clear hN2
          go_wp2_with (first
            | (go_at_call 38; refine (HN.out _ b o (by exact HS.out.rd) (HT.out.kp HS.out.kp) hle2 ho (by omega)).mono ?_; rw [HN2.out]; rintro e w7 ⟨rfl, hk7⟩))
          exact ⟨rfl, by rw [HLF.out]; exact out_bad (HS.out.kp.trans hk7)⟩
        | ok q2 a2 o2 =>
          obtain ⟨g1, g2, rfl⟩ := notV_goes (lt s) mkQ lf leaf_nil f _ _ _ _ _ (by simpa using hle2) hN2
          have g3 : a2 ≤ s.size := by simpa using g2
          have HLF := Aside0.mk (HL.out.symm.trans (and_next hk0 HC.out (by rw [HB0.out]; exact hN2)))
          have HN2 := Aside0.mk hN2
          clear hN2 g2
          go_wp2_with (first
            | (go_at_call 38; refine (HN.out _ b o2 (by exact HS.out.rd) (HT.out.kp HS.out.kp) hle2 ho (by omega)).mono ?_; rw [HN2.out]; rintro e w7 ⟨⟨cs, rfl, hM⟩, hR, hK⟩; obtain ⟨A7, n7, rfl⟩ := M_opened hM; have HM := Aside0.mk (k25.M_lower HS.out.kp.size hM); have HOW := Aside0.mk (Kd.R_lt HS.out.row); have HSZ := Aside0.mk (blk_lt HS.out.blk); replace HS := Aside0.mk (HS.out.moved hgw hR hK); clear hM hR hK)
            | (at_builtin; refine Kd.R_append k25 w.heap.size rfl (.tmp 38) (.tmp 41) 23 25 (.agg Z4) 56 rfl Tryd.underlying23 info25q rfl (by decide) (by omega) (.slice A0 acc.length n0) acc q2 [.int .u8 q2.f0, .string q2.f1, .int .i64 q2.f2, .slice A7 q2.f3.length n7] (fun k => w.heap.size < k) _ rfl rfl HM.out (fun k hk => ?ap) (fun k hk => ?fr) HS.out.row (Below.refl w.heap.size _) HS.out.kp.size ?ln ?_; (case ap => exact ⟨Nat.lt_of_lt_of_le HSZ.out hk, fun e => by have := HOW.out k e.symm; omega⟩); (case fr => exact Nat.lt_of_lt_of_le (blk_lt HS.out.blk) hk); (case ln => omega); intro v8 w8 hR8 hB8 hG8 hat8; replace HS := Aside0.mk (HS.out.grow hgw hR8 hG8); clear hR8 hB8 hG8 hat8))
          refine ⟨⟨acc ++ [q2], a2, k - 1, by omega, g3, by omega, by simp; omega, HS, ⟨HLF.out.symm⟩⟩, ?_⟩
          rw [HS.out.rd.pos, HPW.out]; omega
    | false =>
      have H3 : Aside0 (isB (lt s) b (lt ⟨#[79, 82]⟩) = false) := ⟨hc3⟩
      have HC : Aside0 (¬ ((lt s).length ≤ skip (lt s) b0 ∨ isB (lt s) (skip (lt s) b0) [41] = true ∨ (isB (lt s) (skip (lt s) b0) [79, 82] = true ∧ endB (lt s) (skip (lt s) b0 + 2) = true))) := ⟨by rw [HB0.out, hc2, hc3]; simpa using hc1⟩
      clear hc2 hc3
      go_wp2_with (first
        | (go_at_call 18; refine (skip_any HS.out.rd hs hb1).mono ?_; rintro e w1 ⟨rfl, hR, hK⟩; rw [HB0.out] at hR; replace HS := Aside0.mk (HS.out.moved hgw hR hK); clear hR hK))
      have hc := HS.out.rd.cells
      obtain ⟨d0, d1, _, _, _⟩ := hc
      have hund : undef = Value.tuple #[] := rfl
      first | (go_region_law ((go_simp; go_at_call 39; refine (is_ast (w := w) g s b o (.slice A0 acc.length n0) acc _ (by first | exact HS.out | exact HS.out.drew) hs hle2 rfl).mono ?_; rintro e w5 ⟨rfl, hS⟩; replace HS := Aside0.mk hS; clear hS; first | rw [H2.out] | rw [H3.out]))) | fail
      all_goals (try simp only [← hund])
      all_goals clear hund
      all_goals
        cases hN2 : notV (lt s) mkQ lf f b o with
        | bad p c =>
          have HLF := Aside0.mk (HL.out.symm.trans (and_fault hk0 HC.out (by rw [HB0.out]; exact hN2)))
          have HN2 := Aside0.mk hN2
          clear hN2
          go_wp2_with (first
            | (go_at_call 38; refine (HN.out _ b o (by exact HS.out.rd) (HT.out.kp HS.out.kp) hle2 ho (by omega)).mono ?_; rw [HN2.out]; rintro e w7 ⟨rfl, hk7⟩))
          exact ⟨rfl, by rw [HLF.out]; exact out_bad (HS.out.kp.trans hk7)⟩
        | ok q2 a2 o2 =>
          obtain ⟨g1, g2, rfl⟩ := notV_goes (lt s) mkQ lf leaf_nil f _ _ _ _ _ (by simpa using hle2) hN2
          have g3 : a2 ≤ s.size := by simpa using g2
          have HLF := Aside0.mk (HL.out.symm.trans (and_next hk0 HC.out (by rw [HB0.out]; exact hN2)))
          have HN2 := Aside0.mk hN2
          clear hN2 g2
          go_wp2_with (first
            | (go_at_call 38; refine (HN.out _ b o2 (by exact HS.out.rd) (HT.out.kp HS.out.kp) hle2 ho (by omega)).mono ?_; rw [HN2.out]; rintro e w7 ⟨⟨cs, rfl, hM⟩, hR, hK⟩; obtain ⟨A7, n7, rfl⟩ := M_opened hM; have HM := Aside0.mk (k25.M_lower HS.out.kp.size hM); have HOW := Aside0.mk (Kd.R_lt HS.out.row); have HSZ := Aside0.mk (blk_lt HS.out.blk); replace HS := Aside0.mk (HS.out.moved hgw hR hK); clear hM hR hK)
            | (at_builtin; refine Kd.R_append k25 w.heap.size rfl (.tmp 38) (.tmp 41) 23 25 (.agg Z4) 56 rfl Tryd.underlying23 info25q rfl (by decide) (by omega) (.slice A0 acc.length n0) acc q2 [.int .u8 q2.f0, .string q2.f1, .int .i64 q2.f2, .slice A7 q2.f3.length n7] (fun k => w.heap.size < k) _ rfl rfl HM.out (fun k hk => ?ap) (fun k hk => ?fr) HS.out.row (Below.refl w.heap.size _) HS.out.kp.size ?ln ?_; (case ap => exact ⟨Nat.lt_of_lt_of_le HSZ.out hk, fun e => by have := HOW.out k e.symm; omega⟩); (case fr => exact Nat.lt_of_lt_of_le (blk_lt HS.out.blk) hk); (case ln => omega); intro v8 w8 hR8 hB8 hG8 hat8; replace HS := Aside0.mk (HS.out.grow hgw hR8 hG8); clear hR8 hB8 hG8 hat8))
          refine ⟨⟨acc ++ [q2], a2, k - 1, by omega, g3, by omega, by simp; omega, HS, ⟨HLF.out.symm⟩⟩, ?_⟩
          rw [HS.out.rd.pos, HPW.out]; omega
end Go.Proofs.YtlmmbefejmbpeaaDoor.M
