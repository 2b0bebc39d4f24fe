/- The law of any commands: its words. -/
import Derived.Test.YtkoaeiiaagipeaaMetaC
namespace Go.Proofs.Ytkoaeiiaagipeaa.PMetaApplies
open Go.RowKit Go.Proofs.YtkoaeiiaagipeaaW.PrintWords Go.Proofs.YtkoaeiiaagipeaaW.PrintLast Go.Proofs.YtkoaeiiaagipeaaW.PrintMore
structure S39 where
  f0 : Int
  f1 : Int
  f2 : Int
  f3 : Int
def z39 : S39 := ⟨0, 0, 0, 0⟩
def k39 : Kd S39 := Kd.iso (Kd.pair (Kd.int .u8) (Kd.pair (Kd.int .i64) (Kd.pair (Kd.int .i64) (Kd.int .u64)))) (fun x : S39 => (x.f0, x.f1, x.f2, x.f3))
end Go.Proofs.Ytkoaeiiaagipeaa.PMetaApplies
namespace Go.Proofs.Ytkoaeiiaagipeaa.M
open Go.RowKit Go.Proofs.YtkoaeiiaagipeaaW.PrintWords Go.Proofs.YtkoaeiiaagipeaaW.PrintLast Go.Proofs.YtkoaeiiaagipeaaW.PrintMore Go.Proofs.Ytkoaeiiaagipeaa.PMetaApplies Go.Proofs.Ytkoaeiiaagipeaa.Pure
set_option linter.unusedVariables false
set_option linter.unusedSimpArgs false
theorem cmd_at {w : World} {A : Option Addr} {n : Nat} {xs : List S39} (h : Kd.C k39 w A n xs) (i : Nat) (hi : i < xs.length) : ∃ ad, A = some ad ∧ w.cell? (ad.add (i * 4)) = some (.int .u8 xs[i].f0) ∧ w.cell? ⟨(ad.add (i * 4)).block, (ad.add (i * 4)).off + 1, none⟩ = some (.int .i64 xs[i].f1) ∧
    w.cell? ⟨(ad.add (i * 4)).block, (ad.add (i * 4)).off + 2, none⟩ = some (.int .i64 xs[i].f2) ∧ w.cell? ⟨(ad.add (i * 4)).block, (ad.add (i * 4)).off + 3, none⟩ = some (.int .u64 xs[i].f3) := by
  have hn : n = xs.length := (Kd.C_len h).symm
  subst hn
  obtain ⟨ad, c, e, _, hK, hc0⟩ := Kd.C_get h z39 (i : Int) (by omega) (by omega)
  have hg : xs.getD (i : Int).toNat z39 = xs[i] := by rw [Int.toNat_natCast, List.getD_eq_getElem?_getD, List.getElem?_eq_getElem hi]; rfl
  rw [hg] at hK
  rw [Int.toNat_natCast] at hc0
  have hc : ∀ j u, c[j]? = some u → w.cell? (ad.add (i * 4 + j)) = some u := hc0
  obtain ⟨_, _, rfl, rfl, ⟨_, _, rfl, rfl, ⟨_, _, rfl, rfl, rfl⟩⟩⟩ := hK
  exact ⟨ad, e, hc 0 _ rfl, by rw [← add_field _ _ 1 (by omega)]; exact hc 1 _ rfl, by rw [← add_field _ _ 2 (by omega)]; exact hc 2 _ rfl, by rw [← add_field _ _ 3 (by omega)]; exact hc 3 _ rfl⟩
theorem awake_c (w : World) : Calls Try.prog 15 #[] w fun e w' => e = .returned (.bool true) ∧ Below w.heap.size w w' := fascinelaw14_awake.calls 40 true w fascinelaw14_awake_40
theorem copy_c {w : World} {n : Int} {A : Option Addr} {c : Nat} {l : List S42} (hr : Kd.C k42 w A l.length l) (hc : l.length ≤ c) (hl : l.length * 48 ≤ 140737488351232) (hb : ∀ s ∈ l, RowB s) :
    Calls Try.prog 21 #[tabV n A l.length c] w fun e w' => ∃ v, e = .returned (.agg #[.int .i64 n, v]) ∧ Kd.S k42 42 w' w.heap.size (fun _ => True) v l ∧ Below w.heap.size w w' := by
  obtain ⟨K, hK⟩ := copy_ev n l hl (fun s h => (hb s h).1)
  exact meta_Copy.calls K n A c l n l w hr hc (hK K (Nat.le_refl _))
theorem papply_c {w : World} {n : Int} {A : Option Addr} {c : Nat} {l : List S42} (hr : Kd.C k42 w A l.length l) (hc : l.length ≤ c) (hl : l.length * 48 ≤ 140737488351232) (hb : ∀ s ∈ l, RowB s) (kd sd nd rv : Int) :
    Calls Try.prog 22 #[tabV n A l.length c, cmdV kd sd nd rv] w fun e w' => ∃ v, e = .returned (.tuple #[.agg #[.int .i64 n, v], .bool (applyV n l kd sd nd rv).2]) ∧ Kd.R k42 42 w' w.heap.size (fun _ => True) v (applyV n l kd sd nd rv).1 ∧ Below w.heap.size w w' := by
  obtain ⟨K, hK⟩ := papply_ev (n := n) hl hb kd sd nd rv
  refine (meta_Apply.calls K n A c l kd sd nd rv _ _ _ w hr hc (hK K (Nat.le_refl _))).mono ?_
  rintro e w' ⟨v, rfl, hS, hB⟩
  exact ⟨v, rfl, Kd.S_R hS, hB⟩
theorem rapply_c {w0 w : World} {n : Int} {A : Option Addr} {c : Nat} {l : List S42} (hr : Kd.C k42 w0 A l.length l) (hw0 : Below w0.heap.size w0 w) (hc : l.length ≤ c) (hb : ∀ s ∈ l, RowB s) {kd sd nd rv : Int} (hkd : 0 ≤ kd ∧ kd ≤ 255) :
    Calls Try.prog 23 #[tabV n A l.length c, cmdV kd sd nd rv] w (RPost w0 w n (applyV n l kd sd nd rv).1 (applyV n l kd sd nd rv).2) := by
  by_cases h : tabOk n l = true ∧ 0 ≤ sd ∧ sd < (l.length : Int) ∧ 0 ≤ nd ∧ nd < n
  · have e : applyV n l kd sd nd rv = applyIn l (rd_T42 l sd) kd sd nd rv := by unfold applyV; exact if_pos h
    rw [e]
    exact rapply_yes hr hw0 hc hb h.1 h.2.1 h.2.2.1 h.2.2.2.1 h.2.2.2.2 hkd
  · have e : applyV n l kd sd nd rv = (l, false) := by unfold applyV; exact if_neg h
    rw [e]
    exact rapply_no hr hw0 hc hb h
theorem same_c {w : World} {n : Int} {A A' : Option Addr} {c c' : Nat} {l : List S42} (hr : Kd.C k42 w A l.length l) (hc : l.length ≤ c) (hr' : Kd.C k42 w A' l.length l) (hc' : l.length ≤ c') (hl : l.length * 48 ≤ 140737488351232) (hb : ∀ s ∈ l, RowB s) :
    Calls Try.prog 17 #[tabV n A l.length c, tabV n A' l.length c'] w fun e w' => e = .returned (.bool true) ∧ Below w.heap.size w w' := by
  obtain ⟨K, hK⟩ := same_ev n l (by omega) (fun s h => (hb s h).1)
  exact fascineref14_Same.calls K n A c l n A' c' l true w hr hc hr' hc' (hK K (Nat.le_refl _))
/-- a block of whole numbers, so many at least -/
def IntsIn (w : World) (g n : Nat) : Prop := ∃ cs : Array Value, w.heap[g]? = some (.cells cs 3 (0, 0)) ∧ n ≤ cs.size
theorem IntsIn.set {w : World} {g n : Nat} (h : IntsIn w g n) (p : Addr) (hs : p.spot = none) (u : Value) : IntsIn (w.setCell p u) g n := by
  obtain ⟨cs, h1, h2⟩ := h
  obtain ⟨pb, po, ps⟩ := p
  subst hs
  by_cases e : g = pb
  · subst e; exact ⟨_, blk_set h1 _ _, by simpa using h2⟩
  · exact ⟨cs, (Below.heap_setCell w ⟨pb, po, none⟩ u g e).trans h1, h2⟩
/-- the copy whose lists are written over -/
structure Was (w : World) (lo hi g : Nat) (l : List S42) : Prop where
  hd : ∀ k (hk : k < l.length), ∃ vi, w.cell? ⟨g, k * 4 + 3, none⟩ = some vi ∧ ((l[k].f3.length = 0 ∧ ∃ A c, vi = .slice A 0 c) ∨ ∃ gi cap, vi = .slice (some ⟨gi, 0, none⟩) l[k].f3.length cap ∧ lo ≤ gi ∧ gi < hi ∧ gi ≠ g ∧ l[k].f3.length ≤ cap ∧ IntsIn w gi l[k].f3.length)
theorem Was.set {w : World} {lo hi g : Nat} {l : List S42} (h : Was w lo hi g l) {gj q : Nat} (hg : gj ≠ g) (u : Value) : Was (w.setCell ⟨gj, q, none⟩ u) lo hi g l := by
  refine ⟨fun k hk => ?_⟩
  obtain ⟨vi, h1, h2⟩ := h.hd k hk
  refine ⟨vi, ?_, ?_⟩
  · rw [← h1]; exact World.cell?_of_block (Below.heap_setCell w ⟨gj, q, none⟩ u g (fun e => hg e.symm))
  · rcases h2 with h2 | ⟨gi, cap, e, a, b, c, d, f⟩
    · exact .inl h2
    · exact .inr ⟨gi, cap, e, a, b, c, d, f.set _ rfl u⟩
theorem Was.old {w w' : World} {lo hi g : Nat} {l : List S42} (h : Was w lo hi g l) (hb : Below w.heap.size w w') : Was w' lo hi g l := by
  refine ⟨fun k hk => ?_⟩
  obtain ⟨vi, h1, h2⟩ := h.hd k hk
  refine ⟨vi, (hb.cell (World.block_lt_of_cell? w _ h1)).trans h1, ?_⟩
  rcases h2 with h2 | ⟨gi, cap, e, a, b, c, d, cs, f1, f2⟩
  · exact .inl h2
  · exact .inr ⟨gi, cap, e, a, b, c, d, cs, (hb.block gi (blk_lt f1)).trans f1, f2⟩
/-- all is as it was but for the blocks from lo to hi -/
structure Kw (lo hi : Nat) (a b : World) : Prop where
  os : b.os = a.os
  tape : b.tape = a.tape
  output : b.output = a.output
  size : b.heap.size = a.heap.size
  block : ∀ k, ¬ (lo ≤ k ∧ k < hi) → b.heap[k]? = a.heap[k]?
theorem Kw.refl (lo hi : Nat) (a : World) : Kw lo hi a a := ⟨rfl, rfl, rfl, rfl, fun _ _ => rfl⟩
theorem Kw.set {lo hi : Nat} {a b : World} (h : Kw lo hi a b) {gi q : Nat} (h1 : lo ≤ gi) (h2 : gi < hi) (u : Value) : Kw lo hi a (b.setCell ⟨gi, q, none⟩ u) :=
  ⟨h.os, h.tape, h.output, by simpa using h.size, fun k hk => (Below.heap_setCell b ⟨gi, q, none⟩ u k (fun e => hk (by rw [e]; exact ⟨h1, h2⟩))).trans (h.block k hk)⟩
theorem Kw.below {lo hi : Nat} {w a b : World} (h : Kw lo hi a b) (hb : Below w.heap.size w a) (hl : w.heap.size ≤ lo) : Below w.heap.size w b :=
  ⟨h.os.trans hb.os, h.tape.trans hb.tape, h.output.trans hb.output, by rw [h.size]; exact hb.size, fun k hk => (h.block k (by omega)).trans (hb.block k hk)⟩
theorem Was.of {w : World} {lo hi g n cap : Nat} {l : List S42} (h : Kd.S k42 42 w lo (fun _ => True) (.slice (some ⟨g, 0, none⟩) n cap) l) (hhi : w.heap.size ≤ hi) : Was w lo hi g l := by
  have hn : n = l.length := (Kd.S_reads' h).1
  refine ⟨fun k hk => ?_⟩
  obtain ⟨oki, vi, hR, hoki, _, _, _, _, hc3, _⟩ := meta_Apply.elem h k (by omega)
  have e : rd_T42 l (k : Int) = l[k] := rdT_nat hk
  rw [e] at hR
  refine ⟨vi, hc3, ?_⟩
  by_cases h0 : l[k].f3.length = 0
  · left
    refine ⟨h0, ?_⟩
    obtain ⟨A, c, e⟩ := Kd.R_slice hR
    exact ⟨A, c, by rw [e, h0]⟩
  · right
    obtain ⟨gi, cp, e, hb, hlt, _⟩ := Kd.R_form hR (by omega)
    obtain ⟨inner, ho⟩ := Kd.R_own hR
    rw [e] at ho
    rcases ho.2 with ⟨h1, _⟩ | ⟨g', cap', cur, he, _, hh, hle, _, hsz, _⟩
    · cases h1
    · simp only [Value.slice.injEq, Option.some.injEq, Addr.mk.injEq, and_true] at he
      obtain ⟨e1, _, e2⟩ := he
      subst e1 e2
      exact ⟨gi, cp, e, hb, by omega, (hoki gi (hR.1 gi (by rw [e]; rfl))).2, hle, ⟨cur, hh, by have hs1 : (Kd.int .i64).sz = 1 := rfl; rw [hs1] at hsz; omega⟩⟩
end Go.Proofs.Ytkoaeiiaagipeaa.M
