/- The first copy's knowledge in memory: a struct, a map of pointers, the peers; what the map's operations do to it. -/
import Derived.WalkKit
import Derived.Maps.Keyed
import Derived.Maps.RangeRun
import Derived.Deep.QuietTactic
import Derived.BigQuiet
import Derived.Outline
import Derived.Test.YtfaipapaiobgcaaProg
import Derived.Test.YtfaipapaiobgcaaWMore
namespace Go.Proofs.Ytfaipapaiobgcaa.M
open Go.RowKit Go.Maps Go.ChangeMaps Go.Proofs.YtfaipapaiobgcaaW.PrintWords Go.Proofs.YtfaipapaiobgcaaW.PrintLast Go.Proofs.YtfaipapaiobgcaaW.PrintMore
set_option linter.unusedVariables false
set_option linter.unusedSimpArgs false
structure Pe where
  i : Bool
  o : Bool
  t : Int
  a : Bool
  h : Int
structure En where
  k : Int
  b : Nat
  n : Nat
  p : Pe
def En.me (x : En) : MapEntry := ⟨.int .i64 x.k, .pointer (some ⟨x.b, 0, none⟩), x.n⟩
abbrev Pe.cs (p : Pe) : Array Value := #[.bool p.i, .bool p.o, .int .u64 p.t, .bool p.a, .int .i64 p.h]
def find (L : List En) (k : Int) : Option En := L.find? fun x => x.k == k
def ptr : Option En → Value
  | none => .pointer none
  | some x => .pointer (some ⟨x.b, 0, none⟩)
structure MapAt (w : World) (M : Nat) (L : List En) (cl : Nat) : Prop where
  blk : w.heap[M]? = some (.map (L.map En.me).toArray cl)
  kd : (L.map En.k).Nodup
  kw : ∀ x ∈ L, 0 ≤ x.k ∧ x.k ≤ 4
  bd : (L.map En.n).Nodup
  bl : ∀ x ∈ L, x.n < cl
theorem wf_key {k : Int} (h : 0 ≤ k ∧ k ≤ 4) : (Lit.int .i64 k).wf = true := by
  simp [Lit.wf, IntKind.min, IntKind.max, IntKind.signed, IntKind.bits]; omega
theorem K3 : Keyed Try.prog 3 := int_keyed Try.underlying3
theorem find_some {L : List En} {k : Int} {x : En} (h : find L k = some x) : x ∈ L ∧ x.k = k := by
  unfold find at h
  exact ⟨List.mem_of_find?_eq_some h, by simpa using List.find?_some h⟩
theorem find_none {L : List En} {k : Int} (h : find L k = none) : ∀ x ∈ L, x.k ≠ k := by
  unfold find at h
  intro x hx
  simpa using List.find?_eq_none.1 h x hx
theorem nodup_inj {α β : Type} {f : α → β} {L : List α} (hd : (L.map f).Nodup) {x y : α} (hx : x ∈ L) (hy : y ∈ L) (h : f x = f y) : x = y := by
  induction L with
  | nil => cases hx
  | cons a r ih =>
    rw [List.map_cons, List.nodup_cons] at hd
    rcases List.mem_cons.1 hx with hx' | hx' <;> rcases List.mem_cons.1 hy with hy' | hy'
    · rw [hx', hy']
    · exact absurd (List.mem_map.2 ⟨y, hy', by rw [← h, hx']⟩) hd.1
    · exact absurd (List.mem_map.2 ⟨x, hx', by rw [h, hy']⟩) hd.1
    · exact ih hd.2 hx' hy'
theorem find_of {L : List En} (hd : (L.map En.k).Nodup) {x : En} (hx : x ∈ L) : find L x.k = some x := by
  cases h : find L x.k with
  | none => exact absurd rfl (find_none h x hx)
  | some y => exact congrArg some (nodup_inj hd (find_some h).1 hx (find_some h).2)
theorem keys_of {w : World} {M : Nat} {L : List En} {cl : Nat} (h : MapAt w M L cl) : ∀ e ∈ L.map En.me, ∃ l, keyOf Try.prog 3 e.key = some l := by
  intro e he
  obtain ⟨x, hx, rfl⟩ := List.mem_map.1 he
  exact ⟨_, keyOf_int_mk Try.underlying3 (wf_key (h.kw x hx))⟩
theorem finds {w : World} {M : Nat} {L : List En} {cl : Nat} (h : MapAt w M L cl) {k : Int} (hk : (Lit.int .i64 k).wf = true) (w' : World) :
    ((Instr.findKey 3 (.int .i64 k) (L.map En.me)).run Try.prog w' = .ok none w' ∧ find L k = none) ∨
    ∃ j x, (Instr.findKey 3 (.int .i64 k) (L.map En.me)).run Try.prog w' = .ok (some (j, .pointer (some ⟨x.b, 0, none⟩))) w' ∧ find L k = some x ∧ L[j]? = some x := by
  rcases K3.find w' (keyOf_int_mk Try.underlying3 hk) (L.map En.me) (keys_of h) with ⟨h1, h2⟩ | ⟨j, e, h1, h2, h3⟩
  · refine .inl ⟨h1, ?_⟩
    cases hf : find L k with
    | none => rfl
    | some y =>
      obtain ⟨m, rfl⟩ := find_some hf
      exact absurd rfl (h2 (En.me y) (List.mem_map.2 ⟨y, m, rfl⟩))
  · rw [List.getElem?_map] at h2
    cases hx : L[j]? with
    | none => rw [hx] at h2; cases h2
    | some x =>
      rw [hx] at h2
      obtain rfl : En.me x = e := by simpa using h2
      refine .inr ⟨j, x, h1, ?_, hx⟩
      have hk' : x.k = k := by simpa [En.me] using h3
      rw [← hk']
      exact find_of h.kd (List.mem_of_getElem? hx)
theorem look {w : World} {M : Nat} {L : List En} {cl : Nat} (h : MapAt w M L cl) {k : Int} (hk : (Lit.int .i64 k).wf = true) :
    (Instr.lookup 57 (.map (some M)) (.int .i64 k) false).run Try.prog w = .ok (ptr (find L k)) w := by
  have hz : (zeroValue 60).run Try.prog w = .ok (.pointer none) w := by kernel_rfl
  rcases finds h hk w with ⟨h1, h2⟩ | ⟨j, x, h1, h2, h3⟩
  · rw [h2]; simp [Instr.lookup, run_underlying Try.underlying57, MapKept.run_getObj_map h.blk, K3.check w _ (keyOf_int_mk Try.underlying3 hk), h1, hz, Result.andThen, ptr]
  · rw [h2]; simp [Instr.lookup, run_underlying Try.underlying57, MapKept.run_getObj_map h.blk, K3.check w _ (keyOf_int_mk Try.underlying3 hk), h1, Result.andThen, ptr]
theorem update {w : World} {M : Nat} {L : List En} {cl : Nat} (h : MapAt w M L cl) {k : Int} (hk : (Lit.int .i64 k).wf = true) (hn : find L k = none) (b : Nat) (p : Pe) :
    (Instr.mapUpdate 57 (.map (some M)) (.int .i64 k) (.pointer (some ⟨b, 0, none⟩))).run Try.prog w = .ok () (setBlock w M (.map ((L ++ ([⟨k, b, cl, p⟩] : List En)).map En.me).toArray (cl + 1))) := by
  rcases finds h hk w with ⟨h1, h2⟩ | ⟨j, x, h1, h2, h3⟩
  · simp [Instr.mapUpdate, run_underlying Try.underlying57, MapKept.run_getObj_map h.blk, K3.check w _ (keyOf_int_mk Try.underlying3 hk), h1, MapKept.run_setObj_map _ h.blk, Result.andThen, setBlock, En.me]
  · rw [hn] at h2; cases h2
theorem erase_filter {L : List En} (hd : (L.map En.k).Nodup) : ∀ {j : Nat} {x : En}, L[j]? = some x → L.eraseIdx j = L.filter fun y => y.k != x.k := by
  induction L with
  | nil => intro j x h; simp at h
  | cons a r ih =>
    intro j x h
    rw [List.map_cons, List.nodup_cons] at hd
    cases j with
    | zero =>
      obtain rfl : a = x := by simpa using h
      rw [List.eraseIdx_zero, List.tail_cons, List.filter_cons, if_neg (by simp)]
      symm
      refine List.filter_eq_self.2 fun y hy => ?_
      simp only [bne_iff_ne, ne_eq]
      exact fun e => hd.1 (e ▸ List.mem_map.2 ⟨y, hy, rfl⟩)
    | succ j =>
      have hx : r[j]? = some x := by simpa using h
      rw [List.eraseIdx_cons_succ, ih hd.2 hx, List.filter_cons, if_pos]
      simp only [bne_iff_ne, ne_eq]
      exact fun e => hd.1 (e ▸ List.mem_map.2 ⟨x, List.mem_of_getElem? hx, rfl⟩)
theorem strike {w : World} {M : Nat} {L : List En} {cl : Nat} (h : MapAt w M L cl) {x : En} (hx : x ∈ L) (ty : TypeId) :
    (Builtin.delete_ #[57, 3] ty #[.map (some M), .int .i64 x.k]).run Try.prog w = .ok (.tuple #[]) (setBlock w M (.map ((L.filter fun y => y.k != x.k).map En.me).toArray cl)) := by
  have hk := wf_key (h.kw x hx)
  rcases finds h hk w with ⟨h1, h2⟩ | ⟨j, y, h1, h2, h3⟩
  · rw [find_of h.kd hx] at h2; cases h2
  · obtain rfl : x = y := by rw [find_of h.kd hx] at h2; exact Option.some.inj h2
    have hj : j < L.length := (List.getElem?_eq_some_iff.1 h3).1
    have e : (L.map En.me).eraseIdx j = (L.filter fun y => y.k != x.k).map En.me := by rw [← erase_filter h.kd h3, map_eraseIdx]
    simp [Builtin.delete_, run_underlying Try.underlying57, MapKept.run_getObj_map h.blk, K3.check w _ (keyOf_int_mk Try.underlying3 hk), h1, MapKept.run_setObj_map _ h.blk, Result.andThen, setBlock, e]
/-! ### the state -/
structure PrimAt (w : World) (S : Nat → Prop) (B M cl : Nat) (me tm rv : Int) (L : List En) : Prop where
  hd : w.heap[B]? = some (.cells #[.int .i64 me, .int .u64 tm, .int .u64 rv, .map (some M)] 59 (0, 0))
  mp : MapAt w M L cl
  pe : ∀ x ∈ L, w.heap[x.b]? = some (.cells x.p.cs 62 (0, 0))
  nd : (L.map En.b).Nodup
  sB : S B
  sM : S M
  sb : ∀ x ∈ L, S x.b
  tw : 0 ≤ rv ∧ rv ≤ 18446744073709551615
  hw : ∀ x ∈ L, -9223372036854775808 ≤ x.p.h ∧ x.p.h ≤ 9223372036854775807
/-- what was there, but for S, is as it was -/
structure Kp (S : Nat → Prop) (w w' : World) : Prop where
  os : w'.os = w.os
  tape : w'.tape = w.tape
  output : w'.output = w.output
  size : w.heap.size ≤ w'.heap.size
  block : ∀ k, k < w.heap.size → ¬ S k → w'.heap[k]? = w.heap[k]?
theorem Kp.refl (S : Nat → Prop) (w : World) : Kp S w w := ⟨rfl, rfl, rfl, Nat.le_refl _, fun _ _ _ => rfl⟩
theorem Kp.trans {S : Nat → Prop} {a b c : World} (h : Kp S a b) (k : Kp S b c) : Kp S a c :=
  ⟨k.os.trans h.os, k.tape.trans h.tape, k.output.trans h.output, Nat.le_trans h.size k.size, fun i hi hs => (k.block i (Nat.lt_of_lt_of_le hi h.size) hs).trans (h.block i hi hs)⟩
theorem Kp.drewN {S : Nat → Prop} {a w : World} (h : Kp S a w) (n : Nat) : Kp S a (w.drewN n) := ⟨h.os, h.tape, h.output, h.size, h.block⟩
theorem Kp.drew {S : Nat → Prop} {a w : World} (h : Kp S a w) : Kp S a w.drew := ⟨h.os, h.tape, h.output, h.size, h.block⟩
theorem Kp.alloc {S : Nat → Prop} {a w : World} (h : Kp S a w) (o : Obj) : Kp S a (w.alloc o) :=
  h.trans ⟨rfl, rfl, rfl, by simp, fun k hk _ => Below.heap_alloc w o k hk⟩
theorem Kp.setCell {S : Nat → Prop} {a w : World} (h : Kp S a w) {p : Addr} (hp : S p.block) (u : Value) : Kp S a (w.setCell p u) :=
  h.trans ⟨rfl, rfl, rfl, by simp, fun k _ hs => Below.heap_setCell w p u k (fun e => hs (e ▸ hp))⟩
theorem heap_setBlock (w : World) (b : Nat) (o : Obj) {k : Nat} (h : k ≠ b) : (setBlock w b o).heap[k]? = w.heap[k]? := by
  unfold setBlock
  rw [Array.getElem?_setIfInBounds]
  simp [Ne.symm h]
theorem heap_setBlock_same (w : World) (b : Nat) (o : Obj) (h : b < w.heap.size) : (setBlock w b o).heap[b]? = some o := by
  unfold setBlock
  rw [Array.getElem?_setIfInBounds]
  simp [h]
theorem Kp.setBlock {S : Nat → Prop} {a w : World} (h : Kp S a w) {b : Nat} (hb : S b) (o : Obj) : Kp S a (setBlock w b o) :=
  h.trans ⟨rfl, rfl, rfl, by simp [Go.ChangeMaps.setBlock], fun k _ hs => heap_setBlock w b o (fun e => hs (e ▸ hb))⟩
theorem Kp.mono {S S' : Nat → Prop} {a w : World} (h : Kp S a w) (hs : ∀ k, S k → S' k) : Kp S' a w := ⟨h.os, h.tape, h.output, h.size, fun k hk hn => h.block k hk (fun e => hn (hs k e))⟩
theorem Kp.below {S : Nat → Prop} {a w : World} (h : Kp S a w) {B : Nat} (hs : ∀ k, k < B → ¬ S k) (hB : B ≤ a.heap.size) : Below B a w := ⟨h.os, h.tape, h.output, h.size, fun k hk => h.block k (by omega) (hs k hk)⟩
theorem Kp.of_below {S : Nat → Prop} {a w : World} (h : Below a.heap.size a w) : Kp S a w := ⟨h.os, h.tape, h.output, h.size, fun k hk _ => h.block k hk⟩
end Go.Proofs.Ytfaipapaiobgcaa.M
