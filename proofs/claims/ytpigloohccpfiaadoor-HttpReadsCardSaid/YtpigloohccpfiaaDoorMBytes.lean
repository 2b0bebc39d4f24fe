/- A row of bytes made of a text ('[]byte(s)'): it bears a mark behind its end. What is read of it, what is written into it, the text that it is. -/
import Derived.Test.YtpigloohccpfiaaDoorWMore
import Derived.Laws.IdiomStrings
namespace Go.Proofs.YtpigloohccpfiaaDoor.M
open Go.RowKit Go.Proofs.YtpigloohccpfiaaDoorW.PrintWords Go.Proofs.YtpigloohccpfiaaDoorW.PrintLast Go.Proofs.YtpigloohccpfiaaDoorW.PrintMore
set_option linter.unusedVariables false
set_option linter.unusedSimpArgs false

def BRow (w : World) (g : Nat) (e : TypeId) (bs : List UInt8) : Prop :=
  ∃ (cur : Array Value) (m : Nat), w.heap[g]? = some (.cells cur e (m, m + 1)) ∧ bs.length ≤ m ∧ ∀ (i : Nat) (h : i < bs.length), cur[i]? = some (.int .u8 (bs[i].toNat : Int))
section
variable {w : World} {g : Nat} {e : TypeId} {bs : List UInt8}
theorem BRow.cell (h : BRow w g e bs) (i : Nat) (hi : i < bs.length) : w.cell? ⟨g, i, none⟩ = some (.int .u8 (bs[i].toNat : Int)) := by
  obtain ⟨cur, m, h1, h2, h3⟩ := h
  rw [cell_of_row w g i cur e (m, m + 1) h1]
  exact h3 i hi
theorem BRow.frozen (h : BRow w g e bs) (i : Nat) (hi : i < bs.length) : w.frozen? ⟨g, i, none⟩ = false := by
  obtain ⟨cur, m, h1, h2, h3⟩ := h
  simp [World.frozen?, h1]
  omega
theorem BRow.lt (h : BRow w g e bs) : g < w.heap.size := by
  obtain ⟨cur, m, h1, h2, h3⟩ := h
  exact (Array.getElem?_eq_some_iff.1 h1).1
theorem BRow.set (h : BRow w g e bs) (i : Nat) (hi : i < bs.length) (b : UInt8) : BRow (w.setCell ⟨g, i, none⟩ (.int .u8 (b.toNat : Int))) g e (bs.set i b) := by
  obtain ⟨cur, m, h1, h2, h3⟩ := h
  refine ⟨cur.setIfInBounds i (.int .u8 (b.toNat : Int)), m, ?_, by simpa using h2, fun j hj => ?_⟩
  · have hg := (Array.getElem?_eq_some_iff.1 h1).1
    have hv := (Array.getElem?_eq_some_iff.1 h1).2
    show (w.heap.modify g _)[g]? = _
    rw [Array.getElem?_modify, if_pos rfl, h1]
    rfl
  · rw [List.length_set] at hj
    have := h3 j hj
    have hc : i < cur.size := by
      have := h3 i hi
      exact (Array.getElem?_eq_some_iff.1 this).1
    rw [Array.getElem?_setIfInBounds]
    by_cases hij : i = j
    · subst hij; simp [hc]
    · simp [hij, this]
theorem BRow.drewN (h : BRow w g e bs) (n : Nat) : BRow (w.drewN n) g e bs := h
theorem BRow.drew (h : BRow w g e bs) : BRow w.drew g e bs := h
theorem BRow.str {P : Program} (h : BRow w g e bs) (src dst : TypeId) (cap : Nat) (hs : P.underlying src = some (.slice e)) (he : P.underlying e = some (.int .u8)) (hd : P.underlying dst = some .string) :
    (convert src dst (.slice (some ⟨g, 0, none⟩) bs.length cap)).run P w = .ok (.string ⟨bs.toArray⟩) w :=
  run_convert_bytes_back w src dst e ⟨g, 0, none⟩ cap bs hs he hd (fun j hj => by
    have : (⟨g, 0, none⟩ : Addr).add j = ⟨g, j, none⟩ := by unfold Addr.add; split <;> simp_all
    rw [this]; exact h.cell j hj)
end
theorem brow_new (w : World) (e : TypeId) (s : ByteArray) (C : Array Value) (hC : C = bytesRow s (grownCap w s.size 0 e)) : BRow (w.drew.alloc (.cells C e (C.size, C.size + 1))) w.heap.size e s.data.toList := by
  refine ⟨C, C.size, ?_, ?_, fun i hi => ?_⟩
  · show (w.heap.push _)[w.heap.size]? = _
    simp
  · rw [hC]; simp [bytesRow]
  · rw [hC]
    have hi' : i < s.data.size := by simpa using hi
    unfold bytesRow
    rw [Array.getElem?_append_left (by simpa using hi')]
    rw [Array.getElem?_map, Array.getElem?_eq_getElem hi']
    simp
section
variable {P : Program} {ops : Array Oper} {rest : List Oper} {o : Oper} {a : Act} {Q : Exit → Act → World → Prop}
theorem bytes_event {W : World} (hgd : o.guard = none) {N : Tmp} (_hd : o.dst = some N) (src dst e : TypeId) (x : Operand) (s : ByteArray) (ho : o.op = .convert src dst x) (hx : a.eval x = .string s)
    (hs : P.underlying src = some .string) (hd : P.underlying dst = some (.slice e)) (he : P.underlying e = some (.int .u8))
    (h : ∀ g, g = W.heap.size → ∀ (cap : Nat) (w1 : World), BRow w1 g e s.data.toList → Below W.heap.size W w1 → wpList P ops Q rest (a.put o.dst (.slice (some ⟨g, 0, none⟩) s.size cap)) w1) : wpList P ops Q (o :: rest) a W := by
  have hr := run_bytes_of_string (P := P) W src dst e s hs hd he
  refine Kd.event_run hgd ?_ (h _ rfl (grownCap W s.size 0 e) _ (brow_new W e s _ rfl) ?_)
  · simp [execOp, ho, hx, hr]
  · exact below_alloc (below_drew1 (Below.refl _ _)) _
end
end Go.Proofs.YtpigloohccpfiaaDoor.M
