/- The row of lines: the last one is taken off, one is put on. -/
import Derived.Test.YtaediecdpgndjaaMrgC
namespace Go.Proofs.Ytaediecdpgndjaa.M
open Go.RowKit Go.Proofs.Mg Go.Proofs.YtaediecdpgndjaaW.PrintWords Go.Proofs.YtaediecdpgndjaaW.PrintLast Go.Proofs.YtaediecdpgndjaaW.PrintMore Go.Proofs.Ytaediecdpgndjaa.PMrg0
set_option linter.unusedVariables false
set_option linter.unusedSimpArgs false
abbrev ptr (Q : Nat) : Value := .pointer (some ⟨Q, 0, none⟩)
abbrev lnV (x : Ln) : Value := .iface 46 (.agg #[.slice (some x.a) x.len x.c, .int .i64 x.n])
/-- the heap's variable -/
structure QAt (w : World) (Q G n cap : Nat) (g : Nat → Ln) : Prop where
  hd : w.heap[Q]? = some (.cells #[.slice (some ⟨G, 0, none⟩) n cap] 42 (0, 0))
  row : Row w G cap n g
  cap : n ≤ cap
  ne : Q ≠ G
theorem QAt.old {w w' : World} {Q G n cap : Nat} {g : Nat → Ln} (h : QAt w Q G n cap g) (hb : Below w.heap.size w w') : QAt w' Q G n cap g := ⟨(hb.block _ (blk_lt h.hd)).trans h.hd, h.row.old (hb.block _ h.row.lt), h.cap, h.ne⟩
theorem Row.far {w : World} {G cap n : Nat} {g : Nat → Ln} (h : Row w G cap n g) {p : Addr} (hp : G ≠ p.block) (u : Value) : Row (w.setCell p u) G cap n g := h.old (Below.heap_setCell w p u G hp)
theorem Row.less {w : World} {G cap n m : Nat} {g : Nat → Ln} (h : Row w G cap n g) (hm : m ≤ n) : Row w G cap m g := by
  obtain ⟨cs, h1, h2, h3⟩ := h.bl
  exact ⟨cs, h1, by omega, fun i hi => h3 i (by omega)⟩
set_option maxHeartbeats 4000000 in
theorem popm_any {w : World} {Q G n cap : Nat} {g : Nat → Ln} (h : QAt w Q G (n + 1) cap g) (hn : n < 140737488351232) :
    Calls Try.prog 42 #[ptr Q] w fun e w' => e = .returned (lnV (g n)) ∧ QAt w' Q G n cap g ∧ Kp (fun k => k = Q) w w' := by
  have HQ := Aside0.mk h
  have hG := h.row.lt
  have hQ := blk_lt h.hd
  have hcap := h.cap
  have hq : w.cell? ⟨Q, 0, none⟩ = some (.slice (some ⟨G, 0, none⟩) (n + 1) cap) := blk_cell h.hd 0
  have fq : w.frozen? ⟨Q, 0, none⟩ = false := blk_frozen h.hd 0
  obtain ⟨c1, c2, f1, f2⟩ := h.row.cell n (by omega)
  unfold hdrV at c1
  have e0 : wrap64 (((n + 1 : Nat) : Int) - 1) = (n : Int) := by unfold wrap64; omega
  have e1 : (n : Int) < ((n + 1 : Nat) : Int) := by omega
  clear h
  go_enter Try.func42, Try.ntmps42
  go_wp2
  go_region
  have hB : Below w.heap.size w (w.alloc (Obj.cells #[Value.slice (some (g n).a) (g n).len (g n).c, Value.int IntKind.i64 (g n).n] 46)).drew := below_drew (below_alloc (Below.refl _ _) _)
  have HQ1 := Aside0.mk (HQ.out.old hB)
  have HK1 := Aside0.mk (Kp.of_below (S := fun k => k = Q) hB)
  have hbox : (w.alloc (Obj.cells #[Value.slice (some (g n).a) (g n).len (g n).c, Value.int IntKind.i64 (g n).n] 46)).drew.heap[w.heap.size]? = _ := heap_alloc_new w _
  have hne : ¬ (w.heap.size = Q) := by omega
  have hne2 : ¬ (Q = w.heap.size) := by omega
  clear hq fq c1 c2 f1 f2 hG hQ hB
  generalize (w.alloc (Obj.cells #[Value.slice (some (g n).a) (g n).len (g n).c, Value.int IntKind.i64 (g n).n] 46)).drew = W1 at *
  generalize w.heap.size = bx at *
  have hG := HQ1.out.row.lt
  have hQ := blk_lt HQ1.out.hd
  have hbl := blk_lt hbox
  have hq : W1.cell? ⟨Q, 0, none⟩ = some (.slice (some ⟨G, 0, none⟩) (n + 1) cap) := blk_cell HQ1.out.hd 0
  have fq : W1.frozen? ⟨Q, 0, none⟩ = false := blk_frozen HQ1.out.hd 0
  have b0 : W1.cell? ⟨bx, 0, none⟩ = some (.slice (some (g n).a) (g n).len (g n).c) := blk_cell hbox 0
  have b1 : W1.cell? ⟨bx, 1, none⟩ = some (.int .i64 (g n).n) := blk_cell hbox 1
  clear hbox
  have e2 : (n : Int) ≤ (cap : Int) := by omega
  go_wp2
  go_region
  go_wp2
  go_ret
  exact ⟨rfl, ⟨blk_put HQ1.out.hd 0 _ rfl, (HQ1.out.row.far (p := ⟨Q, 0, none⟩) HQ1.out.ne.symm _).drew.less (by omega), by omega, HQ1.out.ne⟩, (HK1.out.setCell (p := ⟨Q, 0, none⟩) rfl _).drew⟩
end Go.Proofs.Ytaediecdpgndjaa.M
