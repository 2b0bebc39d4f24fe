/- The lines' methods. -/
import Derived.Test.YtaediecdpgndjaaMrgA
namespace Go.Proofs.Ytaediecdpgndjaa.M
open Go.RowKit Go.Proofs.Mg Go.Proofs.YtaediecdpgndjaaW.PrintWords Go.Proofs.YtaediecdpgndjaaW.PrintLast Go.Proofs.YtaediecdpgndjaaW.PrintMore Go.Proofs.Ytaediecdpgndjaa.PMrg0
set_option linter.unusedVariables false
set_option linter.unusedSimpArgs false
/-- a line: its list, where that lies, its number -/
structure Ln where
  a : Addr
  c : Nat
  h : S31
  t : List S31
  n : Int
abbrev Ln.len (x : Ln) : Nat := x.t.length + 1
def lnLess (x y : Ln) : Bool := lt31 x.h y.h || (!lt31 y.h x.h && decide (x.n < y.n))
/-- a line's two cells, and its first entry's three -/
structure LnAt (w : World) (G i : Nat) (x : Ln) : Prop where
  l : w.cell? ⟨G, i * 2, none⟩ = some (.slice (some x.a) x.len x.c)
  n : w.cell? ⟨G, i * 2 + 1, none⟩ = some (.int .i64 x.n)
  d0 : w.cell? x.a = some (.string x.h.f0)
  d1 : w.cell? ⟨x.a.block, x.a.off + 1, none⟩ = some (.int .i64 x.h.f1)
  d2 : w.cell? ⟨x.a.block, x.a.off + 2, none⟩ = some (.string x.h.f2)
theorem LnAt.below {w w' : World} {G i : Nat} {x : Ln} (h : LnAt w G i x) (hb : Below w.heap.size w w') : LnAt w' G i x := by
  have e : ∀ {p : Addr} {v : Value}, w.cell? p = some v → w'.cell? p = some v := fun {p v} hp => (hb.cell (World.block_lt_of_cell? w p hp)).trans hp
  exact ⟨e h.l, e h.n, e h.d0, e h.d1, e h.d2⟩
def FiveAt (w : World) (G i : Nat) (x : Ln) : Prop := w.cell? ⟨G, i * 2, none⟩ = some (.slice (some x.a) x.len x.c) ∧ w.cell? ⟨G, i * 2 + 1, none⟩ = some (.int .i64 x.n) ∧ w.cell? x.a = some (.string x.h.f0) ∧ w.cell? ⟨x.a.block, x.a.off + 1, none⟩ = some (.int .i64 x.h.f1) ∧ w.cell? ⟨x.a.block, x.a.off + 2, none⟩ = some (.string x.h.f2)
theorem LnAt.five {w : World} {G i : Nat} {x : Ln} (h : LnAt w G i x) : FiveAt w G i x := ⟨h.l, h.n, h.d0, h.d1, h.d2⟩
theorem less_ord (x y : Ln) : lnLess x y = if ordV x.h y.h ≠ 0 then decide (ordV x.h y.h < 0) else decide (x.n < y.n) := by
  have hp := ordV_pos x.h y.h
  have hl : lt31 x.h y.h = decide (ordV x.h y.h < 0) := rfl
  unfold lnLess
  rw [hl, ← hp]
  by_cases h0 : ordV x.h y.h = 0
  · rw [h0, if_neg (by simp)]; simp
  · rw [if_pos h0]
    by_cases h1 : ordV x.h y.h < 0
    · simp [h1]
    · have : ordV x.h y.h > 0 := by omega
      simp [h1, this]
set_option maxHeartbeats 4000000 in
theorem less_any {w : World} {G n cap i j : Nat} {x y : Ln} (hx : LnAt w G i x) (hy : LnAt w G j y) (hi : i < n) (hj : j < n) (hn : n ≤ 140737488351232) :
    Calls Try.prog 41 #[.slice (some ⟨G, 0, none⟩) n cap, .int .i64 (i : Int), .int .i64 (j : Int)] w fun e w' => e = .returned (.bool (lnLess x y)) ∧ Below w.heap.size w w' := by
  have HX := Aside0.mk hx
  have HY := Aside0.mk hy
  have h1 : (0 : Int) ≤ (i : Int) := by omega
  have h2 : (i : Int) < (n : Int) := by omega
  have h3 : (0 : Int) ≤ (j : Int) := by omega
  have h4 : (j : Int) < (n : Int) := by omega
  have HB := Aside0.mk (show Below w.heap.size w w.drew from ⟨rfl, rfl, rfl, Nat.le_refl _, fun _ _ => rfl⟩)
  have HXd := Aside0.mk (hx.below HB.out)
  have HYd := Aside0.mk (hy.below HB.out)
  clear hx hy
  go_enter Try.func41, Try.ntmps41
  go_wp2
  go_region_held3 (fun W' => (W'.cell? ⟨G, i * 2, none⟩ = some (.slice (some x.a) x.len x.c) ∧ W'.cell? ⟨G, i * 2 + 1, none⟩ = some (.int .i64 x.n) ∧ W'.cell? x.a = some (.string x.h.f0) ∧ W'.cell? ⟨x.a.block, x.a.off + 1, none⟩ = some (.int .i64 x.h.f1) ∧ W'.cell? ⟨x.a.block, x.a.off + 2, none⟩ = some (.string x.h.f2)) ∧ (W'.cell? ⟨G, j * 2, none⟩ = some (.slice (some y.a) y.len y.c) ∧ W'.cell? ⟨G, j * 2 + 1, none⟩ = some (.int .i64 y.n) ∧ W'.cell? y.a = some (.string y.h.f0) ∧ W'.cell? ⟨y.a.block, y.a.off + 1, none⟩ = some (.int .i64 y.h.f1) ∧ W'.cell? ⟨y.a.block, y.a.off + 2, none⟩ = some (.string y.h.f2))) (exact ⟨HXd.out.five, HYd.out.five⟩) (first
    | (go_at_call 14
       refine (order_any x.h y.h _).mono ?_
       rintro e w1 ⟨rfl, hb⟩
       have HB := Aside0.mk (HB.out.trans (hb.mono HB.out.size))
       have HXd := Aside0.mk (HXd.out.below hb)
       have HYd := Aside0.mk (HYd.out.below hb)
       clear hb))
  have HO : Aside0 (lnLess x y = if ordV x.h y.h ≠ 0 then decide (ordV x.h y.h < 0) else decide (x.n < y.n)) := ⟨less_ord x y⟩
  generalize ordV x.h y.h = o at *
  by_cases ho : o = 0
  · subst ho
    go_wp2
    rename World => W1
    have q1 := HXd.out.l
    have q2 := HXd.out.n
    have q3 := HYd.out.l
    have q4 := HYd.out.n
    go_quiet (fail)
    go_wp2
    go_ret
    refine ⟨?_, HB.out.trans ⟨rfl, rfl, rfl, Nat.le_refl _, fun _ _ => rfl⟩⟩
    show Ending.returned (.bool (decide (x.n < y.n))) = _
    rw [HO.out, if_neg (by simp)]
  · have e1 : (o != 0) = true := by simpa using ho
    have HOO := Aside0.mk ho
    clear ho
    go_wp2
    go_ret
    refine ⟨?_, HB.out⟩
    show Ending.returned (.bool (decide (o < 0))) = _
    rw [HO.out, if_pos HOO.out]
end Go.Proofs.Ytaediecdpgndjaa.M
