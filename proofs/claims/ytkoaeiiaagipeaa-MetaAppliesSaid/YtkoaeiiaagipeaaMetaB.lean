/- The reference's Apply: its contracts, its words. -/
import Derived.WalkKit
import Derived.Deep.QuietTactic
import Derived.Deep.RegionHeld3
import Derived.BigQuiet
import Derived.Test.YtkoaeiiaagipeaaMetaA
namespace Go.Proofs.Ytkoaeiiaagipeaa.M
open Go.RowKit Go.Proofs.YtkoaeiiaagipeaaW.PrintWords Go.Proofs.YtkoaeiiaagipeaaW.PrintLast Go.Proofs.YtkoaeiiaagipeaaW.PrintMore Go.Proofs.Ytkoaeiiaagipeaa.PMetaApplies Go.Proofs.Ytkoaeiiaagipeaa.Pure
set_option linter.unusedVariables false
set_option linter.unusedSimpArgs false
abbrev tabV (n : Int) (A : Option Addr) (m c : Nat) : Value := .agg #[.int .i64 n, .slice A m c]
abbrev cmdV (kd sd nd rv : Int) : Value := .agg #[.int .u8 kd, .int .i64 sd, .int .i64 nd, .int .u64 rv]
theorem rform_c {w : World} {n : Int} {A : Option Addr} {c : Nat} {l : List S42} (hr : Kd.C k42 w A l.length l) (hc : l.length ≤ c) (hs : ∀ s ∈ l, RowB s) : Calls Try.prog 20 #[tabV n A l.length c] w fun e w' => e = .returned (.bool (tabOk n l)) ∧ Below w.heap.size w w' := by
  obtain ⟨K, hK⟩ := refForm_ev n l (Kd.C_max hr) (fun s h => (hs s h).1)
  exact fascineref14_Form.calls K n A c l _ w hr hc (hK K (Nat.le_refl _))
theorem in_c {w : World} {a b d x : Int} {A : Option Addr} {c : Nat} {l : List Int} (hr : Kd.C (Kd.int .i64) w A l.length l) (hc : l.length ≤ c) (hl : l.length ≤ 1000) : Calls Try.prog 49 #[.agg #[.int .u64 a, .int .u64 b, .int .i64 d, .slice A l.length c], .int .i64 x] w fun e w' => e = .returned (.bool (decide (x ∈ l))) ∧ Below w.heap.size w w' := by
  obtain ⟨K, hK⟩ := in_ev a b d x l (by omega)
  exact fascineref14_In.calls K a b d A c l x _ w hr hc (hK K (Nat.le_refl _))
def RPost (w0 w : World) (n : Int) (r : List S42) (ok : Bool) (e : Ending) (w' : World) : Prop :=
  ∃ A c, e = .returned (.tuple #[tabV n A r.length c, .bool ok]) ∧ r.length ≤ c ∧ (∀ W, Below w0.heap.size w0 W → (∀ k, w.heap.size ≤ k → k < w'.heap.size → W.heap[k]? = w'.heap[k]?) → Kd.C k42 W A r.length r) ∧ Below w.heap.size w w'
theorem lt_of_same {a b : World} {k : Nat} (h : a.heap[k]? = b.heap[k]?) (hk : k < b.heap.size) : k < a.heap.size := by
  rcases Nat.lt_or_ge k a.heap.size with h1 | h1
  · exact h1
  · rw [Array.getElem?_eq_none h1, Array.getElem?_eq_getElem hk] at h; cases h
/-- the three boxes: the table, the command, the result -/
structure Bx (w w1 : World) (b : Nat) (n : Int) (A : Option Addr) (m c : Nat) (kd sd nd rv : Int) : Prop where
  h2 : w1.heap[b]? = some (.cells #[.int .i64 n, .slice A m c] 24 (0, 0))
  h3 : w1.heap[b + 1]? = some (.cells #[.int .u8 kd, .int .i64 sd, .int .i64 nd, .int .u64 rv] 39 (0, 0))
  h4 : w1.heap[b + 1 + 1]? = some (.cells #[.int .i64 0, .slice none 0 0] 24 (0, 0))
  hb : Below b w w1
  hw : w.heap.size = b
theorem Bx.start (w : World) (n : Int) (A : Option Addr) (m c : Nat) (kd sd nd rv : Int) : Bx w (((w.alloc (.cells #[.int .i64 n, .slice A m c] 24)).alloc (.cells #[.int .u8 kd, .int .i64 sd, .int .i64 nd, .int .u64 rv] 39)).alloc (.cells #[.int .i64 0, .slice none 0 0] 24)) w.heap.size n A m c kd sd nd rv := by
  refine ⟨?_, ?_, ?_, below_alloc (below_alloc (below_alloc (Below.refl _ _) _) _) _, rfl⟩
  · exact (Below.heap_alloc _ _ _ (by simp; omega)).trans ((Below.heap_alloc _ _ _ (by simp)).trans (heap_alloc_new w _))
  · have := heap_alloc_new (w.alloc (.cells #[.int .i64 n, .slice A m c] 24)) (.cells #[.int .u8 kd, .int .i64 sd, .int .i64 nd, .int .u64 rv] 39)
    exact (Below.heap_alloc _ _ _ (by simp)).trans (by simpa using this)
  · have := heap_alloc_new ((w.alloc (.cells #[.int .i64 n, .slice A m c] 24)).alloc (.cells #[.int .u8 kd, .int .i64 sd, .int .i64 nd, .int .u64 rv] 39)) (.cells #[.int .i64 0, .slice none 0 0] 24)
    simpa using this
theorem Bx.old {w w1 w2 : World} {b : Nat} {n : Int} {A : Option Addr} {m c : Nat} {kd sd nd rv : Int} (h : Bx w w1 b n A m c kd sd nd rv) (hb : Below w1.heap.size w1 w2) : Bx w w2 b n A m c kd sd nd rv :=
  ⟨(hb.block _ (blk_lt h.h2)).trans h.h2, (hb.block _ (blk_lt h.h3)).trans h.h3, (hb.block _ (blk_lt h.h4)).trans h.h4, h.hb.trans (hb.mono (by have := h.hb.size; have := h.hw; omega)), h.hw⟩
set_option maxHeartbeats 8000000 in
set_option maxRecDepth 100000 in
theorem rapply_no {w0 w : World} {n : Int} {A : Option Addr} {c : Nat} {l : List S42} {kd sd nd rv : Int} (hr0 : Kd.C k42 w0 A l.length l) (hw0 : Below w0.heap.size w0 w) (hc : l.length ≤ c) (hs : ∀ s ∈ l, RowB s)
    (hno : ¬ (tabOk n l = true ∧ 0 ≤ sd ∧ sd < (l.length : Int) ∧ 0 ≤ nd ∧ nd < n)) : Calls Try.prog 23 #[tabV n A l.length c, cmdV kd sd nd rv] w (RPost w0 w n l false) := by
  have hr := Kd.C_below hr0 hw0
  have HR0 := Aside0.mk hr0
  have HW0 := Aside0.mk hw0
  clear hr0 hw0
  have HR := Aside0.mk hr
  have HC := Aside0.mk hc
  have HS := Aside0.mk hs
  have HN := Aside0.mk hno
  clear hr hc hs hno
  go_enter Try.func23, Try.ntmps23
  go_upto_region 1 with (fail)
  have HB := Aside0.mk (Bx.start w n A l.length c kd sd nd rv)
  generalize (((w.alloc (.cells #[.int .i64 n, .slice A l.length c] 24)).alloc (.cells #[.int .u8 kd, .int .i64 sd, .int .i64 nd, .int .u64 rv] 39)).alloc (.cells #[.int .i64 0, .slice none 0 0] 24)) = w1 at *
  generalize w.heap.size = b at *
  have x0 : w1.cell? ⟨b, 0, none⟩ = some (.int .i64 n) := blk_cell HB.out.h2 0
  have x1 : w1.cell? ⟨b, 1, none⟩ = some (.slice A l.length c) := blk_cell HB.out.h2 1
  have HRB : Aside0 (Kd.C k42 w1 A l.length l) := ⟨Kd.C_below HR.out (by have := HB.out.hb; rw [← HB.out.hw] at this; exact this)⟩
  go_wp2_with fail
  refine (rform_c HRB.out HC.out HS.out).mono ?_
  rintro e w2 ⟨rfl, hb2⟩
  have HB := Aside0.mk (HB.out.old hb2)
  clear x0 x1 hb2
  have x0 : w2.cell? ⟨b, 0, none⟩ = some (.int .i64 n) := blk_cell HB.out.h2 0
  have x1 : w2.cell? ⟨b, 1, none⟩ = some (.slice A l.length c) := blk_cell HB.out.h2 1
  have y1 : w2.cell? ⟨b + 1, 1, none⟩ = some (.int .i64 sd) := blk_cell HB.out.h3 1
  have y2 : w2.cell? ⟨b + 1, 2, none⟩ = some (.int .i64 nd) := blk_cell HB.out.h3 2
  have z0 : w2.cell? ⟨b + 1 + 1, 0, none⟩ = some (.int .i64 0) := blk_cell HB.out.h4 0
  have z1 : w2.cell? ⟨b + 1 + 1, 1, none⟩ = some (.slice none 0 0) := blk_cell HB.out.h4 1
  have z2 : w2.frozen? ⟨b + 1 + 1, 0, none⟩ = false := blk_frozen HB.out.h4 0
  have z3 : w2.frozen? ⟨b + 1 + 1, 1, none⟩ = false := blk_frozen HB.out.h4 1
  have FIN : Aside0 (RPost w0 w n l false (.returned (.tuple #[tabV n A l.length c, .bool false])) ((w2.setCell ⟨b + 1 + 1, 0, none⟩ (.int .i64 n)).setCell ⟨b + 1 + 1, 1, none⟩ (.slice A l.length c))) := ⟨by
    have hbb : Below b w ((w2.setCell ⟨b + 1 + 1, 0, none⟩ (.int .i64 n)).setCell ⟨b + 1 + 1, 1, none⟩ (.slice A l.length c)) := (HB.out.hb.setCell (p := ⟨b + 1 + 1, 0, none⟩) (by simp; omega) _).setCell (p := ⟨b + 1 + 1, 1, none⟩) (by simp; omega) _
    have hbb : Below w.heap.size w ((w2.setCell ⟨b + 1 + 1, 0, none⟩ (.int .i64 n)).setCell ⟨b + 1 + 1, 1, none⟩ (.slice A l.length c)) := by rw [HB.out.hw]; exact hbb
    exact ⟨A, c, rfl, HC.out, fun W hW _ => Kd.C_below HR0.out hW, hbb⟩⟩
  cases hT : tabOk n l with
  | false =>
    go_wp2
    exact bodyPost_ret (v := .tuple #[tabV n A l.length c, .bool false]) (by simp [results, Try.results23, go_sem, z0, z1, z2, z3]) rfl FIN.out
  | true =>
    rw [hT] at HN
    by_cases s0 : sd < 0
    · go_wp2
      exact bodyPost_ret (v := .tuple #[tabV n A l.length c, .bool false]) (by simp [results, Try.results23, go_sem, z0, z1, z2, z3]) rfl FIN.out
    · by_cases s1 : (l.length : Int) ≤ sd
      · go_wp2
        exact bodyPost_ret (v := .tuple #[tabV n A l.length c, .bool false]) (by simp [results, Try.results23, go_sem, z0, z1, z2, z3]) rfl FIN.out
      · by_cases n0 : nd < 0
        · go_wp2
          exact bodyPost_ret (v := .tuple #[tabV n A l.length c, .bool false]) (by simp [results, Try.results23, go_sem, z0, z1, z2, z3]) rfl FIN.out
        · by_cases n1 : n ≤ nd
          · go_wp2
            exact bodyPost_ret (v := .tuple #[tabV n A l.length c, .bool false]) (by simp [results, Try.results23, go_sem, z0, z1, z2, z3]) rfl FIN.out
          · exact absurd ⟨rfl, by omega, by omega, by omega, by omega⟩ HN.out
end Go.Proofs.Ytkoaeiiaagipeaa.M
