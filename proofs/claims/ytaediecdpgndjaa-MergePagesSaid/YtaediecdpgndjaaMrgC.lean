/- The row of lines: swapping two. -/
import Derived.Deep.RegionLaw
import Derived.RegionTactic
import Derived.Laws.NewBlocks
import Derived.Test.YtaediecdpgndjaaMrgB
namespace Go.Proofs.Ytaediecdpgndjaa.M
open Go.RowKit Go.Proofs.Mg Go.Proofs.YtaediecdpgndjaaW.PrintWords Go.Proofs.YtaediecdpgndjaaW.PrintLast Go.Proofs.YtaediecdpgndjaaW.PrintMore Go.Proofs.Ytaediecdpgndjaa.PMrg0
set_option linter.unusedVariables false
set_option linter.unusedSimpArgs false
/-- what was there, but for S, is as it was -/
structure Kp (S : Nat → Prop) (w w' : World) : Prop where
  os : w'.os = w.os
  tape : w'.tape = w.tape
  output : w'.output = w.output
  size : w.heap.size ≤ w'.heap.size
  block : ∀ k, k < w.heap.size → ¬ S k → w'.heap[k]? = w.heap[k]?
theorem Kp.refl (S : Nat → Prop) (w : World) : Kp S w w := ⟨rfl, rfl, rfl, Nat.le_refl _, fun _ _ _ => rfl⟩
theorem Kp.trans {S : Nat → Prop} {a b c : World} (h : Kp S a b) (k : Kp S b c) : Kp S a c :=
  ⟨k.os.trans h.os, k.tape.trans h.tape, k.output.trans h.output, Nat.le_trans h.size k.size, fun i hi hs => (k.block i (Nat.lt_of_lt_of_le hi h.size) hs).trans (h.block i hi hs)⟩
theorem Kp.drewN {S : Nat → Prop} {a w : World} (h : Kp S a w) (n : Nat) : Kp S a (w.drewN n) := ⟨h.os, h.tape, h.output, h.size, h.block⟩
theorem Kp.drew {S : Nat → Prop} {a w : World} (h : Kp S a w) : Kp S a w.drew := ⟨h.os, h.tape, h.output, h.size, h.block⟩
theorem Kp.alloc {S : Nat → Prop} {a w : World} (h : Kp S a w) (o : Obj) : Kp S a (w.alloc o) :=
  h.trans ⟨rfl, rfl, rfl, by simp, fun k hk _ => Below.heap_alloc w o k hk⟩
theorem Kp.setCell {S : Nat → Prop} {a w : World} (h : Kp S a w) {p : Addr} (hp : S p.block) (u : Value) : Kp S a (w.setCell p u) :=
  h.trans ⟨rfl, rfl, rfl, by simp, fun k _ hs => Below.heap_setCell w p u k (fun e => hs (e ▸ hp))⟩
theorem Kp.mono {S S' : Nat → Prop} {a w : World} (h : Kp S a w) (hs : ∀ k, S k → S' k) : Kp S' a w := ⟨h.os, h.tape, h.output, h.size, fun k hk hn => h.block k hk (fun e => hn (hs k e))⟩
theorem Kp.below {S : Nat → Prop} {a w : World} (h : Kp S a w) {B : Nat} (hs : ∀ k, k < B → ¬ S k) (hB : B ≤ a.heap.size) : Below B a w := ⟨h.os, h.tape, h.output, h.size, fun k hk => h.block k (by omega) (hs k hk)⟩
theorem Kp.of_below {S : Nat → Prop} {a w : World} (h : Below a.heap.size a w) : Kp S a w := ⟨h.os, h.tape, h.output, h.size, fun k hk _ => h.block k hk⟩
def hdrV (x : Ln) : Value := .slice (some x.a) x.len x.c
/-- the row's first n cells' pairs -/
structure Row (w : World) (G cap n : Nat) (g : Nat → Ln) : Prop where
  bl : ∃ cs, w.heap[G]? = some (.cells cs 46 (0, 0)) ∧ (n ≤ cap ∧ cs.size = cap * 2 ∧ cap ≤ maxLen) ∧ ∀ i, i < n → cs[i * 2]? = some (hdrV (g i)) ∧ cs[i * 2 + 1]? = some (.int .i64 (g i).n)
theorem Row.cell {w : World} {G cap n : Nat} {g : Nat → Ln} (h : Row w G cap n g) (i : Nat) (hi : i < n) : w.cell? ⟨G, i * 2, none⟩ = some (hdrV (g i)) ∧ w.cell? ⟨G, i * 2 + 1, none⟩ = some (.int .i64 (g i).n) ∧ w.frozen? ⟨G, i * 2, none⟩ = false ∧ w.frozen? ⟨G, i * 2 + 1, none⟩ = false := by
  obtain ⟨cs, h1, h2, h3⟩ := h.bl
  exact ⟨(blk_cell h1 _).trans (h3 i hi).1, (blk_cell h1 _).trans (h3 i hi).2, blk_frozen h1 _, blk_frozen h1 _⟩
theorem Row.lt {w : World} {G cap n : Nat} {g : Nat → Ln} (h : Row w G cap n g) : G < w.heap.size := by obtain ⟨cs, h1, _⟩ := h.bl; exact blk_lt h1
theorem Row.old {w w' : World} {G cap n : Nat} {g : Nat → Ln} (h : Row w G cap n g) (e : w'.heap[G]? = w.heap[G]?) : Row w' G cap n g := by
  obtain ⟨cs, h1, h2⟩ := h.bl
  exact ⟨cs, e.trans h1, h2⟩
theorem Row.swap {w : World} {G cap n : Nat} {g : Nat → Ln} (h : Row w G cap n g) (i j : Nat) (hi : i < n) (hj : j < n) :
    Row ((((w.setCell ⟨G, i * 2, none⟩ (hdrV (g j))).setCell ⟨G, i * 2 + 1, none⟩ (.int .i64 (g j).n)).setCell ⟨G, j * 2, none⟩ (hdrV (g i))).setCell ⟨G, j * 2 + 1, none⟩ (.int .i64 (g i).n)) G cap n (sw g i j) := by
  obtain ⟨cs, h1, h2, h3⟩ := h.bl
  refine ⟨_, blk_set (blk_set (blk_set (blk_set h1 _ _) _ _) _ _) _ _, by simp [h2], fun k hk => ?_⟩
  have h4 := h3 k hk
  simp only [Array.getElem?_setIfInBounds, Array.size_setIfInBounds]
  unfold sw
  by_cases a1 : k = i
  · subst a1
    rw [if_pos rfl]
    by_cases a2 : k = j
    · subst a2
      simp; omega
    · have n1 : ¬ (j * 2 + 1 = k * 2) := by omega
      have n2 : ¬ (j * 2 = k * 2) := by omega
      have n3 : ¬ (j * 2 + 1 = k * 2 + 1) := by omega
      have n4 : ¬ (j * 2 = k * 2 + 1) := by omega
      have n5 : ¬ (k * 2 + 1 = k * 2) := by omega
      rw [if_neg n1, if_neg n2, if_neg n5, if_pos rfl, if_pos (by omega), if_neg n3, if_neg n4, if_pos rfl, if_pos (by omega)]
      exact ⟨rfl, rfl⟩
  · rw [if_neg a1]
    have n5 : ¬ (i * 2 + 1 = k * 2) := by omega
    have n6 : ¬ (i * 2 = k * 2) := by omega
    have n7 : ¬ (i * 2 + 1 = k * 2 + 1) := by omega
    have n8 : ¬ (i * 2 = k * 2 + 1) := by omega
    by_cases a2 : k = j
    · subst a2
      rw [if_pos rfl, if_neg (by omega), if_pos rfl, if_pos (by omega), if_pos rfl, if_pos (by omega)]
      exact ⟨rfl, rfl⟩
    · have n1 : ¬ (j * 2 + 1 = k * 2) := by omega
      have n2 : ¬ (j * 2 = k * 2) := by omega
      have n3 : ¬ (j * 2 + 1 = k * 2 + 1) := by omega
      have n4 : ¬ (j * 2 = k * 2 + 1) := by omega
      rw [if_neg a2, if_neg n1, if_neg n2, if_neg n5, if_neg n6, if_neg n3, if_neg n4, if_neg n7, if_neg n8]
      exact h4
theorem Row.drew {w : World} {G cap n : Nat} {g : Nat → Ln} (h : Row w G cap n g) : Row w.drew G cap n g := ⟨h.bl⟩
theorem Row.eq {w : World} {G cap n : Nat} {g g' : Nat → Ln} (h : Row w G cap n g) (e : ∀ k, k < n → g' k = g k) : Row w G cap n g' := by
  obtain ⟨cs, h1, h2, h3⟩ := h.bl
  exact ⟨cs, h1, h2, fun k hk => by rw [e k hk]; exact h3 k hk⟩
set_option maxHeartbeats 4000000 in
theorem swap_any {w : World} {G n cap i j : Nat} {g : Nat → Ln} (h : Row w G cap n g) (hi : i < n) (hj : j < n) (hn : n ≤ 140737488351232) :
    Calls Try.prog 44 #[.slice (some ⟨G, 0, none⟩) n cap, .int .i64 (i : Int), .int .i64 (j : Int)] w fun e w' => e = .returned (.tuple #[]) ∧ Row w' G cap n (sw g i j) ∧ Kp (fun k => k = G) w w' := by
  have HR := Aside0.mk h
  have hG := h.lt
  have h1 : (0 : Int) ≤ (i : Int) := by omega
  have h2 : (i : Int) < (n : Int) := by omega
  have h3 : (0 : Int) ≤ (j : Int) := by omega
  have h4 : (j : Int) < (n : Int) := by omega
  obtain ⟨c1, c2, f1, f2⟩ := h.cell i hi
  obtain ⟨c3, c4, f3, f4⟩ := h.cell j hj
  unfold hdrV at c1 c3
  clear h
  by_cases hij : i = j
  · subst hij
    go_enter Try.func44, Try.ntmps44
    go_wp2
    go_region
    go_end0
    exact ⟨rfl, (HR.out.swap i i hi hi).drew, ((((((Kp.refl (fun k => k = G) w).setCell (p := ⟨G, i * 2, none⟩) rfl _).setCell (p := ⟨G, i * 2 + 1, none⟩) rfl _).setCell (p := ⟨G, i * 2, none⟩) rfl _).setCell (p := ⟨G, i * 2 + 1, none⟩) rfl _)).drew⟩
  · have n1 : ¬ (j * 2 = i * 2) := by omega
    have n2 : ¬ (i * 2 = j * 2) := by omega
    have n3 : ¬ (j * 2 = i * 2 + 1) := by omega
    have n4 : ¬ (i * 2 + 1 = j * 2) := by omega
    have n5 : ¬ (j * 2 + 1 = i * 2) := by omega
    have n6 : ¬ (i * 2 = j * 2 + 1) := by omega
    go_enter Try.func44, Try.ntmps44
    go_wp2
    go_region
    go_end0
    exact ⟨rfl, (HR.out.swap i j hi hj).drew, ((((((Kp.refl (fun k => k = G) w).setCell (p := ⟨G, i * 2, none⟩) rfl _).setCell (p := ⟨G, i * 2 + 1, none⟩) rfl _).setCell (p := ⟨G, j * 2, none⟩) rfl _).setCell (p := ⟨G, j * 2 + 1, none⟩) rfl _)).drew⟩
end Go.Proofs.Ytaediecdpgndjaa.M
