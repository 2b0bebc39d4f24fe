/- The row of lines: one more is put on. -/
import Derived.Deep.AppendLies
import Derived.Test.YtaediecdpgndjaaMrgJ
namespace Go.Proofs.Ytaediecdpgndjaa.M
open Go.RowKit Go.Proofs.Mg Go.Proofs.YtaediecdpgndjaaW.PrintWords Go.Proofs.YtaediecdpgndjaaW.PrintLast Go.Proofs.YtaediecdpgndjaaW.PrintMore Go.Proofs.Ytaediecdpgndjaa.PMrg0
set_option linter.unusedVariables false
set_option linter.unusedSimpArgs false
def rows (g : Nat → Ln) : Nat → List Value
  | 0 => []
  | n + 1 => rows g n ++ [hdrV (g n), .int .i64 (g n).n]
theorem rows_len (g : Nat → Ln) (n : Nat) : (rows g n).length = n * 2 := by
  induction n with
  | zero => rfl
  | succ n ih => simp [rows, ih]; omega
theorem rows_at (g : Nat → Ln) {n i : Nat} (hi : i < n) : (rows g n)[i * 2]? = some (hdrV (g i)) ∧ (rows g n)[i * 2 + 1]? = some (.int .i64 (g i).n) := by
  induction n with
  | zero => omega
  | succ n ih =>
    unfold rows
    by_cases h : i < n
    · rw [List.getElem?_append_left (by rw [rows_len]; omega), List.getElem?_append_left (by rw [rows_len]; omega)]
      exact ih h
    · have : i = n := by omega
      subst this
      rw [List.getElem?_append_right (by rw [rows_len]; omega), List.getElem?_append_right (by rw [rows_len]; omega), rows_len]
      simp
theorem rows_take {g : Nat → Ln} {cs : Array Value} (n : Nat) (h : ∀ i, i < n → cs[i * 2]? = some (hdrV (g i)) ∧ cs[i * 2 + 1]? = some (.int .i64 (g i).n)) : cs.toList.take (n * 2) = rows g n := by
  induction n with
  | zero => simp [rows]
  | succ n ih =>
    have h1 := h n (by omega)
    unfold rows
    rw [← ih (fun i hi => h i (by omega))]
    obtain ⟨a1, b1⟩ := Array.getElem?_eq_some_iff.1 h1.1
    obtain ⟨a2, b2⟩ := Array.getElem?_eq_some_iff.1 h1.2
    rw [show (n + 1) * 2 = n * 2 + 1 + 1 by omega, List.take_succ_eq_append_getElem (by simpa using a2), List.take_succ_eq_append_getElem (by simpa using a1)]
    simp [b1, b2]
theorem rows_eq {g g' : Nat → Ln} (n : Nat) (h : ∀ i, i < n → g' i = g i) : rows g' n = rows g n := by
  induction n with
  | zero => rfl
  | succ n ih => unfold rows; rw [ih (fun i hi => h i (by omega)), h n (by omega)]
theorem Row.own {w : World} {G cap n : Nat} {g : Nat → Ln} (h : Row w G cap n g) : w.ownsRow 0 46 2 (.slice (some ⟨G, 0, none⟩) n cap) n (rows g n) := by
  obtain ⟨cs, h1, ⟨h2, h3, h4⟩, h5⟩ := h.bl
  exact ⟨rows_len g n, .inr ⟨G, cap, cs, rfl, Nat.zero_le _, h1, h2, h4, h3, rows_take n h5⟩⟩
theorem Row.of_own {w : World} {G cap n : Nat} {g : Nat → Ln} (h : w.ownsRow 0 46 2 (.slice (some ⟨G, 0, none⟩) n cap) n (rows g n)) : Row w G cap n g := by
  rcases h.2 with ⟨h0, _⟩ | ⟨G', cap', cs, he, _, h1, h2, h4, h3, h5⟩
  · cases h0
  · obtain ⟨⟨rfl⟩, rfl⟩ : G' = G ∧ cap' = cap := by
      simp only [Value.slice.injEq, Option.some.injEq, Addr.mk.injEq, and_true] at he
      exact ⟨he.1.symm, he.2.2.symm⟩
    refine ⟨cs, h1, ⟨h2, h3, h4⟩, fun i hi => ?_⟩
    have := rows_at g hi
    rw [← h5, List.getElem?_take, List.getElem?_take, if_pos (by omega), if_pos (by omega)] at this
    simpa using this
theorem info46 : (Try.prog.info? 46).map (fun i => (i.zero, i.size, i.bytes)) = some (some (.agg #[.slice none 0 0, .int .i64 0]), 2, 32) := by kernel_rfl
def updN (g : Nat → Ln) (n : Nat) (x : Ln) : Nat → Ln := fun i => if i = n then x else g i
theorem rows_upd (g : Nat → Ln) (n : Nat) (x : Ln) : rows g n ++ [hdrV x, .int .i64 x.n] = rows (updN g n x) (n + 1) := by
  show _ = rows (updN g n x) n ++ [hdrV (updN g n x n), .int .i64 (updN g n x n).n]
  rw [rows_eq (g' := updN g n x) n (fun i hi => by unfold updN; rw [if_neg (by omega)])]
  unfold updN
  rw [if_pos rfl]
end Go.Proofs.Ytaediecdpgndjaa.M
