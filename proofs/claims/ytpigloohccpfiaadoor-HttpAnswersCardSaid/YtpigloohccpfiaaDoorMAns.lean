/- Plain facts on answers: where the head ends, its lines. -/
import Derived.Test.YtpigloohccpfiaaDoorMReq
namespace Go.Proofs.YtpigloohccpfiaaDoor.M
open Go.RowKit Go.Lib Go.Proofs.YtpigloohccpfiaaDoor.G Go.Proofs.YtpigloohccpfiaaDoorW.PrintWords Go.Proofs.YtpigloohccpfiaaDoorW.PrintLast Go.Proofs.YtpigloohccpfiaaDoorW.PrintMore
set_option linter.unusedVariables false
set_option linter.unusedSimpArgs false

theorem idx_skip (sub : Tx) : ∀ (l s : Tx) (n : Nat), (13 : UInt8) ∉ l → Lib.index s (13 :: sub) = (n : Int) → Lib.index (l ++ s) (13 :: sub) = ((l.length + n : Nat) : Int)
  | [], s, n, _, h => by simpa using h
  | x :: l, s, n, hx, h => by
    have h1 : x ≠ 13 := fun e => hx (by rw [e]; simp)
    have h2 : (13 : UInt8) ∉ l := fun e => hx (by simp [e])
    have ih := idx_skip sub l s n h2 h
    rw [List.cons_append, Lib.index, if_neg (by simp [Ne.symm h1]), ih, if_neg (by simp; omega)]
    simp only [List.length_cons]; omega
theorem idx_here (sub s : Tx) : Lib.index ((13 :: sub) ++ s) (13 :: sub) = 0 := by
  rw [List.cons_append, Lib.index, if_pos]
  simp
/-- the end of the head: the first empty line -/
theorem idx_head : ∀ (lns : List Tx) (rest : Tx), (∀ l ∈ lns, (13 : UInt8) ∉ l ∧ l ≠ []) → lns ≠ [] → Lib.index (jl lns ++ 13 :: 10 :: rest) [13, 10, 13, 10] = (((jl lns).length - 2 : Nat) : Int)
  | [], _, _, h => absurd rfl h
  | [l], rest, hl, _ => by
    have h := idx_skip [10, 13, 10] l (13 :: 10 :: 13 :: 10 :: rest) 0 (hl l (by simp)).1 (idx_here [10, 13, 10] rest)
    simp only [jl, List.append_assoc, List.cons_append, List.nil_append, List.length_append, List.length_cons, List.length_nil]
    rw [h]
    congr 1
  | l :: l2 :: r, rest, hl, _ => by
    have ih := idx_head (l2 :: r) rest (fun x hx => hl x (by simp [hx])) (by simp)
    have hl2 := hl l2 (by simp)
    have hge : 2 ≤ (jl (l2 :: r)).length := by simp only [jl, List.length_append, List.length_cons]; omega
    have e : jl (l :: l2 :: r) ++ 13 :: 10 :: rest = l ++ 13 :: 10 :: (jl (l2 :: r) ++ 13 :: 10 :: rest) := by simp [jl]
    have hlen : (jl (l :: l2 :: r)).length = l.length + 2 + (jl (l2 :: r)).length := by
      rw [jl, List.length_append, List.length_cons, List.length_cons]; omega
    obtain ⟨x, t, hx, hx13⟩ : ∃ x t, jl (l2 :: r) ++ 13 :: 10 :: rest = x :: t ∧ x ≠ 13 := by
      cases hq : l2 with
      | nil => exact absurd hq hl2.2
      | cons a b => exact ⟨a, _, rfl, fun e => hl2.1 (by rw [hq, e]; simp)⟩
    have h2 : Lib.index (13 :: 10 :: (jl (l2 :: r) ++ 13 :: 10 :: rest)) [13, 10, 13, 10] = ((2 + ((jl (l2 :: r)).length - 2) : Nat) : Int) := by
      rw [hx] at ih ⊢
      generalize (jl (l2 :: r)).length - 2 = m at ih ⊢
      have hA : Lib.index (10 :: x :: t) [13, 10, 13, 10] = ((1 + m : Nat) : Int) := by
        rw [Lib.index, if_neg (by simp), ih, if_neg (by clear ih; rw [beq_iff_eq]; omega)]; omega
      rw [Lib.index, if_neg (by simp [Ne.symm hx13]), hA, if_neg (by clear ih hA; rw [beq_iff_eq]; omega)]; omega
    rw [e, idx_skip [10, 13, 10] l _ _ (hl l (by simp)).1 h2, hlen]
    congr 1; omega
/-- lines with a CRLF between them -/
def jn : List Tx → Tx
  | [] => []
  | [l] => l
  | l :: l2 :: r => l ++ 13 :: 10 :: jn (l2 :: r)
theorem jl_jn : ∀ lns : List Tx, lns ≠ [] → jl lns = jn lns ++ [13, 10]
  | [], h => absurd rfl h
  | [l], _ => by simp [jl, jn]
  | l :: l2 :: r, _ => by
    rw [jl, jl_jn (l2 :: r) (by simp), jn]; simp
theorem ne13 {l : Tx} (h : (13 : UInt8) ∉ l) : ∀ sub : Tx, Lib.index l (13 :: sub) = -1 := by
  intro sub
  induction l with
  | nil => simp [Lib.index]
  | cons x l ih =>
    have h1 : x ≠ 13 := fun e => h (by rw [e]; simp)
    have h2 : (13 : UInt8) ∉ l := fun e => h (by simp [e])
    rw [Lib.index, if_neg (by simp [Ne.symm h1]), ih h2]; simp
/-- strings.Split by CRLF gives the lines back -/
theorem split_jn : ∀ lns : List Tx, lns ≠ [] → (∀ l ∈ lns, (13 : UInt8) ∉ l) → Lib.splitB (ba [13, 10]) 0 (Lib.countB (ba (jn lns)) (ba [13, 10])) (ba (jn lns)) = lns.map ba
  | [], h, _ => absurd rfl h
  | [l], _, hl => by
    have h1 : Lib.indexB (ba l) (ba [13, 10]) = -1 := ne13 (hl l (by simp)) [10]
    rw [jn, Lib.splitB_miss _ _ _ _ h1]; rfl
  | l :: l2 :: r, _, hl => by
    have ih := split_jn (l2 :: r) (by simp) (fun x hx => hl x (by simp [hx]))
    have h1 : Lib.indexB (ba (jn (l :: l2 :: r))) (ba [13, 10]) = ((l.length : Nat) : Int) := by
      show Lib.index (l ++ 13 :: 10 :: jn (l2 :: r)) [13, 10] = _
      have := idx_skip [10] l (13 :: 10 :: jn (l2 :: r)) 0 (hl l (by simp)) (idx_here [10] _)
      simpa using this
    have e : (ba (jn (l :: l2 :: r))).extract (l.length + (ba [13, 10]).size) (ba (jn (l :: l2 :: r))).size = ba (jn (l2 :: r)) := by
      rw [ba_ext, ba_size, ba_size, show ([13, 10] : Tx).length = 2 from rfl]
      congr 1
      rw [jn, ← List.drop_drop, List.drop_left]
      simp only [List.drop_succ_cons, List.drop_zero]
      exact List.take_of_length_le (by simp only [List.length_append, List.length_cons]; omega)
    have e2 : (ba (jn (l :: l2 :: r))).extract 0 l.length = ba l := by
      rw [ba_ext, List.drop_zero, Nat.sub_zero, jn, List.take_left]
    rw [Lib.countB_hit _ _ l.length (by rw [ba_size]; simp) h1, e, Nat.add_comm, Lib.splitB_hit _ _ _ _ l.length h1, e, List.map_cons, ← ih]
    simp [e2]
end Go.Proofs.YtpigloohccpfiaaDoor.M
