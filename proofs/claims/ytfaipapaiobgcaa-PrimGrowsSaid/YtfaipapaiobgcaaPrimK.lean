/- PrimGrows: the walk. -/
import Derived.Test.YtfaipapaiobgcaaPrimJ
namespace Go.Proofs.Ytfaipapaiobgcaa.M
open Go.RowKit Go.Maps Go.ChangeMaps Go.Proofs.YtfaipapaiobgcaaW.PrintWords Go.Proofs.YtfaipapaiobgcaaW.PrintLast Go.Proofs.YtfaipapaiobgcaaW.PrintMore Go.Proofs.Ytfaipapaiobgcaa.PPrimPlays
set_option linter.unusedVariables false
set_option linter.unusedSimpArgs false
/-! ### the plain side -/
abbrev AH := Bool × Int
def fG (ps : List AH) : PF := fun k => if 1 ≤ k then (ps[(k - 1).toNat]?).map fun q => (⟨true, false, 0, q.1, q.2⟩ : Pe) else none
def sureL : List AH → Int → Int
  | [], n => max 0 n
  | q :: r, n => if q.1 = true then sureL r (min n q.2) else 0
theorem sure_G (ps : List AH) (h : ps.length ≤ 4) (n : Int) : sureV (fG ps) n = sureL ps n := by
  match ps, h with
  | [], _ => rfl
  | [a], _ => rfl
  | [a, b], _ => rfl
  | [a, b, c], _ => rfl
  | [a, b, c, d], _ => rfl
theorem sure_GJ (ps : List AH) (h : ps.length ≤ 3) (n : Int) : sureV (setF (fG ps) ((ps.length : Int) + 1) zeroPe) n = sureL ps n := by
  match ps, h with
  | [], _ => rfl
  | [a], _ => rfl
  | [a, b], _ => rfl
  | [a, b, c], _ => rfl
theorem fG_at (ps : List AH) (i : Nat) (h : i < ps.length) : fG ps ((i : Int) + 1) = some ⟨true, false, 0, ps[i].1, ps[i].2⟩ := by
  unfold fG
  rw [if_pos (by omega), show ((i : Int) + 1 - 1).toNat = i by omega, List.getElem?_eq_getElem h]; rfl
theorem fG_end (ps : List AH) : fG ps ((ps.length : Int) + 1) = none := by
  unfold fG
  rw [if_pos (by omega), show ((ps.length : Int) + 1 - 1).toNat = ps.length by omega, List.getElem?_eq_none (Nat.le_refl _)]; rfl
theorem fG_set (ps : List AH) (i : Nat) (h : i < ps.length) (q : AH) : setF (fG ps) ((i : Int) + 1) ⟨true, false, 0, q.1, q.2⟩ = fG (ps.set i q) := by
  funext k
  unfold setF fG
  by_cases h1 : 1 ≤ k
  · rw [if_pos h1, if_pos h1, List.getElem?_set]
    by_cases hk : k = (i : Int) + 1
    · rw [if_pos hk, if_pos (by omega), if_pos (by omega)]; rfl
    · rw [if_neg hk, if_neg (by omega)]
  · rw [if_neg h1, if_neg h1, if_neg (by omega)]
def ins (m : Nat) : List Int := 0 :: (List.range m).map fun i : Nat => (i : Int) + 1
theorem ins_snoc (m : Nat) : ins (m + 1) = ins m ++ [(m : Int) + 1] := by unfold ins; rw [List.range_succ]; simp
theorem ins_mem (m : Nat) (k : Int) : k ∈ ins m ↔ 0 ≤ k ∧ k ≤ m := by
  unfold ins
  rw [List.mem_cons, List.mem_map]
  constructor
  · rintro (h | ⟨i, hi, h⟩)
    · omega
    · rw [List.mem_range] at hi; omega
  · intro h
    by_cases h0 : k = 0
    · exact .inl h0
    · exact .inr ⟨(k - 1).toNat, List.mem_range.2 (by omega), by omega⟩
theorem ins_len (m : Nat) : (ins m).length = m + 1 := by unfold ins; simp
theorem new_G (m : Nat) : tabF 0 0 (ins m) f0 = fG (List.replicate m (false, 0)) := by
  funext k
  unfold tabF tab1 fG
  have e : f0 k = none := rfl
  rw [e]
  by_cases h1 : 1 ≤ k ∧ k ≤ m
  · rw [if_pos ⟨(ins_mem m k).2 ⟨by omega, h1.2⟩, by omega, rfl⟩, if_pos h1.1, List.getElem?_replicate, if_pos (by omega)]
    have hm : k ∈ ins m := (ins_mem m k).2 ⟨by omega, h1.2⟩
    simp [updP, hm, zeroPe]
  · rw [if_neg (fun h => h1 ⟨by have := (ins_mem m k).1 h.1; have := h.2.1; omega, ((ins_mem m k).1 h.1).2⟩)]
    by_cases h2 : 1 ≤ k
    · rw [if_pos h2, List.getElem?_eq_none (by rw [List.length_replicate]; omega)]; rfl
    · rw [if_neg h2]; rfl
theorem sureL_zero : ∀ (l : List AH) (h : Int) (r : List AH) (n : Int), sureL (l ++ (false, h) :: r) n = 0
  | [], h, r, n => rfl
  | q :: l, h, r, n => by
    simp only [List.cons_append, sureL]
    split
    · exact sureL_zero l h r _
    · rfl
def leastL (n : Int) (l : List Int) : Int := l.foldl min n
theorem sureL_all : ∀ (l : List Int) (n : Int), sureL (l.map fun h => (true, h)) n = max 0 (leastL n l)
  | [], n => rfl
  | h :: l, n => by
    simp only [List.map_cons, sureL]
    exact sureL_all l (min n h)
theorem leastL_le : ∀ (l : List Int) (n : Int), leastL n l ≤ n
  | [], n => Int.le_refl _
  | h :: l, n => Int.le_trans (leastL_le l (min n h)) (by omega)
theorem leastL_ge : ∀ (l : List Int) (n b : Int), b ≤ n → (∀ h ∈ l, b ≤ h) → b ≤ leastL n l
  | [], n, b, hn, _ => hn
  | h :: l, n, b, hn, hl => leastL_ge l (min n h) b (by have := hl h (by simp); omega) (fun x hx => hl x (by simp [hx]))
theorem leastL_mono : ∀ (l : List Int) (a b n n' : Int), a ≤ b → n ≤ n' → leastL n (l.map fun h => max h a) ≤ leastL n' (l.map fun h => max h b)
  | [], a, b, n, n', _, h => h
  | h :: l, a, b, n, n', hab, hn => leastL_mono l a b _ _ hab (by dsimp only; omega)
/-- how much is sure, when all have told at least so much -/
def sureU (n : Int) (l : List Int) (u : Int) : Int := leastL n (l.map fun h => max h u)
theorem sureU_eq (n : Int) (l : List Int) (u : Int) (hn : 0 ≤ n) (hu : 0 ≤ u) : sureL (l.map fun h => (true, max h u)) n = sureU n l u := by
  have e : (l.map fun h => ((true, max h u) : AH)) = (l.map fun h => max h u).map fun h => (true, h) := by rw [List.map_map]; rfl
  rw [e, sureL_all]
  have := leastL_ge (l.map fun h => max h u) n 0 hn (fun h hh => by obtain ⟨x, _, rfl⟩ := List.mem_map.1 hh; omega)
  unfold sureU
  omega
theorem sureU_nn (n : Int) (l : List Int) (u : Int) (hn : 0 ≤ n) (hu : 0 ≤ u) : 0 ≤ sureU n l u := leastL_ge _ n 0 hn (fun h hh => by obtain ⟨x, _, rfl⟩ := List.mem_map.1 hh; omega)
theorem sureU_le (n : Int) (l : List Int) (u : Int) : sureU n l u ≤ n := leastL_le _ _
theorem sureU_top (n : Int) (l : List Int) (hn : n ≤ 255) : sureU n l 255 = n := by
  have h1 := sureU_le n l 255
  have h2 := leastL_ge (l.map fun h => max h 255) n n (Int.le_refl _) (fun h hh => by obtain ⟨x, _, rfl⟩ := List.mem_map.1 hh; omega)
  unfold sureU at *
  omega
/-- the state while 'has' is told -/
def psA (l : List Int) (i : Nat) : List AH := ((l.take i).map fun h => (true, h)) ++ List.replicate (l.length - i) (false, 0)
theorem psA_len (l : List Int) (i : Nat) (h : i ≤ l.length) : (psA l i).length = l.length := by unfold psA; simp; omega
theorem psA_next (l : List Int) (i : Nat) (h : i < l.length) : (psA l i)[i]? = some (false, 0) ∧ (psA l i).set i (true, l[i]) = psA l (i + 1) := by
  have e : List.replicate (l.length - i) ((false, 0) : AH) = (false, 0) :: List.replicate (l.length - (i + 1)) (false, 0) := by
    rw [← List.replicate_succ]; congr 1; omega
  have hl : ((l.take i).map fun h => ((true, h) : AH)).length = i := by simp; omega
  unfold psA
  rw [e]
  refine ⟨?_, ?_⟩
  · rw [List.getElem?_append_right (by omega), hl]; simp
  · rw [List.set_append_right _ _ (by omega), hl, List.take_succ_eq_append_getElem h, Nat.sub_self, List.set_cons_zero, List.map_append, List.append_assoc]; rfl
theorem psA_sure (l : List Int) (i : Nat) (h : i < l.length) (n : Int) : sureL (psA l i) n = 0 := by
  have e : List.replicate (l.length - i) ((false, 0) : AH) = (false, 0) :: List.replicate (l.length - (i + 1)) (false, 0) := by
    rw [← List.replicate_succ]; congr 1; omega
  unfold psA
  rw [e]
  exact sureL_zero _ _ _ _
/-- the state while all are told v, some of them already -/
def psB (l : List Int) (u v : Int) (i : Nat) : List AH := ((l.take i).map fun h => (true, max h v)) ++ ((l.drop i).map fun h => (true, max h u))
theorem psB_len (l : List Int) (u v : Int) (i : Nat) : (psB l u v i).length = l.length := by unfold psB; simp; omega
theorem psB_next (l : List Int) (u v : Int) (i : Nat) (h : i < l.length) (huv : u ≤ v) : (psB l u v i)[i]? = some (true, max l[i] u) ∧ (psB l u v i).set i (true, max (max l[i] u) v) = psB l u v (i + 1) := by
  have hl : ((l.take i).map fun h => ((true, max h v) : AH)).length = i := by simp; omega
  have e := List.drop_eq_getElem_cons h
  unfold psB
  rw [e, List.map_cons]
  refine ⟨?_, ?_⟩
  · rw [List.getElem?_append_right (by omega), hl, Nat.sub_self]; rfl
  · rw [List.set_append_right _ _ (by omega), hl, List.take_succ_eq_append_getElem h, Nat.sub_self, List.set_cons_zero, List.map_append, List.append_assoc]
    have : max (max l[i] u) v = max l[i] v := by omega
    rw [this]; rfl
theorem psB_end (l : List Int) (u v : Int) : psB l u v l.length = l.map fun h => (true, max h v) := by unfold psB; simp
theorem psB_start (l : List Int) (u v : Int) : psB l u v 0 = l.map fun h => (true, max h u) := by unfold psB; simp
theorem psA_end (l : List Int) (hl : ∀ h ∈ l, 0 ≤ h) : psA l l.length = l.map fun h => (true, max h 0) := by
  unfold psA
  simp only [List.take_length, Nat.sub_self, List.replicate_zero, List.append_nil]
  apply List.map_congr_left
  intro h hh
  have := hl h hh
  congr 1; omega
end Go.Proofs.Ytfaipapaiobgcaa.M
