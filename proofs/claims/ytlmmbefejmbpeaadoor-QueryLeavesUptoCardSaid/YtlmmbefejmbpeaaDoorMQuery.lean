/- Queries read out of a text, plainly: no program. -/
namespace Go.Proofs.Qp
set_option linter.unusedVariables false
def stop (c : UInt8) : Bool := c == 32 || c == 40 || c == 41
def skip (l : List UInt8) (i : Nat) : Nat := i + ((l.drop i).takeWhile (· == 32)).length
def wordAt (l : List UInt8) (i : Nat) : List UInt8 := (l.drop i).takeWhile (fun c => !stop c)
def endB (l : List UInt8) (i : Nat) : Bool := match l[i]? with
  | none => true
  | some c => stop c
def isB (l : List UInt8) (i : Nat) (p : List UInt8) : Bool := p.isPrefixOf (l.drop i)
/-- what a reader answers: a query, the place behind it, how many are open; or the place at fault and the error -/
inductive Rs (Q : Type) where
  | ok (q : Q) (a o : Nat)
  | bad (a : Nat) (e : Int)
section
variable {Q : Type} (l : List UInt8) (mk : Int → List Q → Q) (leaf : List UInt8 → Option Q)
/-- one kid alone is itself -/
def lst (k : Int) : List Q → Q
  | [q] => q
  | qs => mk k qs
def andLoop (N : Nat → Nat → Rs Q) : Nat → List Q → Nat → Nat → Rs Q
  | 0, _, a, _ => .bad a 0
  | k + 1, acc, a, o =>
    if l.length ≤ skip l a ∨ isB l (skip l a) [41] = true ∨ (isB l (skip l a) [79, 82] = true ∧ endB l (skip l a + 2) = true) then .ok (lst mk 3 acc) (skip l a) o
    else match N (skip l a) o with
      | .ok q a' o' => andLoop N k (acc ++ [q]) a' o'
      | .bad p e => .bad p e
def andV (N : Nat → Nat → Rs Q) (a o : Nat) : Rs Q := match N a o with
  | .ok q a' o' => andLoop l mk N (l.length + 1) [q] a' o'
  | .bad p e => .bad p e
def orLoop (A : Nat → Nat → Rs Q) : Nat → List Q → Nat → Nat → Rs Q
  | 0, _, a, _ => .bad a 0
  | k + 1, acc, a, o =>
    if isB l (skip l a) [79, 82] = true ∧ endB l (skip l a + 2) = true then match A (skip l a + 2) o with
      | .ok q a' o' => orLoop A k (acc ++ [q]) a' o'
      | .bad p e => .bad p e
    else .ok (lst mk 4 acc) (skip l a) o
def orV (A : Nat → Nat → Rs Q) (a o : Nat) : Rs Q := match A a o with
  | .ok q a' o' => orLoop l mk A (l.length + 1) [q] a' o'
  | .bad p e => .bad p e
def notV : Nat → Nat → Nat → Rs Q
  | 0, a, _ => .bad a 0
  | f + 1, a, o =>
    if isB l (skip l a) [78, 79, 84] = true ∧ endB l (skip l a + 3) = true then
      if 16 < o + 1 then .bad (skip l a) 7
      else match notV f (skip l a + 3) (o + 1) with
        | .ok q a' o' => .ok (mk 5 [q]) a' (o' - 1)
        | .bad p e => .bad p e
    else if isB l (skip l a) [40] = false then
      match leaf (wordAt l (skip l a)) with
      | some q => .ok q (skip l a + (wordAt l (skip l a)).length) o
      | none => .bad (skip l a) 4
    else if 16 < o + 1 then .bad (skip l a) 7
    else match orV l mk (andV l mk (notV f)) (skip l a + 1) (o + 1) with
      | .ok q a' o' => if isB l (skip l a') [41] = true then .ok q (skip l a' + 1) (o' - 1) else .bad (skip l a') 4
      | .bad p e => .bad p e
/-- the query of a text; the place at fault; the error -/
def parseV (zero : Q) : Q × Nat × Int :=
  if 512 < l.length then (zero, 0, 2)
  else match orV l mk (andV l mk (notV l mk leaf (l.length + 1))) 0 0 with
    | .ok q a _ => if skip l a < l.length then (zero, skip l a, 4) else (q, 0, 0)
    | .bad p e => (zero, p, e)
/-! what is read goes on -/
theorem skip_ge (i : Nat) : i ≤ skip l i := by unfold skip; omega
theorem skip_le {i : Nat} (h : i ≤ l.length) : skip l i ≤ l.length := by
  unfold skip
  have := List.takeWhile_prefix (p := fun c : UInt8 => c == 32) (l := l.drop i)
  have h2 := this.length_le
  rw [List.length_drop] at h2
  omega
theorem isB_le {i : Nat} {p : List UInt8} (h : isB l i p = true) (hp : p ≠ []) : i + p.length ≤ l.length := by
  unfold isB at h
  have h2 := (List.isPrefixOf_iff_prefix.1 h).length_le
  rw [List.length_drop] at h2
  have : 0 < p.length := List.length_pos_iff.2 hp
  omega
theorem word_le {i : Nat} (h : i ≤ l.length) : i + (wordAt l i).length ≤ l.length := by
  unfold wordAt
  have := (List.takeWhile_prefix (p := fun c : UInt8 => !stop c) (l := l.drop i)).length_le
  rw [List.length_drop] at this
  omega
/-- a reader that goes on -/
def Goes (N : Nat → Nat → Rs Q) : Prop := ∀ a o q a' o', a ≤ l.length → N a o = .ok q a' o' → a < a' ∧ a' ≤ l.length ∧ o' = o
theorem andLoop_goes {N : Nat → Nat → Rs Q} (hN : Goes l N) : ∀ k acc a o q a' o', a ≤ l.length → andLoop l mk N k acc a o = .ok q a' o' → a ≤ a' ∧ a' ≤ l.length ∧ o' = o := by
  intro k
  induction k with
  | zero => intro acc a o q a' o' _ h; simp [andLoop] at h
  | succ k ih =>
    intro acc a o q a' o' ha h
    have h1 := skip_ge l a
    have h2 := skip_le l ha
    unfold andLoop at h
    split at h
    · simp only [Rs.ok.injEq] at h
      obtain ⟨_, rfl, rfl⟩ := h
      exact ⟨h1, h2, rfl⟩
    · split at h
      · rename_i q1 a1 o1 he
        obtain ⟨g1, g2, rfl⟩ := hN _ _ _ _ _ h2 he
        obtain ⟨k1, k2, k3⟩ := ih _ _ _ _ _ _ g2 h
        exact ⟨by omega, k2, k3⟩
      · cases h
theorem andV_goes {N : Nat → Nat → Rs Q} (hN : Goes l N) : Goes l (andV l mk N) := by
  intro a o q a' o' ha h
  unfold andV at h
  split at h
  · rename_i q1 a1 o1 he
    obtain ⟨g1, g2, rfl⟩ := hN _ _ _ _ _ ha he
    obtain ⟨k1, k2, k3⟩ := andLoop_goes l mk hN _ _ _ _ _ _ _ g2 h
    exact ⟨by omega, k2, k3⟩
  · cases h
theorem orLoop_goes {A : Nat → Nat → Rs Q} (hA : Goes l A) : ∀ k acc a o q a' o', a ≤ l.length → orLoop l mk A k acc a o = .ok q a' o' → a ≤ a' ∧ a' ≤ l.length ∧ o' = o := by
  intro k
  induction k with
  | zero => intro acc a o q a' o' _ h; simp [orLoop] at h
  | succ k ih =>
    intro acc a o q a' o' ha h
    have h1 := skip_ge l a
    have h2 := skip_le l ha
    unfold orLoop at h
    split at h
    · rename_i hc
      have h3 := isB_le l hc.1 (by simp)
      split at h
      · rename_i q1 a1 o1 he
        obtain ⟨g1, g2, rfl⟩ := hA _ _ _ _ _ h3 he
        obtain ⟨k1, k2, k3⟩ := ih _ _ _ _ _ _ g2 h
        exact ⟨by omega, k2, k3⟩
      · cases h
    · simp only [Rs.ok.injEq] at h
      obtain ⟨_, rfl, rfl⟩ := h
      exact ⟨h1, h2, rfl⟩
theorem orV_goes {A : Nat → Nat → Rs Q} (hA : Goes l A) : Goes l (orV l mk A) := by
  intro a o q a' o' ha h
  unfold orV at h
  split at h
  · rename_i q1 a1 o1 he
    obtain ⟨g1, g2, rfl⟩ := hA _ _ _ _ _ ha he
    obtain ⟨k1, k2, k3⟩ := orLoop_goes l mk hA _ _ _ _ _ _ _ g2 h
    exact ⟨by omega, k2, k3⟩
  · cases h
theorem notV_goes (hl : leaf [] = none) : ∀ f, Goes l (notV l mk leaf f) := by
  intro f
  induction f with
  | zero => intro a o q a' o' _ h; simp [notV] at h
  | succ f ih =>
    intro a o q a' o' ha h
    have h1 := skip_ge l a
    have h2 := skip_le l ha
    unfold notV at h
    split at h
    · rename_i hc
      have h3 := isB_le l hc.1 (by simp)
      split at h
      · cases h
      · split at h
        · rename_i q1 a1 o1 he
          obtain ⟨g1, g2, rfl⟩ := ih _ _ _ _ _ h3 he
          simp only [Rs.ok.injEq] at h
          obtain ⟨_, rfl, rfl⟩ := h
          exact ⟨by omega, g2, by omega⟩
        · cases h
    · split at h
      · split at h
        · rename_i q1 he
          simp only [Rs.ok.injEq] at h
          obtain ⟨_, rfl, rfl⟩ := h
          refine ⟨?_, word_le l h2, rfl⟩
          have : wordAt l (skip l a) ≠ [] := fun e => by rw [e, hl] at he; cases he
          have := List.length_pos_iff.2 this
          omega
        · cases h
      · rename_i hb
        have h3 := isB_le l (by simpa using hb : isB l (skip l a) [40] = true) (by simp)
        split at h
        · cases h
        · split at h
          · rename_i q1 a1 o1 he
            obtain ⟨g1, g2, rfl⟩ := orV_goes l mk (andV_goes l mk ih) _ _ _ _ _ h3 he
            have h4 := skip_ge l a1
            split at h
            · rename_i hc2
              have h5 := isB_le l hc2 (by simp)
              simp only [Rs.ok.injEq] at h
              obtain ⟨_, rfl, rfl⟩ := h
              exact ⟨by omega, h5, by omega⟩
            · cases h
          · cases h
end
end Go.Proofs.Qp
