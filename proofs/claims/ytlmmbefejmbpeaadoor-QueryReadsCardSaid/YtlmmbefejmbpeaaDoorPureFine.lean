/- What is read has few kids; plain facts on Parse's answer. -/
import Derived.Test.YtlmmbefejmbpeaaDoorQryR
import Derived.Test.YtlmmbefejmbpeaaDoorMShift
namespace Go.Proofs.YtlmmbefejmbpeaaDoor.M
open Go.RowKit Go.Proofs.Qp Go.Proofs.YtlmmbefejmbpeaaDoor.PQry0
set_option linter.unusedVariables false
inductive Fine : S25 → Prop
  | mk (q : S25) (h : q.f3.length ≤ 1000) (h2 : ∀ x ∈ q.f3, Fine x) : Fine q
theorem Fine.kid {q : S25} (h : Fine q) : ∀ x ∈ q.f3, Fine x := by cases h; assumption
theorem fine_leaf {b : List UInt8} {q : S25} (h : lf b = some q) : Fine q := by
  have hk : q.f3 = [] := by
    unfold lf leafV numV at h
    repeat (first | (split at h) | (injection h with h; rw [← h]) | (cases h))
  exact ⟨q, by rw [hk]; simp, by rw [hk]; simp⟩
theorem fine_mk {k : Int} {qs : List S25} (h : qs.length ≤ 1000) (h2 : ∀ x ∈ qs, Fine x) : Fine (mkQ k qs) := ⟨_, h, h2⟩
theorem fine_lst {k : Int} {qs : List S25} (h : qs.length ≤ 1000) (h2 : ∀ x ∈ qs, Fine x) : Fine (lst mkQ k qs) := by
  match qs, h, h2 with
  | [], h, h2 => exact fine_mk h h2
  | [q], h, h2 => exact h2 q (by simp)
  | _ :: _ :: _, h, h2 => exact fine_mk h h2
section
variable {l : List UInt8}
def PF (l : List UInt8) (N : Nat → Nat → Rs S25) : Prop := ∀ a o q a' o', a ≤ l.length → N a o = .ok q a' o' → Fine q
theorem snoc_fine {acc : List S25} {q : S25} (h : ∀ x ∈ acc, Fine x) (hq : Fine q) : ∀ x ∈ acc ++ [q], Fine x := by
  intro x hx
  rcases List.mem_append.1 hx with hx | hx
  · exact h x hx
  · simp at hx; rw [hx]; exact hq
theorem andLoop_fine {N : Nat → Nat → Rs S25} (hG : Goes l N) (hN : PF l N) (h1 : l.length ≤ 1000) : ∀ k acc a o q a' o', a ≤ l.length → acc.length ≤ a → (∀ x ∈ acc, Fine x) → andLoop l mkQ N k acc a o = .ok q a' o' → Fine q := by
  intro k
  induction k with
  | zero => intro acc a o q a' o' _ _ _ h; simp [andLoop] at h
  | succ k ih =>
    intro acc a o q a' o' ha hac hf h
    have g1 := skip_ge l a
    have g2 := skip_le l ha
    unfold andLoop at h
    split at h
    · simp only [Rs.ok.injEq] at h
      rw [← h.1]
      exact fine_lst (by omega) hf
    · split at h
      · rename_i q1 a1 o1 he
        obtain ⟨k1, k2, _⟩ := hG _ _ _ _ _ g2 he
        exact ih _ _ _ _ _ _ k2 (by simp; omega) (snoc_fine hf (hN _ _ _ _ _ g2 he)) h
      · cases h
theorem andV_fine {N : Nat → Nat → Rs S25} (hG : Goes l N) (hN : PF l N) (h1 : l.length ≤ 1000) : PF l (andV l mkQ N) := by
  intro a o q a' o' ha h
  unfold andV at h
  split at h
  · rename_i q1 a1 o1 he
    obtain ⟨k1, k2, _⟩ := hG _ _ _ _ _ ha he
    exact andLoop_fine hG hN h1 _ _ _ _ _ _ _ k2 (by simp; omega) (by intro x hx; simp at hx; rw [hx]; exact hN _ _ _ _ _ ha he) h
  · cases h
theorem orLoop_fine {N : Nat → Nat → Rs S25} (hG : Goes l N) (hN : PF l N) (h1 : l.length ≤ 1000) : ∀ k acc a o q a' o', a ≤ l.length → acc.length ≤ a → (∀ x ∈ acc, Fine x) → orLoop l mkQ N k acc a o = .ok q a' o' → Fine q := by
  intro k
  induction k with
  | zero => intro acc a o q a' o' _ _ _ h; simp [orLoop] at h
  | succ k ih =>
    intro acc a o q a' o' ha hac hf h
    have g1 := skip_ge l a
    unfold orLoop at h
    split at h
    · rename_i hc
      have g2 := isB_le l hc.1 (by simp)
      split at h
      · rename_i q1 a1 o1 he
        obtain ⟨k1, k2, _⟩ := hG _ _ _ _ _ g2 he
        exact ih _ _ _ _ _ _ k2 (by simp; omega) (snoc_fine hf (hN _ _ _ _ _ g2 he)) h
      · cases h
    · simp only [Rs.ok.injEq] at h
      rw [← h.1]
      exact fine_lst (by omega) hf
theorem orV_fine {N : Nat → Nat → Rs S25} (hG : Goes l N) (hN : PF l N) (h1 : l.length ≤ 1000) : PF l (orV l mkQ N) := by
  intro a o q a' o' ha h
  unfold orV at h
  split at h
  · rename_i q1 a1 o1 he
    obtain ⟨k1, k2, _⟩ := hG _ _ _ _ _ ha he
    exact orLoop_fine hG hN h1 _ _ _ _ _ _ _ k2 (by simp; omega) (by intro x hx; simp at hx; rw [hx]; exact hN _ _ _ _ _ ha he) h
  · cases h
theorem notV_fine (h1 : l.length ≤ 1000) : ∀ f, PF l (notV l mkQ lf f) := by
  intro f
  induction f with
  | zero => intro a o q a' o' _ h; simp [notV] at h
  | succ f ih =>
    have hG := notV_goes l mkQ lf leaf_nil f
    intro a o q a' o' ha h
    have g2 := skip_le l ha
    unfold notV at h
    split at h
    · rename_i hc
      have h3 := isB_le l hc.1 (by simp)
      split at h
      · cases h
      · split at h
        · rename_i q1 a1 o1 he
          simp only [Rs.ok.injEq] at h
          rw [← h.1]
          exact fine_mk (by simp) (by intro x hx; simp at hx; rw [hx]; exact ih _ _ _ _ _ h3 he)
        · cases h
    · split at h
      · split at h
        · rename_i q1 he
          simp only [Rs.ok.injEq] at h
          rw [← h.1]; exact fine_leaf he
        · cases h
      · rename_i hb
        have h3 := isB_le l (by simpa using hb : isB l (skip l a) [40] = true) (by simp)
        split at h
        · cases h
        · split at h
          · rename_i q1 a1 o1 he
            have := orV_fine (andV_goes l mkQ hG) (andV_fine hG ih h1) h1 _ _ _ _ _ h3 he
            split at h
            · simp only [Rs.ok.injEq] at h
              rw [← h.1]; exact this
            · cases h
          · cases h
end
theorem fine_zero : Fine zq := ⟨zq, by simp [zq], by simp [zq]⟩
theorem parse_fine_ (s : ByteArray) : Fine (parseS s).1 := by
  unfold parseS parseV
  split
  · exact fine_zero
  · rename_i h
    have h1 : (lt s).length ≤ 1000 := by omega
    split
    · rename_i q a o he
      split
      · exact fine_zero
      · have hG := notV_goes (lt s) mkQ lf leaf_nil ((lt s).length + 1)
        exact orV_fine (andV_goes _ mkQ hG) (andV_fine hG (notV_fine h1 _) h1) h1 _ _ _ _ _ (Nat.zero_le _) he
    · exact fine_zero
end Go.Proofs.YtlmmbefejmbpeaaDoor.M
