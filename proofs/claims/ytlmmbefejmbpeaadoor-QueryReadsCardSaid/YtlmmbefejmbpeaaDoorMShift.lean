/- Queries read out of a text with blanks about it, plainly: the same, at other places. -/
import Derived.Test.YtlmmbefejmbpeaaDoorMQuery
namespace Go.Proofs.Qp
set_option linter.unusedVariables false
section
variable {Q : Type} (l : List UInt8) (mk : Int → List Q → Q) (leaf : List UInt8 → Option Q)
/-- a place, and the same place among the blanks -/
def Rp (a a' : Nat) : Prop := a ≤ l.length ∧ (a' = a + 2 ∨ (a = l.length ∧ a' = l.length + 3))
/-- such a place behind blanks -/
def Sp (a a' : Nat) : Prop := (a < l.length ∧ a' = a + 2) ∨ (a = l.length ∧ a' = l.length + 3)
variable {l}
theorem Sp.rp {a a' : Nat} (h : Sp l a a') : Rp l a a' := by
  unfold Sp at h; unfold Rp
  rcases h with ⟨h1, h2⟩ | ⟨h1, h2⟩
  · exact ⟨by omega, .inl h2⟩
  · exact ⟨by omega, .inr ⟨h1, h2⟩⟩
theorem Rp.add {a a' n : Nat} (h : Sp l a a') (hn : 0 < n) (hl : a + n ≤ l.length) : Rp l (a + n) (a' + n) := by
  rcases h with ⟨h1, rfl⟩ | ⟨rfl, rfl⟩
  · exact ⟨hl, .inl (by omega)⟩
  · omega
variable (l)
variable {l}
end
end Go.Proofs.Qp
