/- What the library's errors are, as values; a cut of a row beside a block. -/
import Derived.Test.YtpigloohccpfiaaDoorWMore
import Derived.Laws.IdiomStrings
namespace Go.Proofs.YtpigloohccpfiaaDoor.M
open Go.RowKit Go.Proofs.YtpigloohccpfiaaDoorW.PrintWords Go.Proofs.YtpigloohccpfiaaDoorW.PrintLast Go.Proofs.YtpigloohccpfiaaDoorW.PrintMore
set_option linter.unusedVariables false
set_option linter.unusedSimpArgs false

/-- an error's value: none is nil; some is one that is not nil -/
def ErrV (r : Option Int) (v : Value) : Prop := (r = none ∧ v = .nilIface) ∨ (r.isSome = true ∧ ∃ t p, v = .iface t (.pointer (some p)))
theorem ErrV.nil {v : Value} (h : ErrV none v) : v = .nilIface := by
  rcases h with ⟨_, h⟩ | ⟨h, _⟩
  · exact h
  · cases h
theorem ErrV.one {c : Int} {v : Value} (h : ErrV (some c) v) : ∃ t p, v = .iface t (.pointer (some p)) := by
  rcases h with ⟨h, _⟩ | ⟨_, h⟩
  · cases h
  · exact h
/-- a cut of a row lies where the row lies: not in another block -/
theorem far_cut {A A1 : Option Addr} {n c g m N k : Nat} (h : some g ≠ (Value.slice A n c).ownBlock) (hA : A1 = if c = N then A else A.map (·.add k)) : ∀ ad, A1 = some ad → 0 < m → ad.block ≠ g := by
  intro ad he _ hb
  subst hA
  cases A with
  | none => split at he <;> cases he
  | some a =>
    split at he
    · obtain rfl := Option.some.inj he
      exact h (by simp [Value.ownBlock, hb])
    · obtain rfl := Option.some.inj he
      refine h ?_
      have : (a.add k).block = a.block := by unfold Addr.add; split <;> rfl
      rw [this] at hb
      simp [Value.ownBlock, hb]
end Go.Proofs.YtpigloohccpfiaaDoor.M
