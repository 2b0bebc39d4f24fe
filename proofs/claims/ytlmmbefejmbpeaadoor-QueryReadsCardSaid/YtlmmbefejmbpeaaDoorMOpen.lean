/- What stands in memory as data, told as the walks want it: whole numbers, texts, slices; and how great it may be. -/
import Derived.Test.YtlmmbefejmbpeaaDoorRows
import Derived.Test.YtlmmbefejmbpeaaDoorWMore
import Derived.Deep.Slices
import Derived.ChangeArms
import Derived.ChangeSlices
import Derived.SizedLaws
namespace Go.Proofs.YtlmmbefejmbpeaaDoor.M
open Go.RowKit Go.ChangeShapes Go.WideShapes Go.Deep Go.Proofs.YtlmmbefejmbpeaaDoorW.PrintWords Go.Proofs.YtlmmbefejmbpeaaDoorW.PrintLast Go.Proofs.YtlmmbefejmbpeaaDoorW.PrintMore
set_option linter.unusedVariables false

def VSl {α : Type} (V : (H : Type) → α → DataW H → Prop) (H : Type) (xs : List α) (dd : DataW H) : Prop :=
  xs.length ≤ maxLen ∧ ((xs = [] ∧ dd = .nil) ∨ ∃ elems spare, dd = .slice elems spare ∧ elems.length = xs.length ∧ ∀ (i : Nat) (a : α) (y : DataW H), xs[i]? = some a → elems[i]? = some y → V H a y)

/-! ### how great it may be -/
theorem VSl.all {α : Type} {V : (H : Type) → α → DataW H → Prop} {H : Type} {xs : List α} {dd : DataW H} {R : α → Prop} (hR : ∀ (a : α) (y : DataW H), V H a y → R a) (h : VSl V H xs dd) : xs.length ≤ maxLen ∧ ∀ x ∈ xs, R x := by
  refine ⟨h.1, fun x hx => ?_⟩
  rcases h.2 with ⟨rfl, rfl⟩ | ⟨es, sp, rfl, hl, hv⟩
  · simp at hx
  · obtain ⟨i, hi⟩ := List.getElem?_of_mem hx
    have hil : i < es.length := by rw [hl]; exact (List.getElem?_eq_some_iff.1 hi).1
    exact hR x es[i] (hv i x es[i] hi (List.getElem?_eq_getElem hil))
end Go.Proofs.YtlmmbefejmbpeaaDoor.M
