/- What the library's own variables hold, as the program lays them; and it stays so. -/
import Derived.Test.YtlmmbefejmbpeaaDoorShelf
import Derived.Lib.LaidTab
import Derived.Below
import Derived.RowKit
import Derived.Test.YtlmmbefejmbpeaaDoorWWords
import Derived.Test.YtlmmbefejmbpeaaDoorWLast
import Derived.Test.YtlmmbefejmbpeaaDoorWMore
namespace Go.Proofs.YtlmmbefejmbpeaaDoor.G
open Go.RowKit Go.Proofs.YtlmmbefejmbpeaaDoorW.PrintWords Go.Proofs.YtlmmbefejmbpeaaDoorW.PrintLast Go.Proofs.YtlmmbefejmbpeaaDoorW.PrintMore
set_option linter.unusedVariables false

def tabs (w : World) : Prop :=
  Lib.Utf8Tabs (Tryd.lays197_ren.g 3) (Tryd.lays197_ren.g 4) w ∧  Lib.TabIs Tryd.prog w "internal/strconv.uint64pow10" .u64 Lib.pow10Tab ∧ (∃ tp p, w.var? Tryd.prog "strconv.ErrSyntax" = some #[.iface tp p]) ∧ ∃ tp p, w.var? Tryd.prog "strconv.ErrRange" = some #[.iface tp p]
theorem var_below {P : Program} {w w' : World} {n : String} {cs : Array Value} (h : w.var? P n = some cs) (hb : Below w.heap.size w w') : w'.var? P n = some cs := by
  unfold World.var? at h ⊢
  cases hg : P.globalNamed n with
  | none => simp [hg] at h
  | some g =>
    simp only [hg, Option.bind_some] at h ⊢
    have hlt : g < w.heap.size := by
      rcases Nat.lt_or_ge g w.heap.size with h' | h'
      · exact h'
      · simp [Array.getElem?_eq_none h'] at h
    rw [hb.block g hlt]
    exact h
theorem tabs_below {w w' : World} (h : tabs w) (hb : Below w.heap.size w w') : tabs w' := by
  obtain ⟨h1, h3, ⟨t4, p4, h4⟩, ⟨t5, p5, h5⟩⟩ := h
  exact ⟨Go.Proofs.Utf8Tabs_below h1 hb, var_below h3 hb, ⟨t4, p4, var_below h4 hb⟩, ⟨t5, p5, var_below h5 hb⟩⟩
end Go.Proofs.YtlmmbefejmbpeaaDoor.G
