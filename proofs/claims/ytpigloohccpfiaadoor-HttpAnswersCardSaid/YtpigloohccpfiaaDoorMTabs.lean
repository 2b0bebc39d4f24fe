/- What the library's own variables hold, as the program lays them; and it stays so. -/
import Derived.Test.YtpigloohccpfiaaDoorShelf
import Derived.Test.YtpigloohccpfiaaDoorMErr
import Derived.Lib.LaidTab
import Derived.Below
namespace Go.Proofs.YtpigloohccpfiaaDoor.G
open Go.RowKit Go.Proofs.YtpigloohccpfiaaDoorW.PrintWords Go.Proofs.YtpigloohccpfiaaDoorW.PrintLast Go.Proofs.YtpigloohccpfiaaDoorW.PrintMore
set_option linter.unusedVariables false

def tabs (w : World) : Prop :=
  Lib.Utf8Tabs (Tryd.lays230_ren.g 3) (Tryd.lays230_ren.g 4) w ∧ (∃ m, w.cell? ⟨Tryd.lays146_ren.g 1, 0, none⟩ = some (.int .i64 m)) ∧
  Lib.TabIs Tryd.prog w "internal/strconv.uint64pow10" .u64 Lib.pow10Tab ∧ (∃ tp p, w.var? Tryd.prog "strconv.ErrSyntax" = some #[.iface tp p]) ∧ ∃ tp p, w.var? Tryd.prog "strconv.ErrRange" = some #[.iface tp p]
theorem var_below {P : Program} {w w' : World} {n : String} {cs : Array Value} (h : w.var? P n = some cs) (hb : Below w.heap.size w w') : w'.var? P n = some cs := by
  unfold World.var? at h ⊢
  cases hg : P.globalNamed n with
  | none => simp [hg] at h
  | some g =>
    simp only [hg, Option.bind_some] at h ⊢
    have hlt : g < w.heap.size := by
      rcases Nat.lt_or_ge g w.heap.size with h' | h'
      · exact h'
      · simp [Array.getElem?_eq_none h'] at h
    rw [hb.block g hlt]
    exact h
theorem tabs_below {w w' : World} (h : tabs w) (hb : Below w.heap.size w w') : tabs w' := by
  obtain ⟨h1, ⟨m, h2⟩, h3, ⟨t4, p4, h4⟩, ⟨t5, p5, h5⟩⟩ := h
  refine ⟨Go.Proofs.Utf8Tabs_below h1 hb, ⟨m, ?_⟩, var_below h3 hb, ⟨t4, p4, var_below h4 hb⟩, ⟨t5, p5, var_below h5 hb⟩⟩
  exact (hb.cell (World.block_lt_of_cell? w _ h2)).trans h2
end Go.Proofs.YtpigloohccpfiaaDoor.G
