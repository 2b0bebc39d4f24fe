/- The law MetaPlans in plain words: what is to be proved. -/
import Derived.Test.YtkoaeiiaagipeaaPMetaPlansx
import Derived.Test.YtkoaeiiaagipeaaMOpen
namespace Go.Proofs.Ytkoaeiiaagipeaa.Pure
open Go.RowKit Go.Proofs.Ytkoaeiiaagipeaa.PMetaPlans Go.Proofs.Ytkoaeiiaagipeaa
def WF42 (x : S42) : Prop := (Lit.int .u64 x.f0).wf = true ∧ (Lit.int .u64 x.f1).wf = true ∧ (Lit.int .i64 x.f2).wf = true ∧ (x.f3.length * 8 ≤ 140737488351232 ∧ ∀ y ∈ x.f3, (Lit.int .i64 y).wf = true)
def MetaPlans_PureS : Prop := ∀ (a0_0 : Int) (l0_1 : (List S42)), (Lit.int .i64 a0_0).wf = true → (l0_1.length * 48 ≤ 140737488351232 ∧ ∀ y ∈ l0_1, WF42 y) → ∃ k, fascinelaw14_MetaPlans.f k a0_0 l0_1 = some true
end Go.Proofs.Ytkoaeiiaagipeaa.Pure
