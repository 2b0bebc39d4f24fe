/- The law MetaStays in plain words: what is to be proved. -/
import Derived.Test.YtkoaeiiaagipeaaPMetaStaysx
import Derived.Test.YtkoaeiiaagipeaaMOpen
namespace Go.Proofs.Ytkoaeiiaagipeaa.Pure
open Go.RowKit Go.Proofs.Ytkoaeiiaagipeaa.PMetaStays Go.Proofs.Ytkoaeiiaagipeaa
def WF39 (x : S39) : Prop := (Lit.int .u8 x.f0).wf = true ∧ (Lit.int .i64 x.f1).wf = true ∧ (Lit.int .i64 x.f2).wf = true ∧ (Lit.int .u64 x.f3).wf = true
def MetaStays_PureS : Prop := ∀ (a0 : Int) (a1 : Int) (a2 : Int) (l3 : (List S39)), (Lit.int .u8 a0).wf = true → (Lit.int .u8 a1).wf = true → (Lit.int .u8 a2).wf = true → (l3.length * 32 ≤ 140737488351232 ∧ ∀ y ∈ l3, WF39 y) → ∃ k, fascinelaw14_MetaStays.f k a0 a1 a2 l3 = some true
end Go.Proofs.Ytkoaeiiaagipeaa.Pure
