/- The law MetaNews in plain words: what is to be proved. -/
import Derived.Test.YtkoaeiiaagipeaaPMetaNewsx
import Derived.Test.YtkoaeiiaagipeaaMOpen
namespace Go.Proofs.Ytkoaeiiaagipeaa.Pure
open Go.RowKit Go.Proofs.Ytkoaeiiaagipeaa.PMetaNews Go.Proofs.Ytkoaeiiaagipeaa
def WF42 (x : S42) : Prop := (Lit.int .u64 x.f0).wf = true ∧ (Lit.int .u64 x.f1).wf = true ∧ (Lit.int .i64 x.f2).wf = true ∧ (x.f3.length * 8 ≤ 140737488351232 ∧ ∀ y ∈ x.f3, (Lit.int .i64 y).wf = true)
def MetaNews_PureS : Prop := ∀ (a0 : Int) (a1 : Int) (a2 : Int) (a3_0 : Int) (l3_1 : (List S42)), (Lit.int .i64 a0).wf = true → (Lit.int .i64 a1).wf = true → (Lit.int .i64 a2).wf = true → (Lit.int .i64 a3_0).wf = true → (l3_1.length * 48 ≤ 140737488351232 ∧ ∀ y ∈ l3_1, WF42 y) → ∃ k, fascinelaw14_MetaNews.f k a0 a1 a2 a3_0 l3_1 = some true
end Go.Proofs.Ytkoaeiiaagipeaa.Pure
