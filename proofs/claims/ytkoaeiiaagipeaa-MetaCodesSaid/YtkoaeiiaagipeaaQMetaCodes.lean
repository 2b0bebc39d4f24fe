/- The law MetaCodes in plain words: what is to be proved. -/
import Derived.Test.YtkoaeiiaagipeaaPMetaCodesx
import Derived.Test.YtkoaeiiaagipeaaMOpen
namespace Go.Proofs.Ytkoaeiiaagipeaa.Pure
open Go.RowKit Go.Proofs.Ytkoaeiiaagipeaa.PMetaCodes Go.Proofs.Ytkoaeiiaagipeaa
def MetaCodes_PureS : Prop := ∀ (a0_0 : Int) (a0_1 : Int) (a0_2 : Int) (a0_3 : Int) (l1 : (List Int)), (Lit.int .u8 a0_0).wf = true → (Lit.int .i64 a0_1).wf = true → (Lit.int .i64 a0_2).wf = true → (Lit.int .u64 a0_3).wf = true → l1.length * 1 ≤ 140737488351232 → (l1.length ≤ maxLen ∧ ∀ y ∈ l1, (Lit.int .u8 y).wf = true) → ∃ k, fascinelaw14_MetaCodes.f k a0_0 a0_1 a0_2 a0_3 l1 = some true
end Go.Proofs.Ytkoaeiiaagipeaa.Pure
