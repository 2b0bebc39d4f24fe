/- The law MetaApplies in plain words: what is to be proved. -/
import Derived.Test.YtkoaeiiaagipeaaMetaE
import Derived.Test.YtkoaeiiaagipeaaMOpen
namespace Go.Proofs.Ytkoaeiiaagipeaa.Pure
open Go.RowKit Go.Proofs.Ytkoaeiiaagipeaa.PMetaApplies Go.Proofs.Ytkoaeiiaagipeaa
def WF42 (x : S42) : Prop := (Lit.int .u64 x.f0).wf = true ∧ (Lit.int .u64 x.f1).wf = true ∧ (Lit.int .i64 x.f2).wf = true ∧ (x.f3.length * 8 ≤ 140737488351232 ∧ ∀ y ∈ x.f3, (Lit.int .i64 y).wf = true)
def WF39 (x : S39) : Prop := (Lit.int .u8 x.f0).wf = true ∧ (Lit.int .i64 x.f1).wf = true ∧ (Lit.int .i64 x.f2).wf = true ∧ (Lit.int .u64 x.f3).wf = true
end Go.Proofs.Ytkoaeiiaagipeaa.Pure
