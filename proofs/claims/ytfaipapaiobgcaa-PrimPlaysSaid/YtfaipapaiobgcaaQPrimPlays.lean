/- The law PrimPlays in plain words: what is to be proved. -/
import Derived.Test.YtfaipapaiobgcaaPrimO
import Derived.Test.YtfaipapaiobgcaaMOpen
namespace Go.Proofs.Ytfaipapaiobgcaa.Pure
open Go.RowKit Go.Proofs.Ytfaipapaiobgcaa.PPrimPlays Go.Proofs.Ytfaipapaiobgcaa
def WF42 (x : S42) : Prop := (Lit.int .u8 x.f0).wf = true ∧ (Lit.int .u64 x.f1).wf = true ∧ (x.f2.length * 8 ≤ 140737488351232 ∧ ∀ y ∈ x.f2, (Lit.int .i64 y).wf = true) ∧ (Lit.int .i64 x.f3).wf = true ∧ (Lit.int .i64 x.f4).wf = true
end Go.Proofs.Ytfaipapaiobgcaa.Pure
