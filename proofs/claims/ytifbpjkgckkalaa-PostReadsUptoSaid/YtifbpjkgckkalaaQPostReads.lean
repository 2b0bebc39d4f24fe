/- The law PostReads in plain words: what is to be proved. -/
import Derived.Test.YtifbpjkgckkalaaPPostReadsx
import Derived.Test.YtifbpjkgckkalaaMOpen
namespace Go.Proofs.Ytifbpjkgckkalaa.Pure
open Go.RowKit Go.Proofs.Ytifbpjkgckkalaa.PPostReads Go.Proofs.Ytifbpjkgckkalaa
def PostReads_PureU : Prop := ∀ (l0 : List Int) (a1 : Int) (a2 : Int), M.sumB (fun _ => 1) l0 ≤ 1048576 → (∀ x ∈ l0, (Lit.int .u8 x).wf = true) → (Lit.int .i64 a1).wf = true → (Lit.int .i64 a2).wf = true → ∃ k, fascinelaw08_PostReads.f k l0 a1 a2 = some true
end Go.Proofs.Ytifbpjkgckkalaa.Pure
