/- The law PackRuns in plain words: what is to be proved. -/
import Derived.Test.YtifbpjkgckkalaaPPackRunsx
import Derived.Test.YtifbpjkgckkalaaMOpen
namespace Go.Proofs.Ytifbpjkgckkalaa.Pure
open Go.RowKit Go.Proofs.Ytifbpjkgckkalaa.PPackRuns Go.Proofs.Ytifbpjkgckkalaa
def PackRuns_PureU : Prop := ∀ (l0 : List ByteArray) (l1 : List Int), M.sumB (fun s => s.size + 1) l0 ≤ 1048576 → M.sumB (fun _ => 1) l1 ≤ 1048576 → (∀ x ∈ l1, (Lit.int .u64 x).wf = true) → ∃ k, fascinelaw01_PackRuns.f k l0 l1 = some true
end Go.Proofs.Ytifbpjkgckkalaa.Pure
