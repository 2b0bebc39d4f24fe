/- The law PackTexts in plain words: what is to be proved. -/
import Derived.Test.YtifbpjkgckkalaaPPackTextsx
import Derived.Test.YtifbpjkgckkalaaMOpen
namespace Go.Proofs.Ytifbpjkgckkalaa.Pure
open Go.RowKit Go.Proofs.Ytifbpjkgckkalaa.PPackTexts Go.Proofs.Ytifbpjkgckkalaa
def PackTexts_PureU : Prop := ∀ (l0 : List Int) (a1 : ByteArray) (l2 : List Int), M.sumB (fun _ => 1) l0 ≤ 1048576 → (∀ x ∈ l0, (Lit.int .u8 x).wf = true) → a1.size ≤ 1048576 → M.sumB (fun _ => 1) l2 ≤ 1048576 → (∀ x ∈ l2, (Lit.int .u8 x).wf = true) → ∃ k, fascinelaw01_PackTexts.f k l0 a1 l2 = some true
end Go.Proofs.Ytifbpjkgckkalaa.Pure
