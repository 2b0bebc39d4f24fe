/- The law MergeMerges in plain words: what is to be proved. -/
import Derived.Test.YtaediecdpgndjaaPMergeMergesx
import Derived.Test.YtaediecdpgndjaaMOpen
namespace Go.Proofs.Ytaediecdpgndjaa.Pure
open Go.RowKit Go.Proofs.Ytaediecdpgndjaa.PMergeMerges Go.Proofs.Ytaediecdpgndjaa
def MergeMerges_PureU : Prop := ∀ (l0 : List (List S31)) (a1 : Int), M.sumB (fun l => M.sumB (fun _ => 1) l + 1) l0 ≤ 1048576 → (Lit.int .i64 a1).wf = true → ∃ k, fascinelaw17_MergeMerges.f k l0 a1 = some true
end Go.Proofs.Ytaediecdpgndjaa.Pure
