/- The law MergePages in plain words: what is to be proved. -/
import Derived.Test.YtaediecdpgndjaaPagesC
import Derived.Test.YtaediecdpgndjaaMOpen
namespace Go.Proofs.Ytaediecdpgndjaa.Pure
open Go.RowKit Go.Proofs.Ytaediecdpgndjaa.PMergePages Go.Proofs.Ytaediecdpgndjaa
def WF31 (x : S31) : Prop := x.f0.size ≤ 140737488351232 ∧ (Lit.int .i64 x.f1).wf = true ∧ x.f2.size ≤ 140737488351232
end Go.Proofs.Ytaediecdpgndjaa.Pure
