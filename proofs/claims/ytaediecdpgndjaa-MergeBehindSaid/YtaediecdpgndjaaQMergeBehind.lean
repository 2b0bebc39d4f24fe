/- The law MergeBehind in plain words: what is to be proved. -/
import Derived.Test.YtaediecdpgndjaaPMergeBehindx
import Derived.Test.YtaediecdpgndjaaMOpen
namespace Go.Proofs.Ytaediecdpgndjaa.Pure
open Go.RowKit Go.Proofs.Ytaediecdpgndjaa.PMergeBehind Go.Proofs.Ytaediecdpgndjaa
def WF31 (x : S31) : Prop := x.f0.size ≤ 140737488351232 ∧ (Lit.int .i64 x.f1).wf = true ∧ x.f2.size ≤ 140737488351232
def MergeBehind_PureS : Prop := ∀ (l0 : (List S31)) (a1 : Int) (a2 : ByteArray), (l0.length * 40 ≤ 140737488351232 ∧ ∀ y ∈ l0, WF31 y) → (Lit.int .i64 a1).wf = true → a2.size ≤ 140737488351232 → ∃ k, fascinelaw17_MergeBehind.f k l0 a1 a2 = some true
end Go.Proofs.Ytaediecdpgndjaa.Pure
