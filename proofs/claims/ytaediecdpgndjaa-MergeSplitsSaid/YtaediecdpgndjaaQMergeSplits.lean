/- The law MergeSplits in plain words: what is to be proved. -/
import Derived.Test.YtaediecdpgndjaaPMergeSplitsx
import Derived.Test.YtaediecdpgndjaaMOpen
namespace Go.Proofs.Ytaediecdpgndjaa.Pure
open Go.RowKit Go.Proofs.Ytaediecdpgndjaa.PMergeSplits Go.Proofs.Ytaediecdpgndjaa
def WF31 (x : S31) : Prop := x.f0.size ≤ 140737488351232 ∧ (Lit.int .i64 x.f1).wf = true ∧ x.f2.size ≤ 140737488351232
def MergeSplits_PureS : Prop := ∀ (l0 : (List S31)) (l1 : (List Int)), (l0.length * 40 ≤ 140737488351232 ∧ ∀ y ∈ l0, WF31 y) → (l1.length * 1 ≤ 140737488351232 ∧ ∀ y ∈ l1, (Lit.int .u8 y).wf = true) → ∃ k, fascinelaw17_MergeSplits.f k l0 l1 = some true
end Go.Proofs.Ytaediecdpgndjaa.Pure
