/- The law MatchOrder in plain words: what is to be proved. -/
import Derived.Test.YtpkjfpapjcmhdaaDoorPMatchOrderx
import Derived.Test.YtpkjfpapjcmhdaaDoorMOpen
namespace Go.Proofs.YtpkjfpapjcmhdaaDoor.Pure
open Go.RowKit Go.Proofs.YtpkjfpapjcmhdaaDoor.PMatchOrder Go.Proofs.YtpkjfpapjcmhdaaDoor
def MatchOrder_PureU : Prop := ∀ (a0_0 : ByteArray) (a0_1 : Int) (a0_2 : ByteArray) (a1_0 : ByteArray) (a1_1 : Int) (a1_2 : ByteArray) (a2_0 : ByteArray) (a2_1 : Int) (a2_2 : ByteArray), a0_0.size ≤ 1048576 → (Lit.int .i64 a0_1).wf = true → a0_2.size ≤ 1048576 → a1_0.size ≤ 1048576 → (Lit.int .i64 a1_1).wf = true → a1_2.size ≤ 1048576 → a2_0.size ≤ 1048576 → (Lit.int .i64 a2_1).wf = true → a2_2.size ≤ 1048576 → ∃ k, fascinelaw07_MatchOrder.f k a0_0 a0_1 a0_2 a1_0 a1_1 a1_2 a2_0 a2_1 a2_2 = some true
end Go.Proofs.YtpkjfpapjcmhdaaDoor.Pure
