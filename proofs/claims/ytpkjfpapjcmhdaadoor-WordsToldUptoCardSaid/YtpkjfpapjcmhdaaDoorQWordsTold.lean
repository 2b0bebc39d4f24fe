/- The law WordsTold in plain words: what is to be proved. -/
import Derived.Test.YtpkjfpapjcmhdaaDoorPWordsToldx
import Derived.Test.YtpkjfpapjcmhdaaDoorMOpen
namespace Go.Proofs.YtpkjfpapjcmhdaaDoor.Pure
open Go.RowKit Go.Proofs.YtpkjfpapjcmhdaaDoor.PWordsTold Go.Proofs.YtpkjfpapjcmhdaaDoor
def WordsTold_PureU : Prop := ∀ (a0 : ByteArray), a0.size ≤ 1048576 → ∃ k, fascinelaw05_WordsTold.f k a0 = some true
end Go.Proofs.YtpkjfpapjcmhdaaDoor.Pure
