/- The law HttpWrites in plain words: what is to be proved. -/
import Derived.Test.YtpigloohccpfiaaDoorPHttpWritesx
import Derived.Test.YtpigloohccpfiaaDoorMOpen
namespace Go.Proofs.YtpigloohccpfiaaDoor.Pure
open Go.RowKit Go.Proofs.YtpigloohccpfiaaDoor.PHttpWrites Go.Proofs.YtpigloohccpfiaaDoor
def HttpWrites_PureU : Prop := ∀ (a0 : Int) (a1 : ByteArray) (a2 : Bool) (a3 : ByteArray), (Lit.int .i64 a0).wf = true → a1.size ≤ 1048576 → a3.size ≤ 1048576 → ∃ k, fascinelaw12_HttpWrites.f k a0 a1 a2 a3 = some true
end Go.Proofs.YtpigloohccpfiaaDoor.Pure
