/- The law MatchTerms in plain words: what is to be proved. -/
import Derived.Test.YtpkjfpapjcmhdaaDoorPMatchTermsx
import Derived.Test.YtpkjfpapjcmhdaaDoorMOpen
namespace Go.Proofs.YtpkjfpapjcmhdaaDoor.Pure
open Go.RowKit Go.Proofs.YtpkjfpapjcmhdaaDoor.PMatchTerms Go.Proofs.YtpkjfpapjcmhdaaDoor
def MatchTerms_PureU : Prop := ∀ (a0_0 : ByteArray) (a0_1 : Int) (a0_2 : ByteArray) (a1 : ByteArray), (Lit.int .i64 a0_1).wf = true → ∃ k, fascinelaw07_MatchTerms.f k a0_0 a0_1 a0_2 a1 = some true
end Go.Proofs.YtpkjfpapjcmhdaaDoor.Pure
