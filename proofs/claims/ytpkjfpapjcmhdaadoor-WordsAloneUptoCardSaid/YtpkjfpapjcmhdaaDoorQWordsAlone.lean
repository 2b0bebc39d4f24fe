/- The law WordsAlone in plain words: what is to be proved. -/
import Derived.Test.YtpkjfpapjcmhdaaDoorPWordsAlonex
import Derived.Test.YtpkjfpapjcmhdaaDoorMOpen
namespace Go.Proofs.YtpkjfpapjcmhdaaDoor.Pure
open Go.RowKit Go.Proofs.YtpkjfpapjcmhdaaDoor.PWordsAlone Go.Proofs.YtpkjfpapjcmhdaaDoor
def WordsAlone_PureU : Prop := ∀ (a0 : ByteArray), a0.size ≤ 1048576 → ∃ k, fascinelaw05_WordsAlone.f k a0 = some true
end Go.Proofs.YtpkjfpapjcmhdaaDoor.Pure
