/- The law WordsCase in plain words: what is to be proved. -/
import Derived.Test.YtpkjfpapjcmhdaaDoorPWordsCasex
import Derived.Test.YtpkjfpapjcmhdaaDoorMOpen
namespace Go.Proofs.YtpkjfpapjcmhdaaDoor.Pure
open Go.RowKit Go.Proofs.YtpkjfpapjcmhdaaDoor.PWordsCase Go.Proofs.YtpkjfpapjcmhdaaDoor
def WordsCase_PureU : Prop := ∀ (a0 : ByteArray), a0.size ≤ 1048576 → ∃ k, fascinelaw05_WordsCase.f k a0 = some true
end Go.Proofs.YtpkjfpapjcmhdaaDoor.Pure
