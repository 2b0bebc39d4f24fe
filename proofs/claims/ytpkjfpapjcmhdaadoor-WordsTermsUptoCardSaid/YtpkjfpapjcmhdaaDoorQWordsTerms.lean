/- The law WordsTerms in plain words: what is to be proved. -/
import Derived.Test.YtpkjfpapjcmhdaaDoorPWordsTermsx
import Derived.Test.YtpkjfpapjcmhdaaDoorMOpen
namespace Go.Proofs.YtpkjfpapjcmhdaaDoor.Pure
open Go.RowKit Go.Proofs.YtpkjfpapjcmhdaaDoor.PWordsTerms Go.Proofs.YtpkjfpapjcmhdaaDoor
def WordsTerms_PureU : Prop := ∀ (a0 : ByteArray), a0.size ≤ 1048576 → ∃ k, fascinelaw05_WordsTerms.f k a0 = some true
end Go.Proofs.YtpkjfpapjcmhdaaDoor.Pure
