/- The law WordsJoin in plain words: what is to be proved. -/
import Derived.Test.YtpkjfpapjcmhdaaDoorPWordsJoinx
import Derived.Test.YtpkjfpapjcmhdaaDoorMOpen
namespace Go.Proofs.YtpkjfpapjcmhdaaDoor.Pure
open Go.RowKit Go.Proofs.YtpkjfpapjcmhdaaDoor.PWordsJoin Go.Proofs.YtpkjfpapjcmhdaaDoor
def WordsJoin_PureU : Prop := ∀ (a0 : ByteArray) (a1 : ByteArray), a0.size ≤ 1048576 → a1.size ≤ 1048576 → ∃ k, fascinelaw05_WordsJoin.f k a0 a1 = some true
end Go.Proofs.YtpkjfpapjcmhdaaDoor.Pure
