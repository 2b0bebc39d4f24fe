/- The law HttpAnswers in plain words: what is to be proved. -/
import Derived.Test.YtpigloohccpfiaaDoorPHttpAnswersx
import Derived.Test.YtpigloohccpfiaaDoorMOpen
namespace Go.Proofs.YtpigloohccpfiaaDoor.Pure
open Go.RowKit Go.Proofs.YtpigloohccpfiaaDoor.PHttpAnswers Go.Proofs.YtpigloohccpfiaaDoor
def HttpAnswers_PureU : Prop := ∀ (a0 : ByteArray), ∃ k, fascinelaw12_HttpAnswers.f k a0 = some true
end Go.Proofs.YtpigloohccpfiaaDoor.Pure
