/- The law QueryDeep in plain words: what is to be proved. -/
import Derived.Test.YtlmmbefejmbpeaaDoorPQueryDeepx
import Derived.Test.YtlmmbefejmbpeaaDoorMOpen
namespace Go.Proofs.YtlmmbefejmbpeaaDoor.Pure
open Go.RowKit Go.Proofs.YtlmmbefejmbpeaaDoor.PQueryDeep Go.Proofs.YtlmmbefejmbpeaaDoor Go.Proofs.YtlmmbefejmbpeaaDoor.PQry0
def QueryDeep_PureU : Prop := ∀ (a0 : Int) (a1 : Bool), (Lit.int .u8 a0).wf = true → ∃ k, fascinelaw06_QueryDeep.f k a0 a1 = some true
end Go.Proofs.YtlmmbefejmbpeaaDoor.Pure
