/- The law QueryReads in plain words: what is to be proved. -/
import Derived.Test.YtlmmbefejmbpeaaDoorPQueryReadsx
import Derived.Test.YtlmmbefejmbpeaaDoorMOpen
namespace Go.Proofs.YtlmmbefejmbpeaaDoor.Pure
open Go.RowKit Go.Proofs.YtlmmbefejmbpeaaDoor.PQueryReads Go.Proofs.YtlmmbefejmbpeaaDoor Go.Proofs.YtlmmbefejmbpeaaDoor.PQry0
def QueryReads_PureU : Prop := ∀ (a0 : ByteArray), ∃ k, fascinelaw06_QueryReads.f k a0 = some true
end Go.Proofs.YtlmmbefejmbpeaaDoor.Pure
