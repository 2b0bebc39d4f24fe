/- The law QueryPlaces in plain words: what is to be proved. -/
import Derived.Test.YtlmmbefejmbpeaaDoorPQueryPlacesx
import Derived.Test.YtlmmbefejmbpeaaDoorMOpen
namespace Go.Proofs.YtlmmbefejmbpeaaDoor.Pure
open Go.RowKit Go.Proofs.YtlmmbefejmbpeaaDoor.PQueryPlaces Go.Proofs.YtlmmbefejmbpeaaDoor Go.Proofs.YtlmmbefejmbpeaaDoor.PQry0
def QueryPlaces_PureU : Prop := ∀ (a0 : ByteArray), ∃ k, fascinelaw06_QueryPlaces.f k a0 = some true
end Go.Proofs.YtlmmbefejmbpeaaDoor.Pure
