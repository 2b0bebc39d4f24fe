/- Plain facts on whole numbers of 64 bits. -/
import Derived.Laws.BitsLemmas
import Derived.RowKit
import Derived.Test.YtlmmbefejmbpeaaDoorWMore
namespace Go.Proofs.YtlmmbefejmbpeaaDoor.M
open Go.RowKit Go.Proofs.YtlmmbefejmbpeaaDoorW.PrintWords Go.Proofs.YtlmmbefejmbpeaaDoorW.PrintLast Go.Proofs.YtlmmbefejmbpeaaDoorW.PrintMore
set_option linter.unusedVariables false
set_option linter.unusedSimpArgs false

theorem w64 {x : Int} (h0 : -9223372036854775808 ≤ x) (h1 : x ≤ 9223372036854775807) : wrap64 x = x := by unfold wrap64; omega
end Go.Proofs.YtlmmbefejmbpeaaDoor.M
