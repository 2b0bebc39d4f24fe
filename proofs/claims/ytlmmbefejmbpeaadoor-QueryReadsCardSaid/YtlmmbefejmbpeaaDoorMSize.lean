/- How great what a law reads may be, told value by value: each text, each slice within. -/
import Derived.Test.YtlmmbefejmbpeaaDoorMOpen
namespace Go.Proofs.YtlmmbefejmbpeaaDoor.M
open Go.RowKit Go.ChangeShapes Go.WideShapes Go.Deep Go.Proofs.YtlmmbefejmbpeaaDoorW.PrintWords Go.Proofs.YtlmmbefejmbpeaaDoorW.PrintLast Go.Proofs.YtlmmbefejmbpeaaDoorW.PrintMore
set_option linter.unusedVariables false

end Go.Proofs.YtlmmbefejmbpeaaDoor.M
