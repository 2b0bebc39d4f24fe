-- WRITTEN BY A PROGRAM OF THIS SESSION (wip/patch_print.py: the kit's printer with rules of this session's own); Lean checks it.
import Derived.Test.YtlmmbefejmbpeaaDoorPQueryReadsx0
import Derived.Test.YtlmmbefejmbpeaaDoorPQueryReadsx1
import Derived.Test.YtlmmbefejmbpeaaDoorPQueryReadsx2
import Derived.Test.YtlmmbefejmbpeaaDoorPQueryReadsx3
namespace Go.Proofs.YtlmmbefejmbpeaaDoor.PQueryReads
open Go.RowKit Go.Proofs.YtlmmbefejmbpeaaDoorW.PrintWords Go.Proofs.YtlmmbefejmbpeaaDoorW.PrintLast Go.Proofs.YtlmmbefejmbpeaaDoorW.PrintMore
attribute [local go_sem] max2_int min2_int max_two min_two max_three min_three max_four min_four   -- for this text's walks alone
set_option linter.unusedVariables false
set_option linter.unusedSimpArgs false

end Go.Proofs.YtlmmbefejmbpeaaDoor.PQueryReads
