-- WRITTEN BY A PROGRAM OF THIS SESSION (wip/patch_print.py: the kit's printer with rules of this session's own); Lean checks it.
import Derived.Test.YtifbpjkgckkalaaPPackFramesx0
import Derived.Test.YtifbpjkgckkalaaPPackFramesx1
import Derived.Test.YtifbpjkgckkalaaPPackFramesx2
import Derived.Test.YtifbpjkgckkalaaPPackFramesx3
import Derived.Test.YtifbpjkgckkalaaPPackFramesx4
import Derived.Test.YtifbpjkgckkalaaPPackFramesx5
import Derived.Test.YtifbpjkgckkalaaPPackFramesx6
namespace Go.Proofs.Ytifbpjkgckkalaa.PPackFrames
open Go.RowKit Go.Proofs.YtifbpjkgckkalaaW.PrintWords Go.Proofs.YtifbpjkgckkalaaW.PrintLast Go.Proofs.YtifbpjkgckkalaaW.PrintMore
attribute [local go_sem] max2_int min2_int max_two min_two max_three min_three max_four min_four   -- for this text's walks alone
set_option linter.unusedVariables false
set_option linter.unusedSimpArgs false

end Go.Proofs.Ytifbpjkgckkalaa.PPackFrames
