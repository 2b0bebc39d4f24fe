-- WRITTEN BY A PROGRAM OF THIS SESSION (wip/patch_print.py: the kit's printer with rules of this session's own); Lean checks it.
import Derived.Test.YtpigloohccpfiaaDoorPHttpReadsx0
import Derived.Test.YtpigloohccpfiaaDoorPHttpReadsx1
import Derived.Test.YtpigloohccpfiaaDoorPHttpReadsx2
import Derived.Test.YtpigloohccpfiaaDoorPHttpReadsx3
import Derived.Test.YtpigloohccpfiaaDoorPHttpReadsx4
import Derived.Test.YtpigloohccpfiaaDoorPHttpReadsx5
import Derived.Test.YtpigloohccpfiaaDoorPHttpReadsx6
import Derived.Test.YtpigloohccpfiaaDoorPHttpReadsx7
import Derived.Test.YtpigloohccpfiaaDoorPHttpReadsx8
import Derived.Test.YtpigloohccpfiaaDoorPHttpReadsx9
import Derived.Test.YtpigloohccpfiaaDoorPHttpReadsx10
namespace Go.Proofs.YtpigloohccpfiaaDoor.PHttpReads
open Go.RowKit Go.Proofs.YtpigloohccpfiaaDoorW.PrintWords Go.Proofs.YtpigloohccpfiaaDoorW.PrintLast Go.Proofs.YtpigloohccpfiaaDoorW.PrintMore
open Go.Proofs.YtpigloohccpfiaaDoor.G
attribute [local go_sem] max2_int min2_int max_two min_two max_three min_three max_four min_four   -- for this text's walks alone
set_option linter.unusedVariables false
set_option linter.unusedSimpArgs false

end Go.Proofs.YtpigloohccpfiaaDoor.PHttpReads
