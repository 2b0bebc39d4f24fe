-- WRITTEN BY A PROGRAM OF THIS SESSION (wip/patch_print.py: the kit's printer with rules of this session's own); Lean checks it.
import Derived.Test.YtpigloohccpfiaaDoorPHttpWritesx0
import Derived.Test.YtpigloohccpfiaaDoorPHttpWritesx1
import Derived.Test.YtpigloohccpfiaaDoorPHttpWritesx2
import Derived.Test.YtpigloohccpfiaaDoorPHttpWritesx3
import Derived.Test.YtpigloohccpfiaaDoorPHttpWritesx4
import Derived.Test.YtpigloohccpfiaaDoorPHttpWritesx5
import Derived.Test.YtpigloohccpfiaaDoorPHttpWritesx6
namespace Go.Proofs.YtpigloohccpfiaaDoor.PHttpWrites
open Go.RowKit Go.Proofs.YtpigloohccpfiaaDoorW.PrintWords Go.Proofs.YtpigloohccpfiaaDoorW.PrintLast Go.Proofs.YtpigloohccpfiaaDoorW.PrintMore
open Go.Proofs.YtpigloohccpfiaaDoor.G
attribute [local go_sem] max2_int min2_int max_two min_two max_three min_three max_four min_four   -- for this text's walks alone
set_option linter.unusedVariables false
set_option linter.unusedSimpArgs false

end Go.Proofs.YtpigloohccpfiaaDoor.PHttpWrites
