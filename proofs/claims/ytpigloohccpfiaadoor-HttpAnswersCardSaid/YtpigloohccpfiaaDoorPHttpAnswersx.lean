-- WRITTEN BY A PROGRAM OF THIS SESSION (wip/patch_print.py: the kit's printer with rules of this session's own); Lean checks it.
import Derived.Test.YtpigloohccpfiaaDoorPHttpAnswersx0
import Derived.Test.YtpigloohccpfiaaDoorPHttpAnswersx1
import Derived.Test.YtpigloohccpfiaaDoorPHttpAnswersx2
import Derived.Test.YtpigloohccpfiaaDoorPHttpAnswersx3
import Derived.Test.YtpigloohccpfiaaDoorPHttpAnswersx4
import Derived.Test.YtpigloohccpfiaaDoorPHttpAnswersx5
import Derived.Test.YtpigloohccpfiaaDoorPHttpAnswersx6
import Derived.Test.YtpigloohccpfiaaDoorPHttpAnswersx7
import Derived.Test.YtpigloohccpfiaaDoorPHttpAnswersx8
namespace Go.Proofs.YtpigloohccpfiaaDoor.PHttpAnswers
open Go.RowKit Go.Proofs.YtpigloohccpfiaaDoorW.PrintWords Go.Proofs.YtpigloohccpfiaaDoorW.PrintLast Go.Proofs.YtpigloohccpfiaaDoorW.PrintMore
open Go.Proofs.YtpigloohccpfiaaDoor.G
attribute [local go_sem] max2_int min2_int max_two min_two max_three min_three max_four min_four   -- for this text's walks alone
set_option linter.unusedVariables false
set_option linter.unusedSimpArgs false

end Go.Proofs.YtpigloohccpfiaaDoor.PHttpAnswers
