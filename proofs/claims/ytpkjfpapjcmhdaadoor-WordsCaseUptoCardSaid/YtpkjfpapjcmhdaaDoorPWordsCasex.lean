-- WRITTEN BY A PROGRAM OF THIS SESSION (wip/patch_print.py: the kit's printer with rules of this session's own); Lean checks it.
import Derived.Test.YtpkjfpapjcmhdaaDoorPWordsCasex0
import Derived.Test.YtpkjfpapjcmhdaaDoorPWordsCasex1
import Derived.Test.YtpkjfpapjcmhdaaDoorPWordsCasex2
import Derived.Test.YtpkjfpapjcmhdaaDoorPWordsCasex3
namespace Go.Proofs.YtpkjfpapjcmhdaaDoor.PWordsCase
open Go.RowKit Go.Proofs.YtpkjfpapjcmhdaaDoorW.PrintWords Go.Proofs.YtpkjfpapjcmhdaaDoorW.PrintLast Go.Proofs.YtpkjfpapjcmhdaaDoorW.PrintMore
open Go.Proofs.YtpkjfpapjcmhdaaDoor.G
attribute [local go_sem] max2_int min2_int max_two min_two max_three min_three max_four min_four   -- for this text's walks alone
set_option linter.unusedVariables false
set_option linter.unusedSimpArgs false

end Go.Proofs.YtpkjfpapjcmhdaaDoor.PWordsCase
