-- WRITTEN BY A PROGRAM OF THIS SESSION (wip/patch_print.py: the kit's printer with rules of this session's own); Lean checks it.
import Derived.Test.YtaediecdpgndjaaPMergePagesx0
import Derived.Test.YtaediecdpgndjaaPMergePagesx1
import Derived.Test.YtaediecdpgndjaaPMergePagesx2
import Derived.Test.YtaediecdpgndjaaPMergePagesx3
import Derived.Test.YtaediecdpgndjaaPMergePagesx4
namespace Go.Proofs.Ytaediecdpgndjaa.PMergePages
open Go.RowKit Go.Proofs.YtaediecdpgndjaaW.PrintWords Go.Proofs.YtaediecdpgndjaaW.PrintLast Go.Proofs.YtaediecdpgndjaaW.PrintMore
attribute [local go_sem] max2_int min2_int max_two min_two max_three min_three max_four min_four   -- for this text's walks alone
set_option linter.unusedVariables false
set_option linter.unusedSimpArgs false

end Go.Proofs.Ytaediecdpgndjaa.PMergePages
