-- WRITTEN BY A PROGRAM OF THIS SESSION (wip/patch_print.py: the kit's printer with rules of this session's own); Lean checks it.
import Derived.Test.YtkoaeiiaagipeaaPMetaMovesx0
import Derived.Test.YtkoaeiiaagipeaaPMetaMovesx1
import Derived.Test.YtkoaeiiaagipeaaPMetaMovesx2
import Derived.Test.YtkoaeiiaagipeaaPMetaMovesx3
import Derived.Test.YtkoaeiiaagipeaaPMetaMovesx4
namespace Go.Proofs.Ytkoaeiiaagipeaa.PMetaMoves
open Go.RowKit Go.Proofs.YtkoaeiiaagipeaaW.PrintWords Go.Proofs.YtkoaeiiaagipeaaW.PrintLast Go.Proofs.YtkoaeiiaagipeaaW.PrintMore
open Go.Proofs.Ytkoaeiiaagipeaa.G
attribute [local go_sem] max2_int min2_int max_two min_two max_three min_three max_four min_four   -- for this text's walks alone
set_option linter.unusedVariables false
set_option linter.unusedSimpArgs false

end Go.Proofs.Ytkoaeiiaagipeaa.PMetaMoves
