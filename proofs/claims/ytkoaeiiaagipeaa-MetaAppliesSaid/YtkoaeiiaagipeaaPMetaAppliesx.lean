-- WRITTEN BY A PROGRAM OF THIS SESSION (wip/patch_print.py: the kit's printer with rules of this session's own); Lean checks it.
import Derived.Test.YtkoaeiiaagipeaaPMetaAppliesx0
import Derived.Test.YtkoaeiiaagipeaaPMetaAppliesx1
import Derived.Test.YtkoaeiiaagipeaaPMetaAppliesx2
import Derived.Test.YtkoaeiiaagipeaaPMetaAppliesx3
import Derived.Test.YtkoaeiiaagipeaaPMetaAppliesx4
import Derived.Test.YtkoaeiiaagipeaaPMetaAppliesx5
namespace Go.Proofs.Ytkoaeiiaagipeaa.PMetaApplies
open Go.RowKit Go.Proofs.YtkoaeiiaagipeaaW.PrintWords Go.Proofs.YtkoaeiiaagipeaaW.PrintLast Go.Proofs.YtkoaeiiaagipeaaW.PrintMore
open Go.Proofs.Ytkoaeiiaagipeaa.G
attribute [local go_sem] max2_int min2_int max_two min_two max_three min_three max_four min_four   -- for this text's walks alone
set_option linter.unusedVariables false
set_option linter.unusedSimpArgs false

end Go.Proofs.Ytkoaeiiaagipeaa.PMetaApplies
