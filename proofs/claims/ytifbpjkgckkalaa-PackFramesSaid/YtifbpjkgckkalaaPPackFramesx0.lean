-- WRITTEN BY A PROGRAM OF THIS SESSION (wip/patch_print.py: the kit's printer with rules of this session's own); Lean checks it.
import Derived.Test.YtifbpjkgckkalaaProg
import Derived.Below
import Derived.Deep.Draws
import Derived.Deep.AppendLies
import Derived.Maps.AppendAt
import Derived.OwnWalk
import Derived.Laws.BytesArg
import Derived.Laws.MakeOwn
import Derived.Laws.OwnMore
import Derived.Deep.OwnRows
import Derived.Tactics
import Derived.Lib.ConvBytes
import Derived.Laws.Slices
import Derived.WalkKit
import Derived.KernelRfl
import Derived.RowKit3
import Derived.Deep.LoopGhost
import Derived.Deep.QuietTactic
import Derived.BigQuiet
import Derived.WideLaws
import Derived.Deep.DeepCutAuto
import Derived.Deep.CutBlock
import Derived.Deep.RegionHeld3
import Derived.Laws.Rows
import Derived.Lib.AppendStr
import Derived.ArgAppend
import Derived.Laws.IdiomCopy
import Derived.OrdersHeld
import Derived.Laws.BitsLemmas
import Derived.RowKit
import Derived.Test.YtifbpjkgckkalaaWWords
import Derived.Test.YtifbpjkgckkalaaWLast
import Derived.Test.YtifbpjkgckkalaaWTab
import Derived.Test.YtifbpjkgckkalaaWFour
import Derived.Test.YtifbpjkgckkalaaWQPut
import Derived.Test.YtifbpjkgckkalaaWApart
import Derived.Test.YtifbpjkgckkalaaWArr
import Derived.Test.YtifbpjkgckkalaaWZeros
import Derived.Test.YtifbpjkgckkalaaWFoot
import Derived.Test.YtifbpjkgckkalaaWKept
import Derived.Test.YtifbpjkgckkalaaWShare
import Derived.Test.YtifbpjkgckkalaaWN
import Derived.Test.YtifbpjkgckkalaaWFootNe
import Derived.Test.YtifbpjkgckkalaaWAt
import Derived.Test.YtifbpjkgckkalaaWEqStruct
import Derived.Test.YtifbpjkgckkalaaWRepsOne
import Derived.Test.YtifbpjkgckkalaaWInv
import Derived.Test.YtifbpjkgckkalaaWInvWords
import Derived.Test.YtifbpjkgckkalaaWGuard
import Derived.Test.YtifbpjkgckkalaaWNEv
import Derived.Test.YtifbpjkgckkalaaWMore
namespace Go.Proofs.Ytifbpjkgckkalaa.PPackFrames
open Go.RowKit Go.Proofs.YtifbpjkgckkalaaW.PrintWords Go.Proofs.YtifbpjkgckkalaaW.PrintLast Go.Proofs.YtifbpjkgckkalaaW.PrintMore
attribute [local go_sem] max2_int min2_int max_two min_two max_three min_three max_four min_four   -- for this text's walks alone
set_option linter.unusedVariables false
set_option linter.unusedSimpArgs false



def errW : Option Int → Value
  | none => .nilIface
  | some c => .iface 0 (.int .i64 c)
theorem errW_none : errW none = .nilIface := rfl
theorem errW_some (c : Int) : errW (some c) = .iface 0 (.int .i64 c) := rfl

theorem info5 : (Try.prog.info? 5).map (fun i => (i.zero, i.size, i.bytes)) = some (some (.int .u8 0), 1, 1) := by kernel_rfl
-- the values' own types

end Go.Proofs.Ytifbpjkgckkalaa.PPackFrames
