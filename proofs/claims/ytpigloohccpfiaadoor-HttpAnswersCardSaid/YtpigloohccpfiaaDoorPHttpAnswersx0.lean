-- WRITTEN BY A PROGRAM OF THIS SESSION (wip/patch_print.py: the kit's printer with rules of this session's own); Lean checks it.
import Derived.Test.YtpigloohccpfiaaDoorProg
import Derived.Below
import Derived.Deep.Draws
import Derived.Deep.AppendLies
import Derived.Maps.AppendAt
import Derived.OwnWalk
import Derived.Laws.BytesArg
import Derived.Laws.MakeOwn
import Derived.Laws.OwnMore
import Derived.Deep.OwnRows
import Derived.Tactics
import Derived.Lib.ConvBytes
import Derived.Laws.Slices
import Derived.WalkKit
import Derived.KernelRfl
import Derived.RowKit3
import Derived.Deep.LoopGhost
import Derived.Deep.QuietTactic
import Derived.BigQuiet
import Derived.WideLaws
import Derived.Deep.DeepCutAuto
import Derived.Deep.CutBlock
import Derived.Deep.RegionHeld3
import Derived.Laws.Rows
import Derived.Lib.AppendStr
import Derived.ArgAppend
import Derived.Laws.IdiomCopy
import Derived.OrdersHeld
import Derived.Laws.BitsLemmas
import Derived.RowKit
import Derived.Laws.Cover1
import Derived.Test.YtpigloohccpfiaaDoorShelf
import Derived.Test.YtpigloohccpfiaaDoorMTabs
import Derived.Test.YtpigloohccpfiaaDoorGLib
import Derived.Lib.Builder
import Derived.Deep.WholeRow
import Derived.Test.YtpigloohccpfiaaDoorWWords
import Derived.Test.YtpigloohccpfiaaDoorWLast
import Derived.Test.YtpigloohccpfiaaDoorWTab
import Derived.Test.YtpigloohccpfiaaDoorWFour
import Derived.Test.YtpigloohccpfiaaDoorWQPut
import Derived.Test.YtpigloohccpfiaaDoorWApart
import Derived.Test.YtpigloohccpfiaaDoorWArr
import Derived.Test.YtpigloohccpfiaaDoorWZeros
import Derived.Test.YtpigloohccpfiaaDoorWFoot
import Derived.Test.YtpigloohccpfiaaDoorWKept
import Derived.Test.YtpigloohccpfiaaDoorWShare
import Derived.Test.YtpigloohccpfiaaDoorWN
import Derived.Test.YtpigloohccpfiaaDoorWFootNe
import Derived.Test.YtpigloohccpfiaaDoorWAt
import Derived.Test.YtpigloohccpfiaaDoorWEqStruct
import Derived.Test.YtpigloohccpfiaaDoorWRepsOne
import Derived.Test.YtpigloohccpfiaaDoorWInv
import Derived.Test.YtpigloohccpfiaaDoorWInvWords
import Derived.Test.YtpigloohccpfiaaDoorWGuard
import Derived.Test.YtpigloohccpfiaaDoorWNEv
import Derived.Test.YtpigloohccpfiaaDoorWMore
namespace Go.Proofs.YtpigloohccpfiaaDoor.PHttpAnswers
open Go.RowKit Go.Proofs.YtpigloohccpfiaaDoorW.PrintWords Go.Proofs.YtpigloohccpfiaaDoorW.PrintLast Go.Proofs.YtpigloohccpfiaaDoorW.PrintMore
open Go.Proofs.YtpigloohccpfiaaDoor.G
attribute [local go_sem] max2_int min2_int max_two min_two max_three min_three max_four min_four   -- for this text's walks alone
set_option linter.unusedVariables false
set_option linter.unusedSimpArgs false



def errW : Option Int → Value
  | none => .nilIface
  | some c => .iface 0 (.int .i64 c)
theorem errW_none : errW none = .nilIface := rfl
theorem errW_some (c : Int) : errW (some c) = .iface 0 (.int .i64 c) := rfl

theorem info3 : (Tryd.prog.info? 3).map (fun i => (i.zero, i.size, i.bytes)) = some (some (.int .i64 0), 1, 8) := by kernel_rfl
theorem info5 : (Tryd.prog.info? 5).map (fun i => (i.zero, i.size, i.bytes)) = some (some (.int .u8 0), 1, 1) := by kernel_rfl
theorem info9 : (Tryd.prog.info? 9).map (fun i => (i.zero, i.size, i.bytes)) = some (some (.string ⟨#[]⟩), 1, 16) := by kernel_rfl
-- the values' own types

end Go.Proofs.YtpigloohccpfiaaDoor.PHttpAnswers
