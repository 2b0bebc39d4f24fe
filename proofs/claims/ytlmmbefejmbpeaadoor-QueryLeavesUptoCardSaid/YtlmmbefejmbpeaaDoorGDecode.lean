-- Contracts of this session's own over the seat's program.
import Derived.Test.YtlmmbefejmbpeaaDoorProg
import Derived.Below
import Derived.Deep.Draws
import Derived.Deep.AppendLies
import Derived.Maps.AppendAt
import Derived.OwnWalk
import Derived.Laws.BytesArg
import Derived.Laws.MakeOwn
import Derived.Laws.OwnMore
import Derived.Deep.OwnRows
import Derived.Tactics
import Derived.Lib.ConvBytes
import Derived.Laws.Slices
import Derived.WalkKit
import Derived.KernelRfl
import Derived.RowKit3
import Derived.Deep.LoopGhost
import Derived.Deep.QuietTactic
import Derived.BigQuiet
import Derived.WideLaws
import Derived.Deep.DeepCutAuto
import Derived.Deep.CutBlock
import Derived.Deep.RegionHeld3
import Derived.Laws.Rows
import Derived.Lib.AppendStr
import Derived.ArgAppend
import Derived.Laws.IdiomCopy
import Derived.OrdersHeld
import Derived.Laws.BitsLemmas
import Derived.RowKit
import Derived.Laws.Cover1
import Derived.Test.YtlmmbefejmbpeaaDoorShelf
import Derived.Test.YtlmmbefejmbpeaaDoorMTabs
import Derived.Test.YtlmmbefejmbpeaaDoorWWords
import Derived.Test.YtlmmbefejmbpeaaDoorWLast
import Derived.Test.YtlmmbefejmbpeaaDoorWTab
import Derived.Test.YtlmmbefejmbpeaaDoorWFour
import Derived.Test.YtlmmbefejmbpeaaDoorWQPut
import Derived.Test.YtlmmbefejmbpeaaDoorWApart
import Derived.Test.YtlmmbefejmbpeaaDoorWArr
import Derived.Test.YtlmmbefejmbpeaaDoorWZeros
import Derived.Test.YtlmmbefejmbpeaaDoorWFoot
import Derived.Test.YtlmmbefejmbpeaaDoorWKept
import Derived.Test.YtlmmbefejmbpeaaDoorWShare
import Derived.Test.YtlmmbefejmbpeaaDoorWN
import Derived.Test.YtlmmbefejmbpeaaDoorWFootNe
import Derived.Test.YtlmmbefejmbpeaaDoorWAt
import Derived.Test.YtlmmbefejmbpeaaDoorWEqStruct
import Derived.Test.YtlmmbefejmbpeaaDoorWRepsOne
import Derived.Test.YtlmmbefejmbpeaaDoorWInv
import Derived.Test.YtlmmbefejmbpeaaDoorWInvWords
import Derived.Test.YtlmmbefejmbpeaaDoorWGuard
import Derived.Test.YtlmmbefejmbpeaaDoorWNEv
import Derived.Test.YtlmmbefejmbpeaaDoorWMore
namespace Go.Proofs
open Go.Shelf
end Go.Proofs
namespace Go.Proofs.YtlmmbefejmbpeaaDoor.G
open Go.RowKit Go.Proofs.YtlmmbefejmbpeaaDoorW.PrintWords Go.Proofs.YtlmmbefejmbpeaaDoorW.PrintLast Go.Proofs.YtlmmbefejmbpeaaDoorW.PrintMore
attribute [local go_sem] max2_int min2_int max_two min_two max_three min_three max_four min_four   -- for this text's walks alone
set_option linter.unusedVariables false
set_option linter.unusedSimpArgs false

def utf8_DecodeRuneInString.f (s : ByteArray) : Option (Int × Int) := some ((((Lib.decodeGo s).1 : Nat) : Int), (((Lib.decodeGo s).2 : Nat) : Int))
theorem utf8_DecodeRuneInString.calls (s : ByteArray) (r1 r2 : Int) (w : World) (hT : tabs w) (h : utf8_DecodeRuneInString.f s = some (r1, r2)) :
    Calls Tryd.prog 33 #[.string s] w fun e w' => e = .returned (.tuple #[.int .i32 r1, .int .i64 r2]) ∧ Below w.heap.size w w' := by
  have h1 := (Prod.mk.injEq _ _ _ _).mp (Option.some.inj h)
  obtain ⟨rfl, rfl⟩ := h1
  exact Any.utf8_DecodeRuneInString Tryd.lays197 s w hT.1

end Go.Proofs.YtlmmbefejmbpeaaDoor.G
