-- Contracts of this session's own over the seat's program.
import Derived.Test.YtpkjfpapjcmhdaaDoorProg
import Derived.Below
import Derived.Deep.Draws
import Derived.Deep.AppendLies
import Derived.Maps.AppendAt
import Derived.OwnWalk
import Derived.Laws.BytesArg
import Derived.Laws.MakeOwn
import Derived.Laws.OwnMore
import Derived.Deep.OwnRows
import Derived.Tactics
import Derived.Lib.ConvBytes
import Derived.Laws.Slices
import Derived.WalkKit
import Derived.KernelRfl
import Derived.RowKit3
import Derived.Deep.LoopGhost
import Derived.Deep.QuietTactic
import Derived.BigQuiet
import Derived.WideLaws
import Derived.Deep.DeepCutAuto
import Derived.Deep.CutBlock
import Derived.Deep.RegionHeld3
import Derived.Laws.Rows
import Derived.Lib.AppendStr
import Derived.ArgAppend
import Derived.Laws.IdiomCopy
import Derived.OrdersHeld
import Derived.Laws.BitsLemmas
import Derived.RowKit
import Derived.Laws.Cover1
import Derived.Test.YtpkjfpapjcmhdaaDoorShelf
import Derived.Test.YtpkjfpapjcmhdaaDoorWWords
import Derived.Test.YtpkjfpapjcmhdaaDoorWLast
import Derived.Test.YtpkjfpapjcmhdaaDoorWTab
import Derived.Test.YtpkjfpapjcmhdaaDoorWFour
import Derived.Test.YtpkjfpapjcmhdaaDoorWQPut
import Derived.Test.YtpkjfpapjcmhdaaDoorWApart
import Derived.Test.YtpkjfpapjcmhdaaDoorWArr
import Derived.Test.YtpkjfpapjcmhdaaDoorWZeros
import Derived.Test.YtpkjfpapjcmhdaaDoorWFoot
import Derived.Test.YtpkjfpapjcmhdaaDoorWKept
import Derived.Test.YtpkjfpapjcmhdaaDoorWShare
import Derived.Test.YtpkjfpapjcmhdaaDoorWN
import Derived.Test.YtpkjfpapjcmhdaaDoorWFootNe
import Derived.Test.YtpkjfpapjcmhdaaDoorWAt
import Derived.Test.YtpkjfpapjcmhdaaDoorWEqStruct
import Derived.Test.YtpkjfpapjcmhdaaDoorWRepsOne
import Derived.Test.YtpkjfpapjcmhdaaDoorWInv
import Derived.Test.YtpkjfpapjcmhdaaDoorWInvWords
import Derived.Test.YtpkjfpapjcmhdaaDoorWGuard
import Derived.Test.YtpkjfpapjcmhdaaDoorWNEv
import Derived.Test.YtpkjfpapjcmhdaaDoorWMore
namespace Go.Proofs
open Go.Shelf
end Go.Proofs
namespace Go.Proofs.YtpkjfpapjcmhdaaDoor.G
open Go.RowKit Go.Proofs.YtpkjfpapjcmhdaaDoorW.PrintWords Go.Proofs.YtpkjfpapjcmhdaaDoorW.PrintLast Go.Proofs.YtpkjfpapjcmhdaaDoorW.PrintMore
attribute [local go_sem] max2_int min2_int max_two min_two max_three min_three max_four min_four   -- for this text's walks alone
set_option linter.unusedVariables false
set_option linter.unusedSimpArgs false

/-- Go's two tables of utf8, as the program lays them -/
def tabs (w : World) : Prop := Lib.Utf8Tabs (Tryd.lays197_ren.g 3) (Tryd.lays197_ren.g 4) w
theorem tabs_below {w w' : World} (h : tabs w) (hb : Below w.heap.size w w') : tabs w' := Go.Proofs.Utf8Tabs_below h hb
def utf8_DecodeRuneInString.f (s : ByteArray) : Option (Int × Int) := some ((((Lib.decodeGo s).1 : Nat) : Int), (((Lib.decodeGo s).2 : Nat) : Int))
theorem utf8_DecodeRuneInString.calls (s : ByteArray) (r1 r2 : Int) (w : World) (hT : tabs w) (h : utf8_DecodeRuneInString.f s = some (r1, r2)) :
    Calls Tryd.prog 30 #[.string s] w fun e w' => e = .returned (.tuple #[.int .i32 r1, .int .i64 r2]) ∧ Below w.heap.size w w' := by
  have h1 := (Prod.mk.injEq _ _ _ _).mp (Option.some.inj h)
  obtain ⟨rfl, rfl⟩ := h1
  exact Any.utf8_DecodeRuneInString Tryd.lays197 s w hT

end Go.Proofs.YtpkjfpapjcmhdaaDoor.G
