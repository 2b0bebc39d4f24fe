/- What the walks need of a literal row of bytes that is marked as a string's. -/
import Derived.Lib.SlBytesConst
import Derived.Test.YtifbpjkgckkalaaWMore
namespace Go.Proofs.Ytifbpjkgckkalaa.M
open Go.RowKit Go.Proofs.YtifbpjkgckkalaaW.PrintWords Go.Proofs.YtifbpjkgckkalaaW.PrintLast Go.Proofs.YtifbpjkgckkalaaW.PrintMore
set_option linter.unusedVariables false

theorem constC (W : World) (e : TypeId) (xs : List Int) (C : Array Value) (hC : C = (nums .u8 xs).toArray) (hn : xs.length ≤ 9223372036854775807 := by decide) :
    Kd.C (Kd.int .u8) (W.alloc (.cells C e (C.size, C.size + 1))) (some ⟨W.heap.size, 0, none⟩) xs.length xs := by
  refine Kd.C_of_reads (d := (0 : Int)) (h1 := fun _ => rfl) ?_
  refine ⟨rfl, hn, fun _ => ⟨_, rfl, fun j hj => ?_⟩⟩
  rw [add_plain, cell_of_row _ _ j C e _ (heap_alloc_new W _)]
  subst hC
  simp [nums, hj]
end Go.Proofs.Ytifbpjkgckkalaa.M
