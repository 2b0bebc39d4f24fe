-- WRITTEN BY A PROGRAM OF THIS SESSION (wip/patch_print.py: the kit's printer with rules of this session's own); Lean checks it.
import Derived.Test.YtfaipapaiobgcaaProg
import Derived.Below
import Derived.Deep.Draws
import Derived.Deep.AppendLies
import Derived.Maps.AppendAt
import Derived.OwnWalk
import Derived.Laws.BytesArg
import Derived.Laws.MakeOwn
import Derived.Laws.OwnMore
import Derived.Deep.OwnRows
import Derived.Tactics
import Derived.Lib.ConvBytes
import Derived.Laws.Slices
import Derived.WalkKit
import Derived.KernelRfl
import Derived.RowKit3
import Derived.Deep.LoopGhost
import Derived.Deep.QuietTactic
import Derived.BigQuiet
import Derived.WideLaws
import Derived.Deep.DeepCutAuto
import Derived.Deep.CutBlock
import Derived.Deep.RegionHeld3
import Derived.Laws.Rows
import Derived.Lib.AppendStr
import Derived.ArgAppend
import Derived.Laws.IdiomCopy
import Derived.OrdersHeld
import Derived.Laws.BitsLemmas
import Derived.RowKit
import Derived.Laws.Cover1
import Derived.Test.YtfaipapaiobgcaaWWords
import Derived.Test.YtfaipapaiobgcaaWLast
import Derived.Test.YtfaipapaiobgcaaWTab
import Derived.Test.YtfaipapaiobgcaaWFour
import Derived.Test.YtfaipapaiobgcaaWQPut
import Derived.Test.YtfaipapaiobgcaaWApart
import Derived.Test.YtfaipapaiobgcaaWArr
import Derived.Test.YtfaipapaiobgcaaWZeros
import Derived.Test.YtfaipapaiobgcaaWFoot
import Derived.Test.YtfaipapaiobgcaaWKept
import Derived.Test.YtfaipapaiobgcaaWShare
import Derived.Test.YtfaipapaiobgcaaWN
import Derived.Test.YtfaipapaiobgcaaWFootNe
import Derived.Test.YtfaipapaiobgcaaWAt
import Derived.Test.YtfaipapaiobgcaaWEqStruct
import Derived.Test.YtfaipapaiobgcaaWRepsOne
import Derived.Test.YtfaipapaiobgcaaWInv
import Derived.Test.YtfaipapaiobgcaaWInvWords
import Derived.Test.YtfaipapaiobgcaaWGuard
import Derived.Test.YtfaipapaiobgcaaWNEv
import Derived.Test.YtfaipapaiobgcaaWMore
namespace Go.Proofs.Ytfaipapaiobgcaa.PPrimPlays
open Go.RowKit Go.Proofs.YtfaipapaiobgcaaW.PrintWords Go.Proofs.YtfaipapaiobgcaaW.PrintLast Go.Proofs.YtfaipapaiobgcaaW.PrintMore
attribute [local go_sem] max2_int min2_int max_two min_two max_three min_three max_four min_four   -- for this text's walks alone
set_option linter.unusedVariables false
set_option linter.unusedSimpArgs false



def errW : Option Int → Value
  | none => .nilIface
  | some c => .iface 0 (.int .i64 c)
theorem errW_none : errW none = .nilIface := rfl
theorem errW_some (c : Int) : errW (some c) = .iface 0 (.int .i64 c) := rfl

theorem info3 : (Try.prog.info? 3).map (fun i => (i.zero, i.size, i.bytes)) = some (some (.int .i64 0), 1, 8) := by kernel_rfl
-- the values' own types
/-! #### struct type 45 -/
structure S45 where
  f0 : Bool
  f1 : Bool
  f2 : Bool
  f3 : Bool
  f4 : Int
  f5 : Int
def z45 : S45 := ⟨false, false, false, false, (0 : Int), (0 : Int)⟩
def k45 : Kd S45 := Kd.iso (Kd.pair Kd.bool (Kd.pair Kd.bool (Kd.pair Kd.bool (Kd.pair Kd.bool (Kd.pair (Kd.int .u64) (Kd.int .i64)))))) (fun x : S45 => (x.f0, x.f1, x.f2, x.f3, x.f4, x.f5))
theorem k45_open {w : World} {x : S45} {cs : List Value} (h : k45.K w x cs) : cs = [.bool x.f0, .bool x.f1, .bool x.f2, .bool x.f3, .int .u64 x.f4, .int .i64 x.f5] := by
  obtain ⟨_, _, rfl, rfl, ⟨_, _, rfl, rfl, ⟨_, _, rfl, rfl, ⟨_, _, rfl, rfl, ⟨_, _, rfl, rfl, rfl⟩⟩⟩⟩⟩ := h
  exact rfl
theorem k45_openM {w : World} {base : Nat} {ok : Nat → Prop} {x : S45} {cs : List Value} (h : k45.M w base ok x cs) : cs = [.bool x.f0, .bool x.f1, .bool x.f2, .bool x.f3, .int .u64 x.f4, .int .i64 x.f5] := by
  obtain ⟨_, _, rfl, rfl, ⟨_, _, rfl, rfl, ⟨_, _, rfl, rfl, ⟨_, _, rfl, rfl, ⟨_, _, rfl, rfl, rfl⟩⟩⟩⟩⟩ := h
  exact rfl
theorem k45_mk (w : World) (x : S45)  : k45.K w x [.bool x.f0, .bool x.f1, .bool x.f2, .bool x.f3, .int .u64 x.f4, .int .i64 x.f5] := ⟨[.bool x.f0], [.bool x.f1, .bool x.f2, .bool x.f3, .int .u64 x.f4, .int .i64 x.f5], rfl, rfl, ⟨[.bool x.f1], [.bool x.f2, .bool x.f3, .int .u64 x.f4, .int .i64 x.f5], rfl, rfl, ⟨[.bool x.f2], [.bool x.f3, .int .u64 x.f4, .int .i64 x.f5], rfl, rfl, ⟨[.bool x.f3], [.int .u64 x.f4, .int .i64 x.f5], rfl, rfl, ⟨[.int .u64 x.f4], [.int .i64 x.f5], rfl, rfl, rfl⟩⟩⟩⟩⟩
theorem k45_mkM (w : World) (base : Nat) (ok : Nat → Prop) (x : S45)  : k45.M w base ok x [.bool x.f0, .bool x.f1, .bool x.f2, .bool x.f3, .int .u64 x.f4, .int .i64 x.f5] := ⟨[.bool x.f0], [.bool x.f1, .bool x.f2, .bool x.f3, .int .u64 x.f4, .int .i64 x.f5], rfl, rfl, ⟨[.bool x.f1], [.bool x.f2, .bool x.f3, .int .u64 x.f4, .int .i64 x.f5], rfl, rfl, ⟨[.bool x.f2], [.bool x.f3, .int .u64 x.f4, .int .i64 x.f5], rfl, rfl, ⟨[.bool x.f3], [.int .u64 x.f4, .int .i64 x.f5], rfl, rfl, ⟨[.int .u64 x.f4], [.int .i64 x.f5], rfl, rfl, rfl⟩⟩⟩⟩⟩
def rd_T45 (xs : List S45) (i : Int) : S45 := xs.getD i.toNat z45
theorem at_T45 {w : World} {A : Option Addr} {n : Nat} {xs : List S45} (h : Kd.C k45 w A n xs) (i : Int) (h0 : 0 ≤ i) (h1 : i < n) : ∃ ad , A = some ad ∧ w.cell? (ad.add (i.toNat * 6)) = some (.bool (rd_T45 xs i).f0) ∧ w.cell? ⟨(ad.add (i.toNat * 6)).block, (ad.add (i.toNat * 6)).off + 1, none⟩ = some (.bool (rd_T45 xs i).f1) ∧ w.cell? ⟨(ad.add (i.toNat * 6)).block, (ad.add (i.toNat * 6)).off + 2, none⟩ = some (.bool (rd_T45 xs i).f2) ∧ w.cell? ⟨(ad.add (i.toNat * 6)).block, (ad.add (i.toNat * 6)).off + 3, none⟩ = some (.bool (rd_T45 xs i).f3) ∧ w.cell? ⟨(ad.add (i.toNat * 6)).block, (ad.add (i.toNat * 6)).off + 4, none⟩ = some (.int .u64 (rd_T45 xs i).f4) ∧ w.cell? ⟨(ad.add (i.toNat * 6)).block, (ad.add (i.toNat * 6)).off + 5, none⟩ = some (.int .i64 (rd_T45 xs i).f5) := by
  obtain ⟨ad, c, e, _, hK, hc0⟩ := Kd.C_get h z45 i h0 h1
  have hc : ∀ j u, c[j]? = some u → w.cell? (ad.add (i.toNat * 6 + j)) = some u := hc0
  obtain rfl := k45_open hK
  exact ⟨ad, e, hc 0 _ rfl, by rw [← add_field _ _ 1 (by omega)]; exact hc 1 _ rfl, by rw [← add_field _ _ 2 (by omega)]; exact hc 2 _ rfl, by rw [← add_field _ _ 3 (by omega)]; exact hc 3 _ rfl, by rw [← add_field _ _ 4 (by omega)]; exact hc 4 _ rfl, by rw [← add_field _ _ 5 (by omega)]; exact hc 5 _ rfl⟩

end Go.Proofs.Ytfaipapaiobgcaa.PPrimPlays
