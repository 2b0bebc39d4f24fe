-- Contracts of this session's own over the seat's program.
import Derived.Test.YtkoaeiiaagipeaaProg
import Derived.Below
import Derived.Deep.Draws
import Derived.Deep.AppendLies
import Derived.Maps.AppendAt
import Derived.OwnWalk
import Derived.Laws.BytesArg
import Derived.Laws.MakeOwn
import Derived.Laws.OwnMore
import Derived.Deep.OwnRows
import Derived.Tactics
import Derived.Lib.ConvBytes
import Derived.Laws.Slices
import Derived.WalkKit
import Derived.KernelRfl
import Derived.RowKit3
import Derived.Deep.LoopGhost
import Derived.Deep.QuietTactic
import Derived.BigQuiet
import Derived.WideLaws
import Derived.Deep.DeepCutAuto
import Derived.Deep.CutBlock
import Derived.Deep.RegionHeld3
import Derived.Laws.Rows
import Derived.Lib.AppendStr
import Derived.ArgAppend
import Derived.Laws.IdiomCopy
import Derived.OrdersHeld
import Derived.Laws.BitsLemmas
import Derived.RowKit
import Derived.Laws.Cover1
import Derived.Test.YtkoaeiiaagipeaaShelf
import Derived.Sort.OwnSortedInts
import Derived.Test.YtkoaeiiaagipeaaWWords
import Derived.Test.YtkoaeiiaagipeaaWLast
import Derived.Test.YtkoaeiiaagipeaaWTab
import Derived.Test.YtkoaeiiaagipeaaWFour
import Derived.Test.YtkoaeiiaagipeaaWQPut
import Derived.Test.YtkoaeiiaagipeaaWApart
import Derived.Test.YtkoaeiiaagipeaaWArr
import Derived.Test.YtkoaeiiaagipeaaWZeros
import Derived.Test.YtkoaeiiaagipeaaWFoot
import Derived.Test.YtkoaeiiaagipeaaWKept
import Derived.Test.YtkoaeiiaagipeaaWShare
import Derived.Test.YtkoaeiiaagipeaaWN
import Derived.Test.YtkoaeiiaagipeaaWFootNe
import Derived.Test.YtkoaeiiaagipeaaWAt
import Derived.Test.YtkoaeiiaagipeaaWEqStruct
import Derived.Test.YtkoaeiiaagipeaaWRepsOne
import Derived.Test.YtkoaeiiaagipeaaWInv
import Derived.Test.YtkoaeiiaagipeaaWInvWords
import Derived.Test.YtkoaeiiaagipeaaWGuard
import Derived.Test.YtkoaeiiaagipeaaWNEv
import Derived.Test.YtkoaeiiaagipeaaWMore
namespace Go.Proofs
open Go.Shelf
end Go.Proofs
namespace Go.Proofs.Ytkoaeiiaagipeaa.G
open Go.RowKit Go.Proofs.YtkoaeiiaagipeaaW.PrintWords Go.Proofs.YtkoaeiiaagipeaaW.PrintLast Go.Proofs.YtkoaeiiaagipeaaW.PrintMore
attribute [local go_sem] max2_int min2_int max_two min_two max_three min_three max_four min_four   -- for this text's walks alone
set_option linter.unusedVariables false
set_option linter.unusedSimpArgs false

/-- sorted, by a plain recursion (that the kernel can reckon) -/
def insI (x : Int) : List Int → List Int
  | [] => [x]
  | y :: t => if x ≤ y then x :: y :: t else y :: insI x t
def sortI : List Int → List Int
  | [] => []
  | x :: t => insI x (sortI t)
theorem insI_perm (x : Int) : ∀ l : List Int, (insI x l).Perm (x :: l)
  | [] => List.Perm.refl _
  | y :: t => by
    unfold insI
    split
    · exact List.Perm.refl _
    · exact ((insI_perm x t).cons y).trans (List.Perm.swap x y t)
theorem sortI_perm : ∀ l : List Int, (sortI l).Perm l
  | [] => List.Perm.refl _
  | x :: t => (insI_perm x _).trans ((sortI_perm t).cons x)
theorem insI_rising (x : Int) : ∀ l : List Int, l.Pairwise (· ≤ ·) → (insI x l).Pairwise (· ≤ ·)
  | [], _ => by simp [insI]
  | y :: t, h => by
    have h2 := List.pairwise_cons.1 h
    unfold insI
    split
    · rename_i hxy
      refine List.pairwise_cons.2 ⟨fun z hz => ?_, h⟩
      rcases List.mem_cons.1 hz with rfl | hz
      · exact hxy
      · exact Int.le_trans hxy (h2.1 z hz)
    · rename_i hxy
      refine List.pairwise_cons.2 ⟨fun z hz => ?_, insI_rising x t h2.2⟩
      rcases List.mem_cons.1 ((insI_perm x t).mem_iff.1 hz) with rfl | hz
      · omega
      · exact h2.1 z hz
theorem sortI_rising : ∀ l : List Int, (sortI l).Pairwise (· ≤ ·)
  | [] => List.Pairwise.nil
  | x :: t => insI_rising x _ (sortI_rising t)
theorem sortI_eq (l : List Int) : sortI l = l.mergeSort fun x y => decide (x ≤ y) := by
  refine List.Perm.eq_of_pairwise (le := fun x y : Int => x ≤ y) (fun a b _ _ h1 h2 => Int.le_antisymm h1 h2) (sortI_rising l) ?_ ((sortI_perm l).trans (List.mergeSort_perm _ _).symm)
  have := List.pairwise_mergeSort (le := fun x y : Int => decide (x ≤ y)) (fun a b c h1 h2 => by simp at *; omega) (fun a b => by simp; omega) l
  exact this.imp (fun h => by simpa using h)
def slices_Sort_int_int.f (l0 : List Int) : Option (List Int) := if l0 = [] then none else if l0.length < 140737488355328 then some (sortI l0) else none
open Go.Sort in
theorem slices_Sort_int_int.calls (P0_ : Nat → Prop) (u9000_ : Value) (l0 : List Int) (r : List Int) (w0 w : World) (hB : Below w0.heap.size w0 w) (ho0 : Kd.R (Kd.int .i64) 3 w w0.heap.size P0_ u9000_ l0) (h : slices_Sort_int_int.f l0 = some r) :
    Calls Try.prog 47 #[u9000_] w fun e w' => e = .returned (.tuple #[]) ∧ Kd.R (Kd.int .i64) 3 w' w0.heap.size (fun k_ => (P0_ k_ ∨ w.heap.size ≤ k_)) u9000_ r ∧ Below w0.heap.size w0 w' ∧ Kept w w' (fun k_ => P0_ k_) := by
  unfold slices_Sort_int_int.f at h
  split at h
  · cases h
  rename_i hne
  split at h
  · rename_i hsz
    obtain rfl := Option.some.inj h
    rw [sortI_eq]
    have hok := ho0.1
    have ho := Kd.own_of_R ho0
    rcases ho.2 with ⟨_, hnil⟩ | ⟨g, cap, cur, rfl, hg, hh, h1, h2, h3, h4⟩
    · exact absurd (List.length_eq_zero_iff.1 hnil) hne
    have h4 : cur.toList.take l0.length = l0.map (Value.int .i64) := by simpa [encs] using h4
    refine (Any.slices_Sort_int Try.lays189 g 0 cap l0 w (holds_of_blockI hh h4) (Array.getElem?_eq_some_iff.1 hh).1 (by omega)).mono ?_
    rintro e w' ⟨rfl, n, os, rfl⟩
    have hgb := grownBy_sortedI (w := w) (g := g) (n := n) (os := os) (l0.mergeSort fun x y => decide (x ≤ y)).toArray
    have hown := ownsRow_sortedI (base := w0.heap.size) (n := n) (os := os) (ss := l0) (ts := l0.mergeSort fun x y => decide (x ≤ y)) (List.length_mergeSort _) hg hh h1 h2 (by simpa using h3)
    refine ⟨rfl, ?_, ?_, ?_⟩
    · refine Kd.R_of_own ?_ (fun k hk => Or.inl (hok k hk))
      have e : (l0.mergeSort fun x y => decide (x ≤ y)).length = l0.length := List.length_mergeSort _
      rw [e]
      exact hown
    · exact hB.grown hgb (by have := (Array.getElem?_eq_some_iff.1 hh).1; omega) (fun k hk => by cases hk; exact hg)
    · exact Kept.of_grown hgb ⟨Nat.le_refl _, fun _ _ _ => rfl⟩ (fun k hk => Or.inl (hok k hk))
  · cases h

end Go.Proofs.Ytkoaeiiaagipeaa.G
