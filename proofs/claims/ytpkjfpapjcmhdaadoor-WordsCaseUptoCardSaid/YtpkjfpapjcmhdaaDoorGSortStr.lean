-- Contracts of this session's own over the seat's program.
import Derived.Test.YtpkjfpapjcmhdaaDoorProg
import Derived.Below
import Derived.Deep.Draws
import Derived.Deep.AppendLies
import Derived.Maps.AppendAt
import Derived.OwnWalk
import Derived.Laws.BytesArg
import Derived.Laws.MakeOwn
import Derived.Laws.OwnMore
import Derived.Deep.OwnRows
import Derived.Tactics
import Derived.Lib.ConvBytes
import Derived.Laws.Slices
import Derived.WalkKit
import Derived.KernelRfl
import Derived.RowKit3
import Derived.Deep.LoopGhost
import Derived.Deep.QuietTactic
import Derived.BigQuiet
import Derived.WideLaws
import Derived.Deep.DeepCutAuto
import Derived.Deep.CutBlock
import Derived.Deep.RegionHeld3
import Derived.Laws.Rows
import Derived.Lib.AppendStr
import Derived.ArgAppend
import Derived.Laws.IdiomCopy
import Derived.OrdersHeld
import Derived.Laws.BitsLemmas
import Derived.RowKit
import Derived.Laws.Cover1
import Derived.Test.YtpkjfpapjcmhdaaDoorShelf
import Derived.Sort.OwnSorted
import Derived.Shelf.Slices.In.SortNone
import Derived.Test.YtpkjfpapjcmhdaaDoorWWords
import Derived.Test.YtpkjfpapjcmhdaaDoorWLast
import Derived.Test.YtpkjfpapjcmhdaaDoorWTab
import Derived.Test.YtpkjfpapjcmhdaaDoorWFour
import Derived.Test.YtpkjfpapjcmhdaaDoorWQPut
import Derived.Test.YtpkjfpapjcmhdaaDoorWApart
import Derived.Test.YtpkjfpapjcmhdaaDoorWArr
import Derived.Test.YtpkjfpapjcmhdaaDoorWZeros
import Derived.Test.YtpkjfpapjcmhdaaDoorWFoot
import Derived.Test.YtpkjfpapjcmhdaaDoorWKept
import Derived.Test.YtpkjfpapjcmhdaaDoorWShare
import Derived.Test.YtpkjfpapjcmhdaaDoorWN
import Derived.Test.YtpkjfpapjcmhdaaDoorWFootNe
import Derived.Test.YtpkjfpapjcmhdaaDoorWAt
import Derived.Test.YtpkjfpapjcmhdaaDoorWEqStruct
import Derived.Test.YtpkjfpapjcmhdaaDoorWRepsOne
import Derived.Test.YtpkjfpapjcmhdaaDoorWInv
import Derived.Test.YtpkjfpapjcmhdaaDoorWInvWords
import Derived.Test.YtpkjfpapjcmhdaaDoorWGuard
import Derived.Test.YtpkjfpapjcmhdaaDoorWNEv
import Derived.Test.YtpkjfpapjcmhdaaDoorWMore
namespace Go.Proofs
open Go.Shelf
end Go.Proofs
namespace Go.Proofs.YtpkjfpapjcmhdaaDoor.G
open Go.RowKit Go.Proofs.YtpkjfpapjcmhdaaDoorW.PrintWords Go.Proofs.YtpkjfpapjcmhdaaDoorW.PrintLast Go.Proofs.YtpkjfpapjcmhdaaDoorW.PrintMore
attribute [local go_sem] max2_int min2_int max_two min_two max_three min_three max_four min_four   -- for this text's walks alone
set_option linter.unusedVariables false
set_option linter.unusedSimpArgs false

/-- the letters of a string -/
def chrs (s : ByteArray) : List UInt8 := s.data.toList
def unchrs (l : List UInt8) : ByteArray := ⟨l.toArray⟩
theorem unchrs_chrs (s : ByteArray) : unchrs (chrs s) = s := rfl
theorem chrs_unchrs (l : List UInt8) : chrs (unchrs l) = l := rfl
/-- sorted, by a plain recursion (that the kernel can reckon) -/
def insS (x : ByteArray) : List ByteArray → List ByteArray
  | [] => [x]
  | y :: t => if chrs x ≤ chrs y then x :: y :: t else y :: insS x t
def sortS : List ByteArray → List ByteArray
  | [] => []
  | x :: t => insS x (sortS t)
theorem insS_perm (x : ByteArray) : ∀ l : List ByteArray, (insS x l).Perm (x :: l)
  | [] => List.Perm.refl _
  | y :: t => by
    unfold insS
    split
    · exact List.Perm.refl _
    · exact ((insS_perm x t).cons y).trans (List.Perm.swap x y t)
theorem sortS_perm : ∀ l : List ByteArray, (sortS l).Perm l
  | [] => List.Perm.refl _
  | x :: t => (insS_perm x _).trans ((sortS_perm t).cons x)
theorem insS_rising (x : ByteArray) : ∀ l : List ByteArray, l.Pairwise (chrs · ≤ chrs ·) → (insS x l).Pairwise (chrs · ≤ chrs ·)
  | [], _ => by simp [insS]
  | y :: t, h => by
    have h2 := List.pairwise_cons.1 h
    unfold insS
    split
    · rename_i hxy
      refine List.pairwise_cons.2 ⟨fun z hz => ?_, h⟩
      rcases List.mem_cons.1 hz with rfl | hz
      · exact hxy
      · exact List.le_trans hxy (h2.1 z hz)
    · rename_i hxy
      refine List.pairwise_cons.2 ⟨fun z hz => ?_, insS_rising x t h2.2⟩
      rcases List.mem_cons.1 ((insS_perm x t).mem_iff.1 hz) with rfl | hz
      · exact (List.le_total (chrs z) (chrs y)).resolve_left hxy
      · exact h2.1 z hz
theorem sortS_rising : ∀ l : List ByteArray, (sortS l).Pairwise (chrs · ≤ chrs ·)
  | [] => List.Pairwise.nil
  | x :: t => insS_rising x _ (sortS_rising t)
theorem sortS_eq (l : List ByteArray) : (sortS l).map chrs = (l.map chrs).mergeSort fun x y => decide (x ≤ y) := by
  refine List.Perm.eq_of_pairwise (le := fun x y : List UInt8 => x ≤ y) (fun a b _ _ h1 h2 => List.le_antisymm h1 h2) (List.pairwise_map.2 (sortS_rising l)) ?_ (((sortS_perm l).map chrs).trans (List.mergeSort_perm _ _).symm)
  have := List.pairwise_mergeSort (le := fun x y : List UInt8 => decide (x ≤ y)) (fun a b c h1 h2 => by simp at *; exact List.le_trans h1 h2) (fun a b => by simp; exact List.le_total a b) (l.map chrs)
  exact this.imp (fun h => by simpa using h)
theorem enc_chrs (l : List ByteArray) : (l.map chrs).map encStr = l.map Value.string := by
  rw [List.map_map]; rfl
def slices_Sort_string_string.f (l0 : List ByteArray) : Option (List ByteArray) := if l0.length < 140737488355328 then some (sortS l0) else none
open Go.Sort in
theorem slices_Sort_string_string.calls (P0_ : Nat → Prop) (u9000_ : Value) (l0 : List ByteArray) (r : List ByteArray) (w0 w : World) (hB : Below w0.heap.size w0 w) (ho0 : Kd.R Kd.string 9 w w0.heap.size P0_ u9000_ l0) (h : slices_Sort_string_string.f l0 = some r) :
    Calls Tryd.prog 26 #[u9000_] w fun e w' => e = .returned (.tuple #[]) ∧ Kd.R Kd.string 9 w' w0.heap.size (fun k_ => (P0_ k_ ∨ w.heap.size ≤ k_)) u9000_ r ∧ Below w0.heap.size w0 w' ∧ Kept w w' (fun k_ => P0_ k_) := by
  unfold slices_Sort_string_string.f at h
  split at h
  rotate_left
  · cases h
  rename_i hsz
  obtain rfl := Option.some.inj h
  have hok := ho0.1
  have ho := Kd.own_of_R ho0
  rcases ho.2 with ⟨rfl, hnil⟩ | ⟨g, cap, cur, rfl, hg, hh, h1, h2, h3, h4⟩
  · obtain rfl : l0 = [] := List.length_eq_zero_iff.1 hnil
    refine (Any.slices_Sort_string_none Tryd.lays190 none 0 w).mono ?_
    rintro e w' ⟨rfl, rfl⟩
    exact ⟨rfl, Kd.R_mono ho0 (fun _ hk => Or.inl hk), hB, ⟨Nat.le_refl _, fun _ _ _ => rfl⟩⟩
  have h4 : cur.toList.take (l0.map chrs).length = (l0.map chrs).map encStr := by rw [enc_chrs]; simpa [encs] using h4
  have hm : (l0.map chrs).length = l0.length := by simp
  have hc := Any.slices_Sort_string Tryd.lays190 g 0 cap (l0.map chrs) w (holds_of_block hh h4) (Array.getElem?_eq_some_iff.1 hh).1 (by rw [hm]; omega)
  rw [hm] at hc
  refine hc.mono ?_
  rintro e w' ⟨rfl, n, os, rfl⟩
  have hgb := grownBy_sorted (w := w) (g := g) (n := n) (os := os) ((l0.map chrs).mergeSort fun x y => decide (x ≤ y)).toArray
  have hown := ownsRow_sorted (base := w0.heap.size) (n := n) (os := os) (ss := l0.map chrs) (ts := (l0.map chrs).mergeSort fun x y => decide (x ≤ y)) (List.length_mergeSort _) hg hh (by rw [hm]; exact h1) h2 (by simpa using h3)
  refine ⟨rfl, ?_, ?_, ?_⟩
  · refine Kd.R_of_own ?_ (fun k hk => Or.inl (hok k hk))
    have e : (sortS l0).length = l0.length := (sortS_perm l0).length_eq
    have e2 : ((l0.map chrs).mergeSort fun x y => decide (x ≤ y)).map encStr = encs Value.string (sortS l0) := by rw [← sortS_eq, enc_chrs]; rfl
    rw [hm, e2] at hown
    rw [e]
    exact hown
  · exact hB.grown hgb (by have := (Array.getElem?_eq_some_iff.1 hh).1; omega) (fun k hk => by cases hk; exact hg)
  · exact Kept.of_grown hgb ⟨Nat.le_refl _, fun _ _ _ => rfl⟩ (fun k hk => Or.inl (hok k hk))

theorem chrs_inj {x y : ByteArray} (h : chrs x = chrs y) : x = y := by
  exact congrArg unchrs h
/-- runs of like ones made one, by a plain recursion (behind x) -/
def compB (x : ByteArray) : List ByteArray → List ByteArray
  | [] => []
  | y :: t => if chrs y = chrs x then compB x t else y :: compB y t
def compS : List ByteArray → List ByteArray
  | [] => []
  | x :: t => x :: compB x t
theorem compB_snoc (z : ByteArray) : ∀ (l : List ByteArray) (x : ByteArray), compB x (l ++ [z]) = compB x l ++ (if chrs z = chrs (l.getLastD x) then [] else [z])
  | [], x => by simp [compB]
  | y :: t, x => by
    have e : (y :: t).getLastD x = t.getLastD y := by cases t <;> simp [List.getLastD]
    rw [e, List.cons_append]
    unfold compB
    split
    · rename_i h
      obtain rfl := chrs_inj h
      exact compB_snoc z t y
    · rw [compB_snoc z t y]; rfl
theorem getLastD_take {l : List ByteArray} {x : ByteArray} {t : List ByteArray} {m : Nat} (hm : m < l.length) (h : l.take (m + 1) = x :: t) : t.getLastD x = l[m] := by
  have e : (l.take (m + 1)).getLast? = some l[m] := by
    rw [List.take_succ_eq_append_getElem hm]; exact List.getLast?_concat
  rw [h] at e
  cases t with
  | nil => simpa using e
  | cons y u => simpa [List.getLastD, List.getLast?] using e
theorem compact_eq (l : List ByteArray) : ∀ m, m ≤ l.length → Lib.compactUpTo (l.map chrs).toArray m = (compS (l.take m)).map chrs
  | 0, _ => by simp [Lib.compactUpTo, compS]
  | m + 1, hm => by
    have hm' : m < l.length := hm
    have em : (l.map chrs).toArray[m]! = chrs l[m] := by
      rw [getElem!_pos _ _ (by simpa using hm')]; simp
    rw [Lib.compactUpTo_succ, compact_eq l m (Nat.le_of_lt hm'), em, List.take_succ_eq_append_getElem hm']
    cases m with
    | zero => simp [compS, compB, Lib.keeps]
    | succ q =>
      have eq' : (l.map chrs).toArray[q]! = chrs (l[q]'(by omega)) := by
        rw [getElem!_pos _ _ (by simpa using (by omega : q < l.length))]; simp
      cases ht : l.take (q + 1) with
      | nil =>
        have h0 := congrArg List.length ht
        rw [List.length_take, List.length_nil] at h0
        omega
      | cons x t =>
        have e := getLastD_take (by omega : q < l.length) ht
        rw [List.cons_append]
        simp only [compS]
        rw [compB_snoc, e]
        simp only [Lib.keeps, em, Nat.add_sub_cancel, eq']
        by_cases hc : chrs l[q + 1] = chrs l[q] <;> simp [hc]
theorem compS_len (l : List ByteArray) : (compS l).length ≤ l.length := by
  cases l with
  | nil => simp [compS]
  | cons x t =>
    have : ∀ (t : List ByteArray) (x : ByteArray), (compB x t).length ≤ t.length := by
      intro t
      induction t with
      | nil => intro x; simp [compB]
      | cons y u ih =>
        intro x
        unfold compB
        split
        · have := ih x; simp; omega
        · have := ih y; simp; omega
    have := this t x
    simp [compS]; omega
def slices_Compact_string_string.f (l0 : List ByteArray) : Option (List ByteArray) := some (compS l0)
open Go.Sort in
theorem slices_Compact_string_string.calls (P0_ : Nat → Prop) (u9000_ : Value) (l0 : List ByteArray) (r : List ByteArray) (w0 w : World) (hB : Below w0.heap.size w0 w) (ho0 : Kd.R Kd.string 9 w w0.heap.size P0_ u9000_ l0) (h : slices_Compact_string_string.f l0 = some r) :
    Calls Tryd.prog 27 #[u9000_] w fun e w' => ∃ v0_ : Value, e = .returned v0_ ∧ Kd.R Kd.string 9 w' w0.heap.size (fun k_ => (P0_ k_ ∨ w.heap.size ≤ k_)) v0_ r ∧ Below w0.heap.size w0 w' ∧ Kept w w' (fun k_ => P0_ k_) := by
  unfold slices_Compact_string_string.f at h
  obtain rfl := Option.some.inj h
  have hok := ho0.1
  have ho := Kd.own_of_R ho0
  rcases ho.2 with ⟨rfl, hnil⟩ | ⟨g, cap, cur, rfl, hg, hh, h1, h2, h3, h4⟩
  · obtain rfl : l0 = [] := List.length_eq_zero_iff.1 hnil
    refine (Any.slices_Compact_string_empty Tryd.lays194 none 0 w).mono ?_
    rintro e w' ⟨rfl, rfl⟩
    exact ⟨_, rfl, Kd.R_mono ho0 (fun _ hk => Or.inl hk), hB, ⟨Nat.le_refl _, fun _ _ _ => rfl⟩⟩
  have h4 : cur.toList.take (l0.map chrs).length = (l0.map chrs).map encStr := by rw [enc_chrs]; simpa [encs] using h4
  have hm : (l0.map chrs).length = l0.length := by simp
  have hc := Any.slices_Compact_string Tryd.lays194 g 0 cap (l0.map chrs) w (holds_of_block hh h4) (by rw [hm]; unfold maxLen at h2; omega) (by rw [hm]; exact h1)
  have hcs : Lib.compact (l0.map chrs) = (compS l0).map chrs := by
    unfold Lib.compact
    rw [hm, compact_eq l0 l0.length (Nat.le_refl _), List.take_length]
  have hl := compS_len l0
  rw [hm, hcs] at hc
  refine hc.mono ?_
  rintro e w' ⟨rfl, n, rfl⟩
  generalize hd : ((compS l0).map chrs ++ List.replicate (l0.length - ((compS l0).map chrs).length) ([] : List UInt8)) = ts
  have htl : ts.length = l0.length := by rw [← hd]; simp; omega
  have hgr : putRow encStr (Sort.ahead w n) g 0 ts.toArray = grow (putRow encStr (Sort.ahead w n) g 0 ts.toArray) #[] := by simp [grow]; rfl
  have hgb := grownBy_sorted (w := w) (g := g) (n := n) (os := #[]) ts.toArray
  have hown := ownsRow_sorted (base := w0.heap.size) (n := n) (os := #[]) (ss := l0.map chrs) (ts := ts) (by rw [htl, hm]) hg hh (by rw [hm]; exact h1) h2 (by simpa using h3)
  rw [hgr]
  refine ⟨_, rfl, ?_, ?_, ?_⟩
  · refine Kd.R_of_own ?_ (fun k hk => Or.inl (hok k hk))
    rcases hown.2 with ⟨h0, _⟩ | ⟨g2, cap2, cur2, hv, hg2, hh2, _, hc2, hs2, ht2⟩
    · cases h0
    cases hv
    refine ⟨by simp [encs], .inr ⟨g, cap, cur2, by simp, hg, hh2, by omega, hc2, hs2, ?_⟩⟩
    have e1 : cur2.toList.take ((compS l0).length * 1) = (cur2.toList.take ((l0.map chrs).length * 1)).take ((compS l0).length * 1) := by
      rw [List.take_take]; congr 1; rw [hm]; omega
    rw [e1, ht2, ← hd]
    rw [Nat.mul_one, List.map_append, List.take_left' (by simp), enc_chrs]
    rfl
  · exact hB.grown hgb (by have := (Array.getElem?_eq_some_iff.1 hh).1; omega) (fun k hk => by cases hk; exact hg)
  · exact Kept.of_grown hgb ⟨Nat.le_refl _, fun _ _ _ => rfl⟩ (fun k hk => Or.inl (hok k hk))

end Go.Proofs.YtpkjfpapjcmhdaaDoor.G
