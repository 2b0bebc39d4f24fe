-- Contracts of this session's own over the seat's program.
import Derived.Test.YtpigloohccpfiaaDoorProg
import Derived.Below
import Derived.Deep.Draws
import Derived.Deep.AppendLies
import Derived.Maps.AppendAt
import Derived.OwnWalk
import Derived.Laws.BytesArg
import Derived.Laws.MakeOwn
import Derived.Laws.OwnMore
import Derived.Deep.OwnRows
import Derived.Tactics
import Derived.Lib.ConvBytes
import Derived.Laws.Slices
import Derived.WalkKit
import Derived.KernelRfl
import Derived.RowKit3
import Derived.Deep.LoopGhost
import Derived.Deep.QuietTactic
import Derived.BigQuiet
import Derived.WideLaws
import Derived.Deep.DeepCutAuto
import Derived.Deep.CutBlock
import Derived.Deep.RegionHeld3
import Derived.Laws.Rows
import Derived.Lib.AppendStr
import Derived.ArgAppend
import Derived.Laws.IdiomCopy
import Derived.OrdersHeld
import Derived.Laws.BitsLemmas
import Derived.RowKit
import Derived.Laws.Cover1
import Derived.Test.YtpigloohccpfiaaDoorShelf
import Derived.Test.YtpigloohccpfiaaDoorMTabs
import Derived.Lib.Builder
import Derived.Deep.WholeRow
import Derived.Test.YtpigloohccpfiaaDoorWWords
import Derived.Test.YtpigloohccpfiaaDoorWLast
import Derived.Test.YtpigloohccpfiaaDoorWTab
import Derived.Test.YtpigloohccpfiaaDoorWFour
import Derived.Test.YtpigloohccpfiaaDoorWQPut
import Derived.Test.YtpigloohccpfiaaDoorWApart
import Derived.Test.YtpigloohccpfiaaDoorWArr
import Derived.Test.YtpigloohccpfiaaDoorWZeros
import Derived.Test.YtpigloohccpfiaaDoorWFoot
import Derived.Test.YtpigloohccpfiaaDoorWKept
import Derived.Test.YtpigloohccpfiaaDoorWShare
import Derived.Test.YtpigloohccpfiaaDoorWN
import Derived.Test.YtpigloohccpfiaaDoorWFootNe
import Derived.Test.YtpigloohccpfiaaDoorWAt
import Derived.Test.YtpigloohccpfiaaDoorWEqStruct
import Derived.Test.YtpigloohccpfiaaDoorWRepsOne
import Derived.Test.YtpigloohccpfiaaDoorWInv
import Derived.Test.YtpigloohccpfiaaDoorWInvWords
import Derived.Test.YtpigloohccpfiaaDoorWGuard
import Derived.Test.YtpigloohccpfiaaDoorWNEv
import Derived.Test.YtpigloohccpfiaaDoorWMore
namespace Go.Proofs
open Go.Shelf
end Go.Proofs
namespace Go.Proofs.YtpigloohccpfiaaDoor.G
open Go.RowKit Go.Proofs.YtpigloohccpfiaaDoorW.PrintWords Go.Proofs.YtpigloohccpfiaaDoorW.PrintLast Go.Proofs.YtpigloohccpfiaaDoorW.PrintMore
attribute [local go_sem] max2_int min2_int max_two min_two max_three min_three max_four min_four   -- for this text's walks alone
set_option linter.unusedVariables false
set_option linter.unusedSimpArgs false

def strings_Index.f (s sub : ByteArray) : Option Int := match sub.data.toList with
  | [c] => some (Lib.indexByte s.data.toList c)
  | _ => none
theorem strings_Index.calls (s sub : ByteArray) (r : Int) (w : World) (h : strings_Index.f s sub = some r) :
    Calls Tryd.prog 18 #[.string s, .string sub] w fun e w' => e = .returned (.int .i64 r) ∧ Drawn0 w w' := by
  unfold strings_Index.f at h
  split at h
  · rename_i c hc
    obtain rfl := Option.some.inj h
    obtain rfl : sub = ⟨#[c]⟩ := by apply ByteArray.ext; apply Array.toList_inj.1; simpa using hc
    exact (Any.strings_Index_one Tryd.lays143 s c w).mono fun e w' ⟨he, hw⟩ => ⟨he, 0, by rw [hw]; rfl⟩
  · cases h

def strings_Split.f (s sep : ByteArray) : Option (List ByteArray) := if s.size < 4294967281 ∧ 1 ≤ sep.size then some (Lib.splitB sep 0 (Lib.countB s sep) s) else none
theorem strings_Split.calls (s sep : ByteArray) (r : List ByteArray) (w : World) (hT : tabs w) (h : strings_Split.f s sep = some r) :
    Calls Tryd.prog 32 #[.string s, .string sep] w fun e w' => ∃ v_ : Value, e = .returned (v_) ∧ Kd.R Kd.string 9 w' w.heap.size (fun _ => True) v_ r ∧ Below w.heap.size w w' := by
  unfold strings_Split.f at h
  split at h
  · rename_i hc
    obtain rfl := Option.some.inj h
    obtain ⟨_, ⟨m, hm⟩, _⟩ := hT
    refine (Any.strings_Split Tryd.lays146 (by kernel_rfl) s sep m w hc.1 hm hc.2).mono fun e w' ⟨he, hw⟩ => ?_
    subst hw
    have hl := Lib.splitB_all sep hc.2 0 _ s rfl
    rw [← hl] at he
    refine ⟨_, he, ?_, below_alloc (Below.refl _ _) _⟩
    refine Kd.R_of_own ?_ (fun _ _ => trivial)
    have hm2 : (Lib.splitB sep 0 (Lib.countB s sep) s).length ≤ maxLen := by
      have := Lib.countB_le sep hc.2 s.size s (Nat.le_refl _)
      unfold maxLen; omega
    have h2 := World.ownsRow_lit (base := w.heap.size) (e := 9) (size := 1) w ((Lib.splitB sep 0 (Lib.countB s sep) s).map Value.string).toArray _ (Nat.le_refl _) hm2 (by simp)
    have e9 : Tryd.lays146_ren.t 9 = 9 := rfl
    rw [e9]
    simpa [encs] using h2
  · cases h

def strconv_Itoa.f (n : Int) : Option ByteArray := if -9223372036854775808 ≤ n ∧ n ≤ 9223372036854775807 then some ⟨(Lib.itoa n).toArray⟩ else none
theorem strconv_Itoa.calls (n : Int) (r : ByteArray) (w : World) (hT : tabs w) (h : strconv_Itoa.f n = some r) :
    Calls Tryd.prog 28 #[.int .i64 n] w fun e w' => e = .returned (.string r) ∧ Below w.heap.size w w' := by
  unfold strconv_Itoa.f at h
  split at h
  · rename_i hc
    obtain rfl := Option.some.inj h
    refine (Any.strconv_Itoa Tryd.lays171 n hc.1 hc.2 w hT.2.2.1).mono fun e w' ⟨he, k, os, hw⟩ => ⟨he, ?_⟩
    rw [hw]
    refine ⟨rfl, rfl, rfl, ?_, fun k hk => ?_⟩
    · show w.heap.size ≤ ((w.drewN _).heap ++ os).size
      rw [Array.size_append]; exact Nat.le_add_right _ _
    · show ((w.drewN _).heap ++ os)[k]? = _
      exact Array.getElem?_append_left hk
  · cases h

def strings_Cut.f (s sep : ByteArray) : Option (ByteArray × ByteArray × Bool) := if s.size < 4294967281 then some (⟨(Lib.cut s.data.toList sep.data.toList).1.toArray⟩, ⟨(Lib.cut s.data.toList sep.data.toList).2.1.toArray⟩, (Lib.cut s.data.toList sep.data.toList).2.2) else none
theorem strings_Cut.calls (s sep : ByteArray) (r1 r2 : ByteArray) (r3 : Bool) (w : World) (hT : tabs w) (h : strings_Cut.f s sep = some (r1, r2, r3)) :
    Calls Tryd.prog 31 #[.string s, .string sep] w fun e w' => e = .returned (.tuple #[.string r1, .string r2, .bool r3]) ∧ Drawn0 w w' := by
  unfold strings_Cut.f at h
  split at h
  · rename_i hc
    simp only [Option.some.injEq, Prod.mk.injEq] at h
    obtain ⟨rfl, rfl, rfl⟩ := h
    obtain ⟨_, ⟨m, hm⟩, _⟩ := hT
    exact (Any.strings_Cut Tryd.lays145 s sep m w hc hm).mono fun e w' ⟨he, n, hn⟩ => ⟨he, n, hn⟩
  · cases h

def strconv_Atoi.f (s : ByteArray) : Option (Int × Option Int) := if s.size ≤ 281474976710656 then (match Lib.atoiAll s.data.toList with
  | .ok v => some (v, none)
  | Lib.NumEnd.syntax => some (0, some 0)
  | .range => some (Lib.atoiSat s.data.toList, some 1)) else none
theorem strconv_Atoi.calls (s : ByteArray) (r1 : Int) (r2 : Option Int) (w : World) (hT : tabs w) (h : strconv_Atoi.f s = some (r1, r2)) :
    Calls Tryd.prog 34 #[.string s] w fun e w' => ∃ v_ : Value, e = .returned (.tuple #[.int .i64 r1, v_]) ∧ M.ErrV r2 v_ ∧ Below w.heap.size w w' := by
  unfold strconv_Atoi.f at h
  split at h
  · rename_i hc
    obtain ⟨_, _, _, ⟨t4, p4, h4⟩, ⟨t5, p5, h5⟩⟩ := hT
    split at h
    · rename_i v hv
      simp only [Option.some.injEq, Prod.mk.injEq] at h
      obtain ⟨rfl, rfl⟩ := h
      refine (Any.strconv_Atoi_ok Tryd.lays172 s (by omega) v hv w).mono fun e w' ⟨he, hw⟩ => ⟨_, he, .inl ⟨rfl, rfl⟩, ?_⟩
      rcases hw with rfl | ⟨t, rfl⟩
      · exact Below.refl _ _
      · exact bytes_below (Below.refl _ _) (Nat.le_refl _) _ _
    · rename_i hv
      simp only [Option.some.injEq, Prod.mk.injEq] at h
      obtain ⟨rfl, rfl⟩ := h
      exact (Any.strconv_Atoi_syntax_var Tryd.lays172 s hc hv t4 p4 w h4).mono fun e w' ⟨N_, he, _, _, hb⟩ => ⟨_, he, .inr ⟨rfl, _, _, rfl⟩, hb⟩
    · rename_i hv
      simp only [Option.some.injEq, Prod.mk.injEq] at h
      obtain ⟨rfl, rfl⟩ := h
      exact (Any.strconv_Atoi_range_var Tryd.lays172 s hc hv t5 p5 w h5).mono fun e w' ⟨N_, he, _, _, hb⟩ => ⟨_, he, .inr ⟨rfl, _, _, rfl⟩, hb⟩
  · cases h

def strings_Trim.sp (b : UInt8) : Bool := [32, 9].contains b
def strings_Trim.t (l : List UInt8) : List UInt8 := (((l.reverse.dropWhile strings_Trim.sp).reverse).dropWhile strings_Trim.sp)
def strings_Trim.f (s cutset : ByteArray) : Option ByteArray := if cutset.data.toList = [32, 9] ∧ s.size < 4294967281 then some ⟨(strings_Trim.t s.data.toList).toArray⟩ else none
theorem strings_Trim.first (x : ByteArray) (h : 0 < x.size) : ∃ l, x.data.toList = x[0] :: l ∧ (x.extract 1 x.size).data.toList = l := by
  have e := Lib.data_getElem? x 0 h
  cases hl : x.data.toList with
  | nil => rw [hl] at e; cases e
  | cons b l =>
    rw [hl] at e
    refine ⟨l, by rw [← Option.some.inj e], ?_⟩
    rw [Lib.extract_data, hl, List.drop_succ_cons, List.drop_zero, List.take_of_length_le]
    have := Lib.size_eq x
    rw [hl, List.length_cons] at this
    omega
theorem strings_Trim.last (x : ByteArray) (h : 0 < x.size) : ∃ l, x.data.toList = l ++ [x[x.size - 1]] ∧ (x.extract 0 (x.size - 1)).data.toList = l := by
  have e := Lib.data_getElem? x (x.size - 1) (by omega)
  have hz := Lib.size_eq x
  refine ⟨x.data.toList.take (x.size - 1), ?_, ?_⟩
  · have h1 : x.data.toList.take (x.size - 1 + 1) = x.data.toList := List.take_of_length_le (by omega)
    conv => lhs; rw [← h1]
    rw [List.take_add_one, e]; rfl
  · rw [Lib.extract_data]; simp
theorem strings_Trim.same (x : ByteArray) {l : List UInt8} (h : x.data.toList = l) : x = ⟨l.toArray⟩ := by
  apply ByteArray.ext; apply Array.toList_inj.1; rw [h]
set_option maxHeartbeats 4000000 in
set_option maxRecDepth 100000 in
theorem strings_Trim.left (b : Nat) (s : ByteArray) (w : World) (hset : ∀ x : UInt8, w.cell? ⟨b, x.toNat, none⟩ = some (.bool (strings_Trim.sp x))) :
    Calls Tryd.prog 56 #[.string s, .pointer (some ⟨b, 0, none⟩)] w fun e w' => e = .returned (.string ⟨(s.data.toList.dropWhile strings_Trim.sp).toArray⟩) ∧ Drawn0 w w' := by
  have HS := Aside0.mk hset
  clear hset
  have hu9 := Tryd.underlying9
  go_enter Tryd.func56, Tryd.ntmps56
  go_wp2
  go_loopg [0] (s.size + 1) (fun kq v0 w' => ∃ x : ByteArray, v0 = .string x ∧ Aside0 (x.data.toList.dropWhile strings_Trim.sp = s.data.toList.dropWhile strings_Trim.sp) ∧ Aside0 (x.size + 1 = kq) ∧ Drawn0 w w')
  case atStart => exact ⟨s, rfl, ⟨rfl⟩, ⟨rfl⟩, Drawn0.refl _⟩
  case round =>
    obtain ⟨x, rfl, HD, HK, ⟨m, rfl⟩⟩ := hrel
    cases gk with
    | zero => exact absurd HK.out (by omega)
    | succ k1 =>
      by_cases hx : 0 < x.size
      · have d0 : decide (0 < x.size) = true := decide_eq_true hx
        have d1 : decide (0 < (x.size : Int)) = true := decide_eq_true (by omega)
        obtain ⟨c, hc⟩ : ∃ c : UInt8, x[0] = c := ⟨_, rfl⟩
        have CC := Aside0.mk (Any.asciiSet_contains Tryd.lays228 b c (strings_Trim.sp c) (w.drewN m) (HS.out c))
        obtain ⟨l, hl1, hl2⟩ := strings_Trim.first x hx
        rw [hc] at hl1
        have HL1 := Aside0.mk hl1
        have HL2 := Aside0.mk hl2
        have hx5 : ∀ h : 0 < x.size, ((x[0]'h).toNat : Int) = (c.toNat : Int) := fun h => by rw [hc]
        have q5 : (0 < x.size) = True := eq_true hx
        have qi5 : (0 < (x.size : Int)) = True := eq_true (by omega)
        have c7b0 : (1 ≤ x.size) = True := eq_true (by omega)
        have c7b1 : decide (1 ≤ (x.size : Int)) = true := decide_eq_true (by omega)
        have c7b2 : (1 ≤ (x.size : Int)) = True := eq_true (by omega)
        have HX := Aside0.mk hx
        clear hl1 hl2 hc hx
        cases hp : strings_Trim.sp c with
        | true =>
          rw [hp] at CC
          have HP := Aside0.mk hp
          clear hp
          go_wp2_with (go_at_call 72; refine (CC.out).mono ?_; rintro e w' ⟨rfl, rfl⟩)
          go_roundg k1
          case measure => omega
          case rel => exact ⟨x.extract 1 x.size, rfl, ⟨by rw [HL2.out, ← HD.out, HL1.out, List.dropWhile_cons, HP.out]; rfl⟩, ⟨by have h1 := Lib.size_eq (x.extract 1 x.size); have h2 := Lib.size_eq x; rw [HL2.out] at h1; rw [HL1.out, List.length_cons] at h2; have := HK.out; omega⟩, by repeat (first | exact Drawn0.refl _ | apply Drawn0.step)⟩
        | false =>
          rw [hp] at CC
          have HP := Aside0.mk hp
          clear hp
          go_wp2_with (go_at_call 72; refine (CC.out).mono ?_; rintro e w' ⟨rfl, rfl⟩)
          go_ret
          exact ⟨by rw [← HD.out, HL1.out, List.dropWhile_cons, HP.out]; rw [strings_Trim.same x HL1.out]; rfl, by repeat (first | exact Drawn0.refl _ | apply Drawn0.step)⟩
      · have d0 : decide (0 < x.size) = false := decide_eq_false hx
        have d1 : decide (0 < (x.size : Int)) = false := decide_eq_false (by omega)
        have HX := Aside0.mk hx
        clear hx
        go_wp2
        go_ret
        exact ⟨by have h2 := Lib.size_eq x; have h3 : x.data.toList = [] := List.eq_nil_of_length_eq_zero (by have := HX.out; omega); rw [← HD.out, h3]; rw [strings_Trim.same x h3]; rfl, by repeat (first | exact Drawn0.refl _ | apply Drawn0.step)⟩
set_option maxHeartbeats 4000000 in
set_option maxRecDepth 100000 in
theorem strings_Trim.right (b : Nat) (s : ByteArray) (w : World) (hs : s.size < 4294967281) (hset : ∀ x : UInt8, w.cell? ⟨b, x.toNat, none⟩ = some (.bool (strings_Trim.sp x))) :
    Calls Tryd.prog 57 #[.string s, .pointer (some ⟨b, 0, none⟩)] w fun e w' => e = .returned (.string ⟨((s.data.toList.reverse.dropWhile strings_Trim.sp).reverse).toArray⟩) ∧ Drawn0 w w' := by
  have HS := Aside0.mk hset
  have HZ := Aside0.mk hs
  clear hset hs
  have hu9 := Tryd.underlying9
  go_enter Tryd.func57, Tryd.ntmps57
  go_wp2
  go_loopg [0] (s.size + 1) (fun kq v0 w' => ∃ x : ByteArray, v0 = .string x ∧ Aside0 (x.data.toList.reverse.dropWhile strings_Trim.sp = s.data.toList.reverse.dropWhile strings_Trim.sp) ∧ Aside0 (x.size + 1 = kq) ∧ Aside0 (x.size < 4294967281) ∧ Drawn0 w w')
  case atStart => exact ⟨s, rfl, ⟨rfl⟩, ⟨rfl⟩, HZ, Drawn0.refl _⟩
  case round =>
    obtain ⟨x, rfl, HD, HK, HW, ⟨m, rfl⟩⟩ := hrel
    cases gk with
    | zero => exact absurd HK.out (by omega)
    | succ k1 =>
      by_cases hx : 0 < x.size
      · have d0 : decide (0 < x.size) = true := decide_eq_true hx
        have d1 : decide (0 < (x.size : Int)) = true := decide_eq_true (by omega)
        obtain ⟨c, hc⟩ : ∃ c : UInt8, x[x.size - 1] = c := ⟨_, rfl⟩
        have CC := Aside0.mk (Any.asciiSet_contains Tryd.lays228 b c (strings_Trim.sp c) (w.drewN m) (HS.out c))
        obtain ⟨l, hl1, hl2⟩ := strings_Trim.last x hx
        rw [hc] at hl1
        have HL1 := Aside0.mk hl1
        have HL2 := Aside0.mk hl2
        have hw := HW.out
        have e64 : wrap64 ((x.size : Int) - 1) = ((x.size - 1 : Nat) : Int) := by unfold wrap64; omega
        obtain ⟨n, hn⟩ : ∃ n : Nat, x.size - 1 = n := ⟨_, rfl⟩
        have hn1 : n < x.size := by omega
        rw [hn] at e64
        have hx5 : ∀ h : n < x.size, ((x[n]'h).toNat : Int) = (c.toNat : Int) := fun h => by subst hn; rw [hc]
        have e64w : IntKind.i64.wrap ((x.size : Int) - 1) = (n : Int) := (i64_w _).trans e64
        have q5 : (n < x.size) = True := eq_true hn1
        have p5 : (0 ≤ (n : Int)) = True := eq_true (by omega)
        have qi5 : ((n : Int) < (x.size : Int)) = True := eq_true (by omega)
        have c7b0 : (n ≤ x.size) = True := eq_true (by omega)
        have c7b1 : decide ((n : Int) ≤ (x.size : Int)) = true := decide_eq_true (by omega)
        have c7b2 : ((n : Int) ≤ (x.size : Int)) = True := eq_true (by omega)
        have HX := Aside0.mk hx
        have HN := Aside0.mk hn
        clear hl1 hl2 hc hx hw hn1 hn
        cases hp : strings_Trim.sp c with
        | true =>
          rw [hp] at CC
          have HP := Aside0.mk hp
          clear hp
          go_wp2_with (go_at_call 72; refine (CC.out).mono ?_; rintro e w' ⟨rfl, rfl⟩)
          go_roundg k1
          case measure => omega
          case rel => exact ⟨x.extract 0 n, rfl, ⟨by rw [← HN.out, HL2.out, ← HD.out, HL1.out, List.reverse_append, List.reverse_singleton, List.singleton_append, List.dropWhile_cons, HP.out]; rfl⟩, ⟨by have h1 := Lib.size_eq (x.extract 0 (x.size - 1)); have h2 := Lib.size_eq x; rw [HL2.out] at h1; rw [HL1.out, List.length_append, List.length_singleton] at h2; rw [HN.out] at h1; have := HK.out; omega⟩, ⟨by have h1 := Lib.size_eq (x.extract 0 (x.size - 1)); have h2 := Lib.size_eq x; rw [HL2.out] at h1; rw [HL1.out, List.length_append, List.length_singleton] at h2; rw [HN.out] at h1; have := HW.out; omega⟩, by repeat (first | exact Drawn0.refl _ | apply Drawn0.step)⟩
        | false =>
          rw [hp] at CC
          have HP := Aside0.mk hp
          clear hp
          go_wp2_with (go_at_call 72; refine (CC.out).mono ?_; rintro e w' ⟨rfl, rfl⟩)
          go_ret
          exact ⟨by rw [← HD.out, HL1.out, List.reverse_append, List.reverse_singleton, List.singleton_append, List.dropWhile_cons, HP.out]; rw [strings_Trim.same x HL1.out]; simp, by repeat (first | exact Drawn0.refl _ | apply Drawn0.step)⟩
      · have d0 : decide (0 < x.size) = false := decide_eq_false hx
        have d1 : decide (0 < (x.size : Int)) = false := decide_eq_false (by omega)
        have HX := Aside0.mk hx
        clear hx
        go_wp2
        go_ret
        exact ⟨by have h2 := Lib.size_eq x; have h3 : x.data.toList = [] := List.eq_nil_of_length_eq_zero (by have := HX.out; omega); rw [← HD.out, h3]; rw [strings_Trim.same x h3]; rfl, by repeat (first | exact Drawn0.refl _ | apply Drawn0.step)⟩
set_option maxHeartbeats 8000000 in
set_option maxRecDepth 1000000 in
theorem strings_Trim.calls (s cutset : ByteArray) (r : ByteArray) (w : World) (h : strings_Trim.f s cutset = some r) :
    Calls Tryd.prog 39 #[.string s, .string cutset] w fun e w' => e = .returned (.string r) ∧ Below w.heap.size w w' := by
  unfold strings_Trim.f at h
  split at h
  case isFalse => cases h
  rename_i hc
  obtain ⟨hcut, hs⟩ := hc
  obtain rfl := Option.some.inj h
  obtain rfl := strings_Trim.same cutset hcut
  clear hcut h
  by_cases h0 : s.size = 0
  · have h3 : s.data.toList = [] := List.eq_nil_of_length_eq_zero (by rw [← Lib.size_eq]; exact h0)
    obtain rfl := strings_Trim.same s h3
    clear h0 h3 hs
    go_enter Tryd.func39, Tryd.ntmps39
    go_wp2
    go_ret
    exact ⟨rfl, by repeat (first | exact Below.refl _ _ | apply pw_below_drewN | apply below_drew1)⟩
  · have hv : ∀ w, (zeroValue 70).run Tryd.prog w = .ok (.agg (Array.replicate 256 (.bool false))) w := by intro w; rfl
    have hi : (Tryd.prog.info? 70).map (·.size) = some 256 := by kernel_rfl
    have hM := Any.strings_makeASCIISet Tryd.lays227 hv hi ⟨[32, 9].toArray⟩ w (by decide) (by intro j b hb; have hm := List.mem_of_getElem? hb; simp at hm; rcases hm with rfl | rfl <;> decide)
    rw [show Tryd.lays227_ren.t 116 = 70 from rfl] at hM
    have hsc : (storeCells ⟨w.heap.size + 1, 0, none⟩ (Lib.setCells [32, 9]).toList 0).run Tryd.prog ((w.alloc (.cells (Lib.setCells [32, 9]) 70)).alloc (.cells (Array.replicate 256 (.bool false)) 70)) = .ok () ((w.alloc (.cells (Lib.setCells [32, 9]) 70)).alloc (.cells (Lib.setCells [32, 9]) 70)) := by
      have := run_storeCells_new (P := Tryd.prog) (w.alloc (.cells (Lib.setCells [32, 9]) 70)) 70 (Array.replicate 256 (.bool false)) (Lib.setCells [32, 9]) (by rw [Lib.setCells_size]; exact hi) (by rw [Lib.setCells_size, Array.size_replicate]) (Lib.setCells_one _)
      simpa using this
    have HC := Aside0.mk (show ∀ x : UInt8, ((w.alloc (.cells (Lib.setCells [32, 9]) 70)).alloc (.cells (Lib.setCells [32, 9]) 70)).cell? ⟨w.heap.size + 1, x.toNat, none⟩ = some (.bool (strings_Trim.sp x)) from fun x => by rw [World.cell?_alloc_at _ _ _ _ (by simp), Lib.setCells_at]; rfl)
    have HB := Aside0.mk (show Below w.heap.size w ((w.alloc (.cells (Lib.setCells [32, 9]) 70)).alloc (.cells (Lib.setCells [32, 9]) 70)) from below_alloc (below_alloc (Below.refl _ _) _) _)
    have RR := Aside0.mk (strings_Trim.right (w.heap.size + 1) s ((w.alloc (.cells (Lib.setCells [32, 9]) 70)).alloc (.cells (Lib.setCells [32, 9]) 70)) hs HC.out)
    have LL := Aside0.mk (fun n => strings_Trim.left (w.heap.size + 1) ⟨((s.data.toList.reverse.dropWhile strings_Trim.sp).reverse).toArray⟩ (((w.alloc (.cells (Lib.setCells [32, 9]) 70)).alloc (.cells (Lib.setCells [32, 9]) 70)).drewN n) HC.out)
    have e1 : (s.toList == []) = false := beq_eq_false_iff_ne.mpr (by rw [Lib.toList_data]; intro h; exact h0 (by rw [Lib.size_eq, h]; rfl))
    have e2 : (s.toList = []) = False := eq_false (by rw [Lib.toList_data]; intro h; exact h0 (by rw [Lib.size_eq, h]; rfl))
    have e3 : s.toList.isEmpty = false := by rw [Lib.toList_data]; cases h : s.data.toList with
      | nil => exact absurd (by rw [Lib.size_eq, h]; rfl) h0
      | cons _ _ => rfl
    clear h0 hs
    go_enter Tryd.func39, Tryd.ntmps39
    go_wp2_with (first | (go_at_call 55; refine hM.mono ?_; rintro e w' ⟨rfl, hw⟩; rw [hw]) | (go_at_call 57; refine (RR.out).mono ?_; rintro e w' ⟨rfl, ⟨nd, rfl⟩⟩) | (go_at_call 56; refine (LL.out _).mono ?_; rintro e w' ⟨rfl, ⟨nd2, rfl⟩⟩))
    go_ret
    exact ⟨rfl, by repeat (first | (with_reducible first | exact HB.out | apply pw_below_drewN | apply below_drew1) | exact HB.out)⟩

def http_small.lo (x : Int) : Int := if 65 ≤ x ∧ x ≤ 90 then x + 32 else x
def http_small.f (s : ByteArray) : Option ByteArray := if s.size < 35184372088832 then some ⟨(Lib.mapD http_small.lo s.data.toList).toArray⟩ else none
theorem http_small.extra : Builder.Extra Tryd.prog Tryd.lays230_ren where
  sizeBuilder := by kernel_rfl
  liesBuilder := by kernel_rfl
  t5 := Tryd.underlying5
  a5 := Tryd.isAgg5
  z5 := Tryd.sizeOf5
  v5 := Tryd.zeroValue5
  infoByte := by kernel_rfl
  cellsByte := by kernel_rfl
  sizeByte := by kernel_rfl
  neB5 := by decide
set_option maxRecDepth 100000 in
theorem http_small.one (x : Nat) (hx : x ≤ 1114111) (W : World) : Calls Tryd.prog 61 #[.int .i32 (x : Int)] W fun e w' => e = .returned (.int .i32 (http_small.lo x)) ∧ ∃ q, w' = W.drewN q := by
  by_cases c1 : (65 : Int) ≤ (x : Int)
  · have d1 : decide ((65 : Int) ≤ (x : Int)) = true := decide_eq_true c1
    by_cases c2 : (x : Int) ≤ 90
    · have d2 : decide ((x : Int) ≤ 90) = true := decide_eq_true c2
      have e1 : http_small.lo x = (x : Int) + 32 := if_pos ⟨c1, c2⟩
      have e2 : wrap32 ((wrap32 ((x : Int) + 97)) - 65) = (x : Int) + 32 := by unfold wrap32; omega
      have E := Aside0.mk (e2.trans e1.symm)
      clear c1 c2 e1 e2
      go_enter Tryd.func61, Tryd.ntmps61
      go_wp2
      go_ret
      refine ⟨?_, 0, rfl⟩
      rw [← E.out]
      have b1 := of_decide_eq_true d1
      have b2 := of_decide_eq_true d2
      simp only [Ending.returned.injEq]
      first | rfl | (simp; unfold wrap32; omega)
    · have d2 : decide ((x : Int) ≤ 90) = false := decide_eq_false c2
      have e1 : http_small.lo x = (x : Int) := if_neg (fun h => c2 h.2)
      have E := Aside0.mk e1
      clear c1 c2 e1
      go_enter Tryd.func61, Tryd.ntmps61
      go_wp2
      go_ret
      refine ⟨?_, 0, rfl⟩
      rw [E.out]
      rfl
  · have d1 : decide ((65 : Int) ≤ (x : Int)) = false := decide_eq_false c1
    have e1 : http_small.lo x = (x : Int) := if_neg (fun h => c1 h.1)
    have E := Aside0.mk e1
    clear c1 e1
    go_enter Tryd.func61, Tryd.ntmps61
    go_wp2
    go_ret
    refine ⟨?_, 0, rfl⟩
    rw [E.out]
    rfl
theorem http_small.calls (s : ByteArray) (r : ByteArray) (w : World) (hT : tabs w) (h : http_small.f s = some r) :
    Calls Tryd.prog 40 #[.string s] w fun e w' => e = .returned (.string r) ∧ Below w.heap.size w w' := by
  unfold http_small.f at h
  split at h
  · rename_i hc
    obtain rfl := Option.some.inj h
    have S_ := Aside0.mk (Any.strings_Map_runes Tryd.lays230 http_small.extra 61 #[] (enters_of Tryd.func61 (by kernel_rfl) rfl) http_small.lo s w hc (fun W x hx hb => http_small.one x hx W) (fun x hx => by unfold http_small.lo; split <;> omega) hT.1)
    clear h
    go_enter Tryd.func40, Tryd.ntmps40
    go_wp2_with (go_at_call 60; refine (S_.out).mono ?_; rintro e w' ⟨rfl, hb⟩)
    go_ret
    exact ⟨rfl, hb⟩
  · cases h

end Go.Proofs.YtpigloohccpfiaaDoor.G
