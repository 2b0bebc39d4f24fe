/- The program's reader: its small methods. -/
import Derived.WalkKit
import Derived.Deep.QuietTactic
import Derived.Deep.RegionHeld3
import Derived.BigQuiet
import Derived.RegionTactic
import Derived.Deep.RegionLaw
import Derived.Laws.NewBlocks
import Derived.WalkLawsBesides
import Derived.Test.YtlmmbefejmbpeaaDoorMArith
import Derived.Test.YtlmmbefejmbpeaaDoorMQuery
import Derived.Test.YtlmmbefejmbpeaaDoorPQry0x1
import Derived.Test.YtlmmbefejmbpeaaDoorShelf
import Derived.Test.YtlmmbefejmbpeaaDoorPureQryW
import Derived.Test.YtlmmbefejmbpeaaDoorMTabs
import Derived.Shelf.Strconv.ErrVarParseInt
import Derived.Lib.ParseIntBTie
namespace Go.Proofs.YtlmmbefejmbpeaaDoor.M
open Go.RowKit Go.Proofs.Qp Go.Proofs.YtlmmbefejmbpeaaDoorW.PrintWords Go.Proofs.YtlmmbefejmbpeaaDoorW.PrintLast Go.Proofs.YtlmmbefejmbpeaaDoorW.PrintMore Go.Proofs.YtlmmbefejmbpeaaDoor.PQry0
set_option linter.unusedVariables false
set_option linter.unusedSimpArgs false
/-- what was there, but for S, is as it was -/
structure Kp (S : Nat → Prop) (w w' : World) : Prop where
  os : w'.os = w.os
  tape : w'.tape = w.tape
  output : w'.output = w.output
  size : w.heap.size ≤ w'.heap.size
  block : ∀ k, k < w.heap.size → ¬ S k → w'.heap[k]? = w.heap[k]?
theorem Kp.refl (S : Nat → Prop) (w : World) : Kp S w w := ⟨rfl, rfl, rfl, Nat.le_refl _, fun _ _ _ => rfl⟩
theorem Kp.trans {S : Nat → Prop} {a b c : World} (h : Kp S a b) (k : Kp S b c) : Kp S a c :=
  ⟨k.os.trans h.os, k.tape.trans h.tape, k.output.trans h.output, Nat.le_trans h.size k.size, fun i hi hs => (k.block i (Nat.lt_of_lt_of_le hi h.size) hs).trans (h.block i hi hs)⟩
theorem Kp.drew {S : Nat → Prop} {a w : World} (h : Kp S a w) : Kp S a w.drew := ⟨h.os, h.tape, h.output, h.size, h.block⟩
theorem Kp.drewN {S : Nat → Prop} {a w : World} (h : Kp S a w) (n : Nat) : Kp S a (w.drewN n) := ⟨h.os, h.tape, h.output, h.size, h.block⟩
theorem Kp.alloc {S : Nat → Prop} {a w : World} (h : Kp S a w) (o : Obj) : Kp S a (w.alloc o) := h.trans ⟨rfl, rfl, rfl, by simp, fun k hk _ => Below.heap_alloc w o k hk⟩
theorem Kp.setCell {S : Nat → Prop} {a w : World} (h : Kp S a w) {p : Addr} (hp : S p.block) (u : Value) : Kp S a (w.setCell p u) :=
  h.trans ⟨rfl, rfl, rfl, by simp, fun k _ hs => Below.heap_setCell w p u k (fun e => hs (e ▸ hp))⟩
theorem Kp.of_below {S : Nat → Prop} {a w : World} (h : Below a.heap.size a w) : Kp S a w := ⟨h.os, h.tape, h.output, h.size, fun k hk _ => h.block k hk⟩
/-- the reader: the text, the place, how many are open -/
def RdAt (w : World) (g : Nat) (s : ByteArray) (a o : Nat) : Prop := w.heap[g]? = some (.cells #[.string s, .int .i64 (a : Int), .int .i64 (o : Int)] 48 (0, 0))
abbrev rp (g : Nat) : Value := .pointer (some ⟨g, 0, none⟩)
abbrev lt (s : ByteArray) : List UInt8 := s.data.toList
theorem RdAt.cells {w : World} {g : Nat} {s : ByteArray} {a o : Nat} (h : RdAt w g s a o) : w.cell? ⟨g, 0, none⟩ = some (.string s) ∧ w.cell? ⟨g, 1, none⟩ = some (.int .i64 (a : Int)) ∧ w.cell? ⟨g, 2, none⟩ = some (.int .i64 (o : Int)) ∧ w.frozen? ⟨g, 1, none⟩ = false ∧ w.frozen? ⟨g, 2, none⟩ = false :=
  ⟨blk_cell h 0, blk_cell h 1, blk_cell h 2, blk_frozen h 1, blk_frozen h 2⟩
theorem RdAt.lt {w : World} {g : Nat} {s : ByteArray} {a o : Nat} (h : RdAt w g s a o) : g < w.heap.size := blk_lt h
theorem skip_at {l : List UInt8} {i : Nat} (h : l[i]? = some 32) : skip l i = skip l (i + 1) := by
  have hi := (List.getElem?_eq_some_iff.1 h).1
  have he := (List.getElem?_eq_some_iff.1 h).2
  unfold skip
  rw [List.drop_eq_getElem_cons hi, List.takeWhile_cons, he]
  simp; omega
theorem skip_stop {l : List UInt8} {i : Nat} (h : ∀ c, l[i]? = some c → c ≠ 32) : skip l i = i := by
  unfold skip
  rcases Nat.lt_or_ge i l.length with hi | hi
  · rw [List.drop_eq_getElem_cons hi, List.takeWhile_cons]
    have := h _ (List.getElem?_eq_getElem hi)
    rw [if_neg (by simpa using this)]; simp
  · rw [List.drop_eq_nil_iff.2 hi]; simp
/-- give: it panics by the fault -/
theorem give_any (a : Nat) (e : Int) (w : World) : Calls Tryd.prog 19 #[.int .i64 (a : Int), .int .i64 e] w fun en w' => en = .panicked [{ v := .iface 44 (.agg #[.int .i64 (a : Int), .int .i64 e]), recovered := false }] ∧ w' = w := by
  go_enter Tryd.func19, Tryd.ntmps19
  go_wp2
  exact ⟨rfl, rfl, rfl⟩
end Go.Proofs.YtlmmbefejmbpeaaDoor.M
namespace Go.Proofs.YtlmmbefejmbpeaaDoor.M
open Go.RowKit Go.Proofs.Qp Go.Proofs.YtlmmbefejmbpeaaDoorW.PrintWords Go.Proofs.YtlmmbefejmbpeaaDoorW.PrintLast Go.Proofs.YtlmmbefejmbpeaaDoorW.PrintMore Go.Proofs.YtlmmbefejmbpeaaDoor.PQry0
set_option linter.unusedVariables false
set_option linter.unusedSimpArgs false
theorem byte_eq (s : ByteArray) {i : Nat} (h : i < s.size) : (lt s)[i]? = some s[i] := by
  rw [List.getElem?_eq_getElem (by simpa using h)]; rfl
theorem skip_next (l : List UInt8) (i : Nat) : skip l i = if l[i]? = some 32 then skip l (i + 1) else i := by
  split
  · rename_i h; exact skip_at h
  · rename_i h; exact skip_stop fun c hc e => h (by rw [hc, e])
def posOf (g : Nat) (w : World) : Nat := match w.cell? ⟨g, 1, none⟩ with
  | some v => (intOf v).toNat
  | none => 0
theorem RdAt.pos {w : World} {g : Nat} {s : ByteArray} {a o : Nat} (h : RdAt w g s a o) : posOf g w = a := by
  unfold posOf; rw [h.cells.2.1]; simp [intOf]
theorem RdAt.setA {w : World} {g : Nat} {s : ByteArray} {a o b : Nat} (h : RdAt w g s a o) {x : Int} (e : x = (b : Int)) : RdAt (w.setCell ⟨g, 1, none⟩ (.int .i64 x)) g s b o := by
  subst e; exact blk_put h 1 _ rfl
theorem RdAt.setO {w : World} {g : Nat} {s : ByteArray} {a o b : Nat} (h : RdAt w g s a o) {x : Int} (e : x = (b : Int)) : RdAt (w.setCell ⟨g, 2, none⟩ (.int .i64 x)) g s a b := by
  subst e; exact blk_put h 2 _ rfl
theorem RdAt.drew {w : World} {g : Nat} {s : ByteArray} {a o : Nat} (h : RdAt w g s a o) : RdAt w.drew g s a o := h
theorem RdAt.old {w w' : World} {g : Nat} {s : ByteArray} {a o : Nat} (h : RdAt w g s a o) (hb : Below w.heap.size w w') : RdAt w' g s a o := (hb.block g h.lt).trans h
set_option maxHeartbeats 4000000 in
theorem skip_any {w : World} {g : Nat} {s : ByteArray} {a o : Nat} (h : RdAt w g s a o) (hs : s.size ≤ 1000) (ha : a ≤ s.size) :
    Calls Tryd.prog 18 #[rp g] w fun e w' => e = .returned (.tuple #[]) ∧ RdAt w' g s (skip (lt s) a) o ∧ Kp (fun k => k = g) w w' := by
  have H := Aside0.mk h
  clear h
  go_enter Tryd.func18, Tryd.ntmps18
  go_wp2
  go_loopw [] (fun wq => ∃ b : Nat, a ≤ b ∧ b ≤ s.size ∧ Aside0 (RdAt wq g s b o) ∧ Aside0 (skip (lt s) b = skip (lt s) a) ∧ Aside0 (Kp (fun k => k = g) w wq)) (fun wq => s.size - posOf g wq)
  case atStart => exact ⟨a, Nat.le_refl _, ha, H, ⟨rfl⟩, ⟨Kp.refl _ _⟩⟩
  case round =>
    obtain ⟨b, hab, hb, HB, HE, HK⟩ := hrel
    obtain ⟨c0, c1, c2, f1, f2⟩ := HB.out.cells
    by_cases hlt : b < s.size
    · have hb0 : (0 : Int) ≤ (b : Int) := by omega
      have hb1 : (b : Int) < (s.size : Int) := by omega
      have hd : decide (b < s.size) = true := decide_eq_true hlt
      have hby := byte_eq s hlt
      by_cases h32 : s[b] = 32
      · have q1 : ((s[b].toNat : Int) == 32) = true := by rw [h32]; rfl
        have q2 : s[b].toNat = 32 := by rw [h32]; rfl
        have HE2 : Aside0 (skip (lt s) (b + 1) = skip (lt s) a) := ⟨by rw [← HE.out]; exact (skip_at (by rw [hby, h32])).symm⟩
        have Q2 := Aside0.mk q2
        clear hby h32 q2
        go_wp2
        go_region_held3 (fun W' => W'.cell? ⟨g, 0, none⟩ = some (.string s) ∧ W'.cell? ⟨g, 1, none⟩ = some (.int .i64 (b : Int))) (go_keep) (fail)
        go_wp2
        have HN := HB.out.setA (b := b + 1) (x := (b : Int) + 1) (by omega)
        refine ⟨⟨b + 1, by omega, by omega, ⟨HN.drew⟩, HE2, ⟨(HK.out.setCell (p := ⟨g, 1, none⟩) rfl _).drew⟩⟩, ?_⟩
        rw [HN.drew.pos, HB.out.pos]; omega
      · have q1 : ((s[b].toNat : Int) == 32) = false := by
          have : s[b].toNat ≠ 32 := fun e => h32 (UInt8.toNat_inj.1 (by simpa using e))
          simp; omega
        have q2 : ¬ (s[b].toNat : Int) = 32 := by simpa using q1
        have q3 : ¬ s[b].toNat = 32 := by omega
        have HE2 : Aside0 (b = skip (lt s) a) := ⟨by rw [← HE.out]; exact (skip_stop fun c hc => by rw [hby] at hc; cases hc; exact h32).symm⟩
        clear hby h32
        go_wp2
        go_region_held3 (fun W' => W'.cell? ⟨g, 0, none⟩ = some (.string s) ∧ W'.cell? ⟨g, 1, none⟩ = some (.int .i64 (b : Int))) (go_keep) (fail)
        go_wp2
        go_end0
        exact ⟨rfl, by rw [← HE2.out]; exact HB.out.drew, HK.out.drew⟩
    · have hbe : b = s.size := by omega
      have HE2 : Aside0 (b = skip (lt s) a) := ⟨by rw [← HE.out]; exact (skip_stop fun c hc => by rw [List.getElem?_eq_none (by simp; omega)] at hc; cases hc).symm⟩
      have hd : decide (b < s.size) = false := decide_eq_false hlt
      clear hbe
      go_wp2
      go_region
      go_wp2
      go_end0
      exact ⟨rfl, by rw [← HE2.out]; exact HB.out.drew, HK.out.drew⟩
abbrev faultV (a : Nat) (e : Int) : List PanicEntry := [{ v := .iface 44 (.agg #[.int .i64 (a : Int), .int .i64 e]), recovered := false }]
set_option maxHeartbeats 4000000 in
/-- one more is open, if there is room -/
theorem deeper_ok {w : World} {g : Nat} {s : ByteArray} {a o : Nat} (h : RdAt w g s a o) (b : Nat) (h16 : ¬ 16 < o + 1) :
    Calls Tryd.prog 46 #[rp g, .int .i64 (b : Int)] w fun e w' => e = .returned (.tuple #[]) ∧ RdAt w' g s a (o + 1) ∧ Kp (fun k => k = g) w w' := by
  obtain ⟨c0, c1, c2, f1, f2⟩ := h.cells
  have HN := Aside0.mk (h.setO (b := o + 1) (x := (o : Int) + 1) (by omega))
  have HK := Aside0.mk ((Kp.refl (fun k => k = g) w).setCell (p := ⟨g, 2, none⟩) rfl (.int .i64 ((o : Int) + 1)))
  have h16' : ¬ (16 : Int) < (o : Int) + 1 := by omega
  clear h
  go_enter Tryd.func46, Tryd.ntmps46
  go_wp2
  go_end0
  exact ⟨rfl, HN.out, HK.out⟩
set_option maxHeartbeats 4000000 in
theorem deeper_no {w : World} {g : Nat} {s : ByteArray} {a o : Nat} (h : RdAt w g s a o) (b : Nat) (ho : o ≤ 1000) (h16 : 16 < o + 1) :
    Calls Tryd.prog 46 #[rp g, .int .i64 (b : Int)] w fun e w' => e = .panicked (faultV b 7) ∧ Kp (fun k => k = g) w w' := by
  obtain ⟨c0, c1, c2, f1, f2⟩ := h.cells
  have HK := Aside0.mk ((Kp.refl (fun k => k = g) w).setCell (p := ⟨g, 2, none⟩) rfl (.int .i64 ((o : Int) + 1)))
  have h16' : (16 : Int) < (o : Int) + 1 := by omega
  clear h
  go_enter Tryd.func46, Tryd.ntmps46
  go_wp2_with (first | (go_at_call 19; refine (give_any b 7 _).mono ?_; rintro e w2 ⟨rfl, rfl⟩))
  exact ⟨rfl, rfl, HK.out⟩
end Go.Proofs.YtlmmbefejmbpeaaDoor.M
namespace Go.Proofs.YtlmmbefejmbpeaaDoor.M
open Go.RowKit Go.Shelf Go.Proofs.Qp Go.Proofs.YtlmmbefejmbpeaaDoorW.PrintWords Go.Proofs.YtlmmbefejmbpeaaDoorW.PrintLast Go.Proofs.YtlmmbefejmbpeaaDoorW.PrintMore Go.Proofs.YtlmmbefejmbpeaaDoor.PQry0
set_option linter.unusedVariables false
set_option linter.unusedSimpArgs false
/-- The answer, kept shut from simp. -/
def preB (s p : ByteArray) : Bool := (lt p).isPrefixOf (lt s)
theorem pre_any (s p : ByteArray) (w : World) : Calls Tryd.prog 48 #[.string s, .string p] w fun e w' => e = .returned (.bool (preB s p)) ∧ w = w' :=
  (Any.strings_HasPrefix Tryd.lays99 s p w).mono fun e w' ⟨h1, h2⟩ => ⟨h1, h2.symm⟩
theorem stop_idx (c : UInt8) : decide (0 ≤ Lib.indexByte [32, 40, 41] c) = stop c := by
  unfold stop
  simp only [Lib.indexByte]
  by_cases h1 : c = 32
  · subst h1; decide
  · by_cases h2 : c = 40
    · subst h2; decide
    · by_cases h3 : c = 41
      · subst h3; decide
      · have e1 : (32 == c) = false := by simpa using fun e => h1 e.symm
        have e2 : (40 == c) = false := by simpa using fun e => h2 e.symm
        have e3 : (41 == c) = false := by simpa using fun e => h3 e.symm
        simp [e1, e2, e3, h1, h2, h3]
theorem idx_any (c : UInt8) (w : World) : Calls Tryd.prog 49 #[.string ⟨#[32, 40, 41]⟩, .int .u8 (c.toNat : Int)] w fun e w' => e = .returned (.int .i64 (Lib.indexByte [32, 40, 41] c)) ∧ w = w' := by
  refine (Any.strings_IndexByte Tryd.lays137 ⟨#[32, 40, 41]⟩ (c.toNat : Int) w).mono fun e w' ⟨h1, h2⟩ => ⟨?_, h2.symm⟩
  rw [h1]
  have : ((c.toNat : Int)).toNat.toUInt8 = c := by simp
  rw [this]
theorem extract_drop (s : ByteArray) (a : Nat) : lt (s.extract a s.size) = (lt s).drop a := by
  show (s.extract a s.size).data.toList = s.data.toList.drop a
  simp
  rw [List.take_of_length_le (by simp)]
set_option maxHeartbeats 4000000 in
theorem is_any {w : World} {g : Nat} {s : ByteArray} {a o : Nat} (h : RdAt w g s a o) (p : ByteArray) (hs : s.size ≤ 1000) (ha : a ≤ s.size) :
    Calls Tryd.prog 39 #[rp g, .string p] w fun e w' => e = .returned (.bool (isB (lt s) a (lt p))) ∧ Below w.heap.size w w' := by
  obtain ⟨c0, c1, c2, f1, f2⟩ := h.cells
  clear h
  have hb0 : (0 : Int) ≤ (a : Int) := by omega
  have hb1 : (a : Int) ≤ (s.size : Int) := by omega
  have HE : Aside0 (preB (s.extract a s.size) p = isB (lt s) a (lt p)) := ⟨by unfold preB isB; rw [extract_drop]⟩
  go_enter Tryd.func39, Tryd.ntmps39
  go_wp2
  go_region_held3 (fun W' => W'.cell? ⟨g, 0, none⟩ = some (.string s) ∧ W'.cell? ⟨g, 1, none⟩ = some (.int .i64 (a : Int))) (go_keep) (first
    | (go_at_call 48; refine (pre_any _ _ _).mono ?_; rintro e w1 ⟨rfl, rfl⟩))
  go_wp2
  go_ret
  refine ⟨?_, ⟨rfl, rfl, rfl, Nat.le_refl _, fun _ _ => rfl⟩⟩
  rw [← HE.out]
  rfl
set_option maxHeartbeats 4000000 in
theorem end_any {w : World} {g : Nat} {s : ByteArray} {a o : Nat} (h : RdAt w g s a o) (b : Nat) (hs : s.size ≤ 1000) (hb : b ≤ 2000) :
    Calls Tryd.prog 40 #[rp g, .int .i64 (b : Int)] w fun e w' => e = .returned (.bool (endB (lt s) b)) ∧ w = w' := by
  obtain ⟨c0, c1, c2, f1, f2⟩ := h.cells
  clear h
  by_cases hlt : b < s.size
  · have hb0 : (0 : Int) ≤ (b : Int) := by omega
    have hb1 : (b : Int) < (s.size : Int) := by omega
    have hby := byte_eq s hlt
    have HE : Aside0 (endB (lt s) b = decide (0 ≤ Lib.indexByte [32, 40, 41] s[b])) := ⟨by rw [stop_idx]; unfold endB; rw [hby]⟩
    clear hby
    go_enter Tryd.func40, Tryd.ntmps40
    go_wp2_with (first | (go_at_call 49; refine (idx_any _ _).mono ?_; rintro e w1 ⟨rfl, rfl⟩))
    go_ret
    refine ⟨?_, rfl⟩
    rw [HE.out]
    simp
    exact fun h => absurd hlt (by omega)
  · have hb1 : (s.size : Int) ≤ (b : Int) := by omega
    have HE : Aside0 (endB (lt s) b = true) := ⟨by unfold endB; rw [List.getElem?_eq_none (by simp; omega)]⟩
    go_enter Tryd.func40, Tryd.ntmps40
    go_wp2
    go_ret
    exact ⟨by rw [HE.out]; rfl, rfl⟩
end Go.Proofs.YtlmmbefejmbpeaaDoor.M
namespace Go.Proofs.YtlmmbefejmbpeaaDoor.M
open Go.RowKit Go.Shelf Go.Proofs.Qp Go.Proofs.YtlmmbefejmbpeaaDoorW.PrintWords Go.Proofs.YtlmmbefejmbpeaaDoorW.PrintLast Go.Proofs.YtlmmbefejmbpeaaDoorW.PrintMore Go.Proofs.YtlmmbefejmbpeaaDoor.PQry0
set_option linter.unusedVariables false
set_option linter.unusedSimpArgs false
def keyB (l : List UInt8) (a : Nat) (p : List UInt8) : Bool := isB l (skip l a) p && endB l (skip l a + p.length)
set_option maxHeartbeats 4000000 in
theorem key_yes {w : World} {g : Nat} {s : ByteArray} {a o : Nat} (h : RdAt w g s a o) (p : ByteArray) (hs : s.size ≤ 1000) (ha : a ≤ s.size) (hp : p.size ≤ 10)
    (h1 : isB (lt s) (skip (lt s) a) (lt p) = true) (h2 : endB (lt s) (skip (lt s) a + p.size) = true) :
    Calls Tryd.prog 29 #[rp g, .string p] w fun e w' => e = .returned (.bool true) ∧ RdAt w' g s (skip (lt s) a + p.size) o ∧ Kp (fun k => k = g) w w' := by
  have H := Aside0.mk h
  have hle := skip_le (lt s) (i := a) (by simpa using ha)
  simp only [Array.length_toList] at hle
  have hle2 : skip (lt s) a ≤ s.size := hle
  clear hle
  have H1 := Aside0.mk h1
  have H2 := Aside0.mk h2
  have HG : Aside0 (skip (lt s) a = skip (lt s) a) := ⟨rfl⟩
  clear h h1 h2
  revert hle2 H1 H2 HG
  generalize hb : skip (lt s) a = b
  intro hle2 H1 H2 HG
  have hb0 : (0 : Int) ≤ (b : Int) := by omega
  have HB := Aside0.mk hb
  clear hb
  go_enter Tryd.func29, Tryd.ntmps29
  go_wp2_with (first
    | (go_at_call 18; refine (skip_any H.out hs ha).mono ?_; rintro e w1 ⟨rfl, hR, hK⟩; rw [HB.out] at hR; obtain ⟨c0, c1, c2, f1, f2⟩ := hR.cells; have HR := Aside0.mk hR; have HK := Aside0.mk hK; clear hR hK)
    | (go_at_call 39; refine (is_any HR.out p hs hle2).mono ?_; rintro e w2 ⟨rfl, hBl⟩; rw [H1.out]; have HR2 := Aside0.mk (HR.out.old hBl); have HK2 := Aside0.mk (HK.out.trans (Kp.of_below hBl)); obtain ⟨d0, d1, d2, e1, e2⟩ := HR2.out.cells; clear hBl)
    | (go_at_call 40; refine (end_any HR2.out (b + p.size) hs (by omega)).mono ?_; rintro e w3 ⟨rfl, rfl⟩; rw [H2.out]))
  have HN := HR2.out.setA (b := b + p.size) (x := (b : Int) + (p.size : Int)) (by omega)
  go_ret
  exact ⟨rfl, HN, HK2.out.setCell (p := ⟨g, 1, none⟩) rfl _⟩
set_option maxHeartbeats 4000000 in
theorem key_no {w : World} {g : Nat} {s : ByteArray} {a o : Nat} (h : RdAt w g s a o) (p : ByteArray) (hs : s.size ≤ 1000) (ha : a ≤ s.size) (hp : p.size ≤ 10)
    (hk : keyB (lt s) a (lt p) = false) :
    Calls Tryd.prog 29 #[rp g, .string p] w fun e w' => e = .returned (.bool false) ∧ RdAt w' g s (skip (lt s) a) o ∧ Kp (fun k => k = g) w w' := by
  have H := Aside0.mk h
  have hle := skip_le (lt s) (i := a) (by simpa using ha)
  simp only [Array.length_toList] at hle
  have hle2 : skip (lt s) a ≤ s.size := hle
  clear hle
  have hk2 : isB (lt s) (skip (lt s) a) (lt p) = true → endB (lt s) (skip (lt s) a + p.size) = false := by
    intro e; unfold keyB at hk; rw [e] at hk; simpa using hk
  have HG : Aside0 (skip (lt s) a = skip (lt s) a) := ⟨rfl⟩
  clear h hk
  revert hle2 hk2 HG
  generalize hb : skip (lt s) a = b
  intro hle2 hk2 HG
  have hb0 : (0 : Int) ≤ (b : Int) := by omega
  have HB := Aside0.mk hb
  clear hb
  cases h1 : isB (lt s) b (lt p) with
  | false =>
    have H1 := Aside0.mk h1
    clear h1 hk2
    go_enter Tryd.func29, Tryd.ntmps29
    go_wp2_with (first
      | (go_at_call 18; refine (skip_any H.out hs ha).mono ?_; rintro e w1 ⟨rfl, hR, hK⟩; rw [HB.out] at hR; obtain ⟨c0, c1, c2, f1, f2⟩ := hR.cells; have HR := Aside0.mk hR; have HK := Aside0.mk hK; clear hR hK)
      | (go_at_call 39; refine (is_any HR.out p hs hle2).mono ?_; rintro e w2 ⟨rfl, hBl⟩; rw [H1.out]; have HR2 := Aside0.mk (HR.out.old hBl); have HK2 := Aside0.mk (HK.out.trans (Kp.of_below hBl)); obtain ⟨d0, d1, d2, e1, e2⟩ := HR2.out.cells; clear hBl))
    go_ret
    exact ⟨rfl, HR2.out, HK2.out⟩
  | true =>
    have H1 := Aside0.mk h1
    have H2 := Aside0.mk (hk2 h1)
    clear h1 hk2
    go_enter Tryd.func29, Tryd.ntmps29
    go_wp2_with (first
      | (go_at_call 18; refine (skip_any H.out hs ha).mono ?_; rintro e w1 ⟨rfl, hR, hK⟩; rw [HB.out] at hR; obtain ⟨c0, c1, c2, f1, f2⟩ := hR.cells; have HR := Aside0.mk hR; have HK := Aside0.mk hK; clear hR hK)
      | (go_at_call 39; refine (is_any HR.out p hs hle2).mono ?_; rintro e w2 ⟨rfl, hBl⟩; rw [H1.out]; have HR2 := Aside0.mk (HR.out.old hBl); have HK2 := Aside0.mk (HK.out.trans (Kp.of_below hBl)); obtain ⟨d0, d1, d2, e1, e2⟩ := HR2.out.cells; clear hBl)
      | (go_at_call 40; refine (end_any HR2.out (b + p.size) hs (by omega)).mono ?_; rintro e w3 ⟨rfl, rfl⟩; rw [H2.out]))
    go_ret
    exact ⟨rfl, HR2.out, HK2.out⟩
end Go.Proofs.YtlmmbefejmbpeaaDoor.M
namespace Go.Proofs.YtlmmbefejmbpeaaDoor.M
open Go.RowKit Go.Shelf Go.Proofs.Qp Go.Proofs.YtlmmbefejmbpeaaDoorW.PrintWords Go.Proofs.YtlmmbefejmbpeaaDoorW.PrintLast Go.Proofs.YtlmmbefejmbpeaaDoorW.PrintMore Go.Proofs.YtlmmbefejmbpeaaDoor.PQry0 Go.Proofs.YtlmmbefejmbpeaaDoor.G
set_option linter.unusedVariables false
set_option linter.unusedSimpArgs false
def oneB (s : ByteArray) : Bool := M.oneV (M.wds s.data.toList) s.data.toList
def pairB (s : ByteArray) : Bool := M.pairV (M.wds s.data.toList) s.data.toList
theorem one_any (s : ByteArray) (w : World) (hs : s.size ≤ 1000) (hT : tabs w) :
    Calls Tryd.prog 56 #[.string s] w fun e w' => e = .returned (.bool (oneB s)) ∧ Below w.heap.size w w' := by
  obtain ⟨k, hk⟩ := Go.Proofs.YtlmmbefejmbpeaaDoor.Pure.One_ev s (by omega)
  exact words_One.calls k s _ w hT (hk k (Nat.le_refl _))
theorem pair_any (s : ByteArray) (w : World) (hs : s.size ≤ 1000) (hT : tabs w) :
    Calls Tryd.prog 57 #[.string s] w fun e w' => e = .returned (.bool (pairB s)) ∧ Below w.heap.size w w' := by
  obtain ⟨k, hk⟩ := Go.Proofs.YtlmmbefejmbpeaaDoor.Pure.Pair_ev s (by omega)
  exact words_Pair.calls k s _ w hT (hk k (Nat.le_refl _))
theorem fmt_any (n : Int) (h0 : -9223372036854775808 ≤ n) (h1 : n ≤ 9223372036854775807) (w : World) (hT : tabs w) :
    Calls Tryd.prog 37 #[.int .i64 n, .int .i64 10] w fun e w' => e = .returned (.string ⟨(Lib.itoa n).toArray⟩) ∧ Below w.heap.size w w' := by
  refine (Any.strconv_FormatInt_10 Tryd.lays173 n h0 h1 w hT.2.1).mono ?_
  rintro e w' ⟨he, k, os, rfl⟩
  refine ⟨he, rfl, rfl, rfl, ?_, fun k hk => ?_⟩
  · show w.heap.size ≤ ((w.drewN _).heap ++ os).size
    rw [Array.size_append]; exact Nat.le_add_right _ _
  · show ((w.drewN _).heap ++ os)[k]? = _
    exact Array.getElem?_append_left hk
/-- the error, if any: none, or some interface value -/
theorem parse_any (s : ByteArray) (w : World) (hs : s.size ≤ 1000) (hT : tabs w) :
    Calls Tryd.prog 58 #[.string s, .int .i64 10, .int .i64 64] w fun e w' => ((∃ v, Lib.parseIntB 64 s.data.toList = .ok v ∧ e = .returned (.tuple #[.int .i64 v, .nilIface])) ∨
      ((∀ v, Lib.parseIntB 64 s.data.toList ≠ .ok v) ∧ ∃ v t p, e = .returned (.tuple #[.int .i64 v, .iface t p]))) ∧ Below w.heap.size w w' := by
  obtain ⟨_, _, ⟨t4, p4, h4⟩, ⟨t5, p5, h5⟩⟩ := hT
  cases hc : Lib.parseIntB 64 s.data.toList
  · rename_i v
    refine (Any.strconv_ParseInt_10_at64_ok Tryd.lays174 s (by omega) v hc w).mono fun e w' ⟨he, hw⟩ => ⟨.inl ⟨v, rfl, he⟩, ?_⟩
    rcases hw with rfl | ⟨t, rfl⟩
    · exact Below.refl _ _
    · exact bytes_below (Below.refl _ _) (Nat.le_refl _) _ _
  · exact (Any.strconv_ParseInt_10_at64_syntax_var Tryd.lays174 s (by omega) hc t4 p4 w h4).mono fun e w' ⟨N_, he, _, _, hb⟩ => ⟨.inr ⟨by simp, _, _, _, he⟩, hb⟩
  · exact (Any.strconv_ParseInt_10_at64_range_var Tryd.lays174 s (by omega) hc t5 p5 w h5).mono fun e w' ⟨N_, he, _, _, hb⟩ => ⟨.inr ⟨by simp, _, _, _, he⟩, hb⟩
end Go.Proofs.YtlmmbefejmbpeaaDoor.M
namespace Go.Proofs.YtlmmbefejmbpeaaDoor.M
open Go.RowKit Go.Shelf Go.Proofs.Qp Go.Proofs.YtlmmbefejmbpeaaDoorW.PrintWords Go.Proofs.YtlmmbefejmbpeaaDoorW.PrintLast Go.Proofs.YtlmmbefejmbpeaaDoorW.PrintMore Go.Proofs.YtlmmbefejmbpeaaDoor.PQry0 Go.Proofs.YtlmmbefejmbpeaaDoor.G
set_option linter.unusedVariables false
set_option linter.unusedSimpArgs false
/-- where a word ends -/
def wend (l : List UInt8) (i : Nat) : Nat := i + (wordAt l i).length
theorem wend_go {l : List UInt8} {i : Nat} (h : endB l i = false) : wend l (i + 1) = wend l i := by
  unfold endB at h
  split at h
  · cases h
  · rename_i c hc
    have hi : i < l.length := (List.getElem?_eq_some_iff.1 hc).1
    have he : l[i] = c := (List.getElem?_eq_some_iff.1 hc).2
    unfold wend wordAt
    rw [List.drop_eq_getElem_cons hi, he, List.takeWhile_cons, h]
    simp
    omega
theorem wend_end {l : List UInt8} {i : Nat} (h : endB l i = true) : wend l i = i := by
  unfold endB at h
  unfold wend wordAt
  split at h
  · rename_i hc
    rw [List.drop_eq_nil_of_le (List.getElem?_eq_none_iff.1 hc)]; rfl
  · rename_i c hc
    have hi : i < l.length := (List.getElem?_eq_some_iff.1 hc).1
    have he : l[i] = c := (List.getElem?_eq_some_iff.1 hc).2
    rw [List.drop_eq_getElem_cons hi, he, List.takeWhile_cons, h]
    rfl
theorem endB_lt {l : List UInt8} {i : Nat} (h : endB l i = false) : i < l.length := by
  unfold endB at h
  split at h
  · cases h
  · rename_i c hc
    exact (List.getElem?_eq_some_iff.1 hc).1
theorem RdAt.far {w : World} {g : Nat} {s : ByteArray} {a o : Nat} (h : RdAt w g s a o) {p : Addr} (hp : p.block ≠ g) (v : Value) : RdAt (w.setCell p v) g s a o :=
  (Below.heap_setCell w p v g hp.symm).trans h
theorem Kp.setNew {S : Nat → Prop} {a w : World} (h : Kp S a w) {p : Addr} (hp : a.heap.size ≤ p.block) (u : Value) : Kp S a (w.setCell p u) :=
  ⟨h.os, h.tape, h.output, Nat.le_trans h.size (by simp), fun k hk hs => (Below.heap_setCell w p u k (fun e => by omega)).trans (h.block k hk hs)⟩
set_option maxHeartbeats 4000000 in
set_option maxRecDepth 100000 in
theorem word_all {w : World} {g : Nat} {s : ByteArray} {a o : Nat} (h : RdAt w g s a o) (hT : tabs w) (hs : s.size ≤ 1000) (ha : a ≤ s.size)
    (he : s.extract a (wend (lt s) a) = ⟨#[42]⟩) :
    Calls Tryd.prog 47 #[rp g] w fun e w' => e = .returned (.agg #[.int .u8 0, .string ⟨#[]⟩, .int .i64 0, .slice none 0 0]) ∧ RdAt w' g s (wend (lt s) a) o ∧ Kp (fun k => k = g) w w' := by
  obtain ⟨c0, c1, c2, f1, f2⟩ := h.cells
  have H := Aside0.mk h
  clear h
  have HG : Aside0 (w.heap.size ≠ g) := ⟨by have := H.out.lt; omega⟩
  have HT := Aside0.mk hT
  clear hT
  have HX := Aside0.mk he
  clear he
  have HA := Aside0.mk (H.out.old (Below.alloc (Below.refl w.heap.size w) (Nat.le_refl _) (.cells #[.int .u8 0, .string ⟨#[]⟩, .int .i64 0, .slice none 0 0] 25)))
  obtain ⟨e0, e1, e2, k1, k2⟩ := HA.out.cells
  have hu25 := Tryd.underlying25
  have hs25 := Tryd.sizeOf25
  have hz25 := Tryd.zeroValue25
  go_enter Tryd.func47, Tryd.ntmps47
  go_wp2
  have HK0 := Aside0.mk (Kp.of_below (S := fun k => k = g) (Below.alloc (Below.refl w.heap.size w) (Nat.le_refl _) (.cells #[.int .u8 0, .string ⟨#[]⟩, .int .i64 0, .slice none 0 0] 25)))
  go_loopw [] (fun wq => ∃ b : Nat, a ≤ b ∧ b ≤ s.size ∧ Aside0 (RdAt wq g s b o) ∧ Aside0 (wend (lt s) b = wend (lt s) a) ∧ Aside0 (Kp (fun k => k = g) w wq) ∧ Aside0 (wq.heap[w.heap.size]? = some (.cells #[.int .u8 0, .string ⟨#[]⟩, .int .i64 0, .slice none 0 0] 25))) (fun wq => s.size - posOf g wq)
  case atStart => exact ⟨a, Nat.le_refl _, ha, HA, ⟨rfl⟩, HK0, ⟨by show (w.heap.push _)[w.heap.size]? = _; simp⟩⟩
  case round =>
    obtain ⟨b, hab, hb, HB, HE, HK, HR⟩ := hrel
    obtain ⟨d0, d1, d2, f1, f2⟩ := HB.out.cells
    cases hE : endB (lt s) b with
    | false =>
      have hlt : b < s.size := by have := endB_lt hE; simpa using this
      have HE2 := Aside0.mk ((wend_go hE).trans HE.out)
      have HEB := Aside0.mk hE
      clear hE
      go_wp2_with (first
        | (go_at_call 40; refine (end_any HB.out b hs (by omega)).mono ?_; rintro e w3 ⟨rfl, rfl⟩; rw [HEB.out]))
      have HN := HB.out.setA (b := b + 1) (x := (b : Int) + 1) (by omega)
      refine ⟨⟨b + 1, by omega, by omega, ⟨HN⟩, HE2, ⟨HK.out.setCell (p := ⟨g, 1, none⟩) rfl _⟩, ⟨?_⟩⟩, ?_⟩
      · rw [Below.heap_setCell _ _ _ _ (fun e => HG.out (by first | exact e | exact e.symm))]; exact HR.out
      · rw [HN.pos, HB.out.pos]; omega
    | true =>
      have HE2 : Aside0 (b = wend (lt s) a) := ⟨(wend_end hE).symm.trans HE.out⟩
      have HEB := Aside0.mk hE
      clear hE
      go_wp2_with (first
        | (go_at_call 40; refine (end_any HB.out b hs (by omega)).mono ?_; rintro e w3 ⟨rfl, rfl⟩; rw [HEB.out]))
      have hb0 : (0 : Int) ≤ (a : Int) := by omega
      have hb1 : (b : Int) ≤ (s.size : Int) := by omega
      have hb2 : (a : Int) ≤ (b : Int) := by omega
      rw [← HE2.out] at HX
      have hX := HX.out
      go_region_held3 (fun W' => (W'.cell? ⟨g, 0, none⟩ = some (.string s) ∧ W'.cell? ⟨g, 1, none⟩ = some (.int .i64 (b : Int))) ∧ Aside0 (RdAt W' g s b o ∧ Kp (fun k => k = g) w W' ∧ W'.heap[w.heap.size]? = some (.cells #[.int .u8 0, .string ⟨#[]⟩, .int .i64 0, .slice none 0 0] 25))) (exact ⟨⟨d0, d1⟩, ⟨HB.out.drew, HK.out.drew, HR.out⟩⟩) (fail)
      have hr : wr.heap[w.heap.size]? = some (.cells #[.int .u8 0, .string ⟨#[]⟩, .int .i64 0, .slice none 0 0] 25) := HR.out
      have r0 := blk_cell hr 0
      have r1 := blk_cell hr 1
      have r2 := blk_cell hr 2
      have r3 := blk_cell hr 3
      have q0 := blk_frozen hr 0
      have q1 := blk_frozen hr 1
      have q2 := blk_frozen hr 2
      have q3 := blk_frozen hr 3
      clear hr
      go_wp2
      refine bodyPost_ret (results_cell_row rfl _ _ w.heap.size 25 #[.int .u8 0, .string ⟨#[]⟩, .int .i64 0, .slice none 0 0] (0, 0) _ rfl (blk_put (blk_put (blk_put (blk_put HR.out 0 (.int .u8 0) rfl) 1 (.string ⟨#[]⟩) rfl) 2 (.int .i64 0) rfl) 3 (.slice none 0 0) rfl) hu25 rfl rfl) rfl ?_
      refine ⟨rfl, ?_, ?_⟩
      · rw [← HE2.out]
        exact ((((HB.out.far HG.out _).far HG.out _).far HG.out _).far HG.out _).drew
      · exact ((((HK.out.setNew (Nat.le_refl _) _).setNew (Nat.le_refl _) _).setNew (Nat.le_refl _) _).setNew (Nat.le_refl _) _).drew
end Go.Proofs.YtlmmbefejmbpeaaDoor.M
namespace Go.Proofs.YtlmmbefejmbpeaaDoor.M
open Go.RowKit Go.Shelf Go.Proofs.Qp Go.Proofs.YtlmmbefejmbpeaaDoorW.PrintWords Go.Proofs.YtlmmbefejmbpeaaDoorW.PrintLast Go.Proofs.YtlmmbefejmbpeaaDoorW.PrintMore Go.Proofs.YtlmmbefejmbpeaaDoor.PQry0 Go.Proofs.YtlmmbefejmbpeaaDoor.G
set_option linter.unusedVariables false
set_option linter.unusedSimpArgs false
/-- the library's variables hold what they hold, and lie ahead of the reader -/
def TT (g : Nat) (w : World) : Prop := ∃ w0 : World, w0.heap.size ≤ g ∧ tabs w0 ∧ Below w0.heap.size w0 w
theorem TT.tabs {g : Nat} {w : World} (h : TT g w) : G.tabs w := by
  obtain ⟨w0, _, h1, h2⟩ := h
  exact tabs_below h1 h2
theorem TT.kp {g : Nat} {w w' : World} (h : TT g w) (k : Kp (fun k => k = g) w w') : TT g w' := by
  obtain ⟨w0, h0, h1, h2⟩ := h
  refine ⟨w0, h0, h1, k.os.trans h2.os, k.tape.trans h2.tape, k.output.trans h2.output, Nat.le_trans h2.size k.size, fun i hi => ?_⟩
  exact (k.block i (Nat.lt_of_lt_of_le hi h2.size) (by omega)).trans (h2.block i hi)
/-- a time: > or <, and a number as it is written -/
def numV (b : ByteArray) : Option S25 :=
  if (lt b)[0]? = some 62 ∨ (lt b)[0]? = some 60 then
    match Lib.parseIntB 64 (lt (b.extract 1 b.size)) with
    | .ok n => if (⟨(Lib.itoa n).toArray⟩ : ByteArray) = b.extract 1 b.size then some ⟨if (lt b)[0]? = some 62 then 6 else 7, ⟨#[]⟩, n, []⟩ else none
    | _ => none
  else none
theorem numV_none {b : ByteArray} (h1 : (lt b)[0]? ≠ some 62) (h2 : (lt b)[0]? ≠ some 60) : numV b = none := by
  unfold numV
  rw [if_neg (by intro h; rcases h with h | h; exact h1 h; exact h2 h)]
theorem numV_bad {b : ByteArray} (h : ∀ v, Lib.parseIntB 64 (lt (b.extract 1 b.size)) ≠ .ok v) : numV b = none := by
  unfold numV
  split
  · split
    · rename_i n hn; exact absurd hn (h n)
    · rfl
  · rfl
theorem numV_fmt {b : ByteArray} {v : Int} (h : Lib.parseIntB 64 (lt (b.extract 1 b.size)) = .ok v) (h5 : ¬ (⟨(Lib.itoa v).toArray⟩ : ByteArray) = b.extract 1 b.size) : numV b = none := by
  unfold numV
  split
  · rw [h]
    exact if_neg h5
  · rfl
theorem numV_ok {b : ByteArray} {v : Int} (hc : (lt b)[0]? = some 62 ∨ (lt b)[0]? = some 60) (h : Lib.parseIntB 64 (lt (b.extract 1 b.size)) = .ok v) (h5 : (⟨(Lib.itoa v).toArray⟩ : ByteArray) = b.extract 1 b.size) :
    numV b = some ⟨if (lt b)[0]? = some 62 then 6 else 7, ⟨#[]⟩, v, []⟩ := by
  unfold numV
  rw [if_pos hc, h]
  exact if_pos h5
/-- what a word stands for -/
def leafV (b : ByteArray) : Option S25 :=
  if b = ⟨#[42]⟩ then some ⟨0, ⟨#[]⟩, 0, []⟩
  else if oneB b = true then some ⟨1, b, 0, []⟩
  else if pairB b = true then some ⟨2, b, 0, []⟩
  else numV b
theorem parse_ok (s : ByteArray) (w : World) (hs : s.size ≤ 1000) (hT : G.tabs w) {n : Int} (hn : Lib.parseIntB 64 (lt s) = .ok n) :
    Calls Tryd.prog 58 #[.string s, .int .i64 10, .int .i64 64] w fun e w' => e = .returned (.tuple #[.int .i64 n, .nilIface]) ∧ Below w.heap.size w w' := by
  refine (parse_any s w hs hT).mono ?_
  rintro e w' ⟨hP, hB⟩
  refine ⟨?_, hB⟩
  rcases hP with ⟨v, hv, rfl⟩ | ⟨hv, _⟩
  · have hv2 := hn.symm.trans hv
    injection hv2 with hv2
    rw [hv2]
  · exact absurd hn (hv n)
theorem parse_no (s : ByteArray) (w : World) (hs : s.size ≤ 1000) (hT : G.tabs w) (hn : ∀ v, Lib.parseIntB 64 (lt s) ≠ .ok v) :
    Calls Tryd.prog 58 #[.string s, .int .i64 10, .int .i64 64] w fun e w' => (∃ v t p, e = .returned (.tuple #[.int .i64 v, .iface t p])) ∧ Below w.heap.size w w' := by
  refine (parse_any s w hs hT).mono ?_
  rintro e w' ⟨hP, hB⟩
  refine ⟨?_, hB⟩
  rcases hP with ⟨v, hv, rfl⟩ | ⟨_, h⟩
  · exact absurd hv (hn v)
  · exact h
theorem parse_bounds {l : List UInt8} {n : Int} (hn : Lib.parseIntB 64 l = .ok n) : -9223372036854775808 ≤ n ∧ n ≤ 9223372036854775807 := by
  have := Lib.parseIntB_bounds hn
  simp at this
  omega
/-- where word stands: the reader, what is kept, the result's cell, the variables -/
structure Kst (w : World) (g : Nat) (s : ByteArray) (b o : Nat) (w' : World) : Prop where
  rd : RdAt w' g s b o
  kp : Kp (fun k => k = g) w w'
  blk : w'.heap[w.heap.size]? = some (.cells #[.int .u8 0, .string ⟨#[]⟩, .int .i64 0, .slice none 0 0] 25)
  tb : G.tabs w'
theorem Kst.drew {w : World} {g : Nat} {s : ByteArray} {b o : Nat} {w' : World} (h : Kst w g s b o w') : Kst w g s b o w'.drew := ⟨h.rd.drew, h.kp.drew, h.blk, h.tb⟩
theorem Kst.old {w : World} {g : Nat} {s : ByteArray} {b o : Nat} {w' w2 : World} (h : Kst w g s b o w') (hb : Below w'.heap.size w' w2) : Kst w g s b o w2 :=
  ⟨h.rd.old hb, h.kp.trans (Kp.of_below hb), (hb.block _ (blk_lt h.blk)).trans h.blk, tabs_below h.tb hb⟩
theorem toList_inj {x y : ByteArray} (h : x.toList = y.toList) : x = y := by
  have h2 : x.data.toList = y.data.toList := by simpa [ByteArray.toList_eq] using h
  cases x; cases y
  simpa [Array.toList_inj] using h2
theorem not_bytes {x y : ByteArray} (h : ¬ x = y) : (x.toList == y.toList) = false := by
  rw [Bool.eq_false_iff]
  intro e
  exact h (toList_inj (by simpa using e))
theorem not_star {x : ByteArray} (h : ¬ x = ⟨#[42]⟩) : (x.toList == [42]) = false := by
  have := not_bytes h
  rwa [show (⟨#[42]⟩ : ByteArray).toList = [42] from by rw [ByteArray.toList_eq]] at this
end Go.Proofs.YtlmmbefejmbpeaaDoor.M
