-- WRITTEN BY A PROGRAM OF THIS SESSION (wip/patch_print.py: the kit's printer with rules of this session's own); Lean checks it.
import Derived.Test.YtpigloohccpfiaaDoorPHttpAnswersx0
import Derived.Test.YtpigloohccpfiaaDoorPHttpAnswersx1
namespace Go.Proofs.YtpigloohccpfiaaDoor.PHttpAnswers
open Go.RowKit Go.Proofs.YtpigloohccpfiaaDoorW.PrintWords Go.Proofs.YtpigloohccpfiaaDoorW.PrintLast Go.Proofs.YtpigloohccpfiaaDoorW.PrintMore
open Go.Proofs.YtpigloohccpfiaaDoor.G
attribute [local go_sem] max2_int min2_int max_two min_two max_three min_three max_four min_four   -- for this text's walks alone
set_option linter.unusedVariables false
set_option linter.unusedSimpArgs false

/-- A state of type 24 at block g of W; what its slices lead to came in by w0. -/
def IsS24 (w0 W : World) (g : Nat) (f0 : ByteArray) (f1 : ByteArray) (f2 : ByteArray) (f3 : Bool) : Prop := W.heap[g]? = some (.cells #[.string f0, .string f1, .string f2, .bool f3] 24 (0, 0)) ∧ w0.heap.size ≤ g
theorem IsS24.grown {w0 W : World} {g : Nat} {f0 : ByteArray} {f1 : ByteArray} {f2 : ByteArray} {f3 : Bool} {W1 : World} {row : Option Nat} (h : IsS24 w0 W g f0 f1 f2 f3) (hw : W.grownBy W1 row) (hne : some g ≠ row) : IsS24 w0 W1 g f0 f1 f2 f3 := by
 obtain ⟨hb, hg⟩ := h
 exact ⟨blk_grown hb hw hne, hg⟩
theorem IsS24.own_neN {w0 W : World} {g : Nat} {f0 : ByteArray} {f1 : ByteArray} {f2 : ByteArray} {f3 : Bool} {α : Type} {d : Kd α} {e : Nat} {base : Nat} {ok : Nat → Prop} {v : Value} {xs : List α} (h : IsS24 w0 W g f0 f1 f2 f3) (ho : Kd.N d e W base ok v xs) (ht : e ≠ 24) : some g ≠ v.ownBlock := by
 obtain ⟨hb, hg⟩ := h
 exact Kd.N_ne ho hb ht
theorem IsS24.fresh {w0 W : World} {g : Nat} {f0 : ByteArray} {f1 : ByteArray} {f2 : ByteArray} {f3 : Bool} (h : IsS24 w0 W g f0 f1 f2 f3) : ∀ k, W.heap.size ≤ k → k ≠ g := by
 obtain ⟨hb, hg⟩ := h
 exact Kd.freshB hb
theorem IsS24.kept {w0 W : World} {g : Nat} {f0 : ByteArray} {f1 : ByteArray} {f2 : ByteArray} {f3 : Bool} {W1 : World} {S : Nat → Prop} (h : IsS24 w0 W g f0 f1 f2 f3) (hk : Kept W W1 S) (hne : ¬ S g) : IsS24 w0 W1 g f0 f1 f2 f3 := by
 obtain ⟨hb, hg⟩ := h
 exact ⟨blk_kept hb hk hne, hg⟩
theorem IsS24.below {w0 W : World} {g : Nat} {f0 : ByteArray} {f1 : ByteArray} {f2 : ByteArray} {f3 : Bool} {W1 : World} (h : IsS24 w0 W g f0 f1 f2 f3) (hw : Below W.heap.size W W1) : IsS24 w0 W1 g f0 f1 f2 f3 := h.grown (grown_of_below hw none) (by simp)
theorem IsS24.alloc {w0 W : World} {g : Nat} {f0 : ByteArray} {f1 : ByteArray} {f2 : ByteArray} {f3 : Bool} (h : IsS24 w0 W g f0 f1 f2 f3) (o : Obj) : IsS24 w0 (W.alloc o) g f0 f1 f2 f3 := h.below (below_alloc (Below.refl _ _) o)
theorem IsS24.drewN {w0 W : World} {g : Nat} {f0 : ByteArray} {f1 : ByteArray} {f2 : ByteArray} {f3 : Bool} (h : IsS24 w0 W g f0 f1 f2 f3) (m : Nat) : IsS24 w0 (W.drewN m) g f0 f1 f2 f3 := h
theorem IsS24.drew {w0 W : World} {g : Nat} {f0 : ByteArray} {f1 : ByteArray} {f2 : ByteArray} {f3 : Bool} (h : IsS24 w0 W g f0 f1 f2 f3) : IsS24 w0 W.drew g f0 f1 f2 f3 := h
theorem IsS24.at_ {w0 W : World} {g : Nat} {f0 : ByteArray} {f1 : ByteArray} {f2 : ByteArray} {f3 : Bool} {w' : World} {m : Nat} (hq : W.drewN m = w') (h : IsS24 w0 W g f0 f1 f2 f3) : IsS24 w0 w' g f0 f1 f2 f3 := by subst hq; exact IsS24.drewN h m
theorem IsS24.apart {w0 W : World} {g : Nat} {f0 : ByteArray} {f1 : ByteArray} {f2 : ByteArray} {f3 : Bool} {α : Type} {d : Kd α} {e : Nat} {base : Nat} {ok : Nat → Prop} {v : Value} {xs : List α} (h : IsS24 w0 W g f0 f1 f2 f3) (ho : d.R e W base ok v xs) (ht : ∀ q, q ∈ e :: d.E → q ≠ 24) : d.R e W base (fun k => ok k ∧ k ≠ g) v xs := by
 obtain ⟨hb, hg⟩ := h
 exact Kd.R_types ho hb ht
theorem IsS24.own_ne {w0 W : World} {g : Nat} {f0 : ByteArray} {f1 : ByteArray} {f2 : ByteArray} {f3 : Bool} {α : Type} {d : Kd α} {e : Nat} {base : Nat} {ok : Nat → Prop} {v : Value} {xs : List α} (h : IsS24 w0 W g f0 f1 f2 f3) (ho : d.R e W base ok v xs) (ht : e ≠ 24) : some g ≠ v.ownBlock := by
 obtain ⟨hb, hg⟩ := h
 exact Kd.R_ne ho hb ht
theorem IsS24.apartQ {w0 W : World} {g : Nat} {f0 : ByteArray} {f1 : ByteArray} {f2 : ByteArray} {f3 : Bool} {α : Type} {d : Kd α} {e : Nat} {base : Nat} {ok : Nat → Prop} {v : Value} {xs : List α} (h : IsS24 w0 W g f0 f1 f2 f3) (ho : d.Q e W base ok v xs) (ht : ∀ q, q ∈ e :: d.E → q ≠ 24) : d.Q e W base (fun k => ok k ∧ k ≠ g) v xs := by
 obtain ⟨hb, hg⟩ := h
 exact Kd.Q_types ho hb ht
theorem IsS24.own_neQ {w0 W : World} {g : Nat} {f0 : ByteArray} {f1 : ByteArray} {f2 : ByteArray} {f3 : Bool} {α : Type} {d : Kd α} {e : Nat} {base : Nat} {ok : Nat → Prop} {v : Value} {xs : List α} (h : IsS24 w0 W g f0 f1 f2 f3) (ho : d.Q e W base ok v xs) (ht : e ≠ 24) : some g ≠ v.ownBlock := by
 obtain ⟨hb, hg⟩ := h
 exact Kd.Q_ne ho hb ht
theorem IsS24.apartS {w0 W : World} {g : Nat} {f0 : ByteArray} {f1 : ByteArray} {f2 : ByteArray} {f3 : Bool} {α : Type} {d : Kd α} {e : Nat} {base : Nat} {ok : Nat → Prop} {v : Value} {xs : List α} (h : IsS24 w0 W g f0 f1 f2 f3) (ho : d.S e W base ok v xs) (ht : ∀ q, q ∈ e :: d.E → q ≠ 24) : d.S e W base (fun k => ok k ∧ k ≠ g) v xs := by
 obtain ⟨hb, hg⟩ := h
 exact Kd.S_types ho hb ht
theorem IsS24.own_neS {w0 W : World} {g : Nat} {f0 : ByteArray} {f1 : ByteArray} {f2 : ByteArray} {f3 : Bool} {α : Type} {d : Kd α} {e : Nat} {base : Nat} {ok : Nat → Prop} {v : Value} {xs : List α} (h : IsS24 w0 W g f0 f1 f2 f3) (ho : d.S e W base ok v xs) (ht : e ≠ 24) : some g ≠ v.ownBlock := by
 obtain ⟨hb, hg⟩ := h
 exact Kd.S_ne ho hb ht
theorem IsS24.lt {w0 W : World} {g : Nat} {f0 : ByteArray} {f1 : ByteArray} {f2 : ByteArray} {f3 : Bool} (h : IsS24 w0 W g f0 f1 f2 f3) : g < W.heap.size := by
 obtain ⟨hb, hg⟩ := h
 exact blk_lt hb
theorem IsS24.ge {w0 W : World} {g : Nat} {f0 : ByteArray} {f1 : ByteArray} {f2 : ByteArray} {f3 : Bool} (h : IsS24 w0 W g f0 f1 f2 f3) : w0.heap.size ≤ g := by
 obtain ⟨hb, hg⟩ := h
 exact hg
theorem IsS24.ne_blk {w0 W : World} {g : Nat} {f0 : ByteArray} {f1 : ByteArray} {f2 : ByteArray} {f3 : Bool} {a : Nat} {cs : Array Value} {t : TypeId} {fr : Nat × Nat} (h : IsS24 w0 W g f0 f1 f2 f3) (hb2 : W.heap[a]? = some (.cells cs t fr)) (ht : t ≠ 24) : g ≠ a := by
 obtain ⟨hb, hg⟩ := h
 rintro rfl
 rw [hb] at hb2
 injection hb2 with hb2
 injection hb2 with _ ht2
 exact ht ht2.symm
theorem IsS24.far {w0 W : World} {g : Nat} {f0 : ByteArray} {f1 : ByteArray} {f2 : ByteArray} {f3 : Bool} {p : Addr} (h : IsS24 w0 W g f0 f1 f2 f3) (hne : g ≠ p.block) (u : Value) : IsS24 w0 (W.setCell p u) g f0 f1 f2 f3 := by
 obtain ⟨hb, hg⟩ := h
 exact ⟨blk_far hb hne u, hg⟩
theorem cellS24_0 {W : World} {g : Nat} {f0 : ByteArray} {f1 : ByteArray} {f2 : ByteArray} {f3 : Bool} (h : W.heap[g]? = some (.cells #[.string f0, .string f1, .string f2, .bool f3] 24 (0, 0))) : W.cell? ⟨g, 0, none⟩ = some (.string f0) := (blk_cell h 0).trans rfl
theorem IsS24.set_0 {w0 W : World} {g : Nat} {f0 : ByteArray} {f1 : ByteArray} {f2 : ByteArray} {f3 : Bool} (h : IsS24 w0 W g f0 f1 f2 f3) (x : ByteArray) : IsS24 w0 (W.setCell ⟨g, 0, none⟩ (.string x)) g x f1 f2 f3 := by
 obtain ⟨hb, hg⟩ := h
 exact ⟨by simpa using blk_set hb 0 (.string x), hg⟩
theorem cellS24_1 {W : World} {g : Nat} {f0 : ByteArray} {f1 : ByteArray} {f2 : ByteArray} {f3 : Bool} (h : W.heap[g]? = some (.cells #[.string f0, .string f1, .string f2, .bool f3] 24 (0, 0))) : W.cell? ⟨g, 1, none⟩ = some (.string f1) := (blk_cell h 1).trans rfl
theorem IsS24.set_1 {w0 W : World} {g : Nat} {f0 : ByteArray} {f1 : ByteArray} {f2 : ByteArray} {f3 : Bool} (h : IsS24 w0 W g f0 f1 f2 f3) (x : ByteArray) : IsS24 w0 (W.setCell ⟨g, 1, none⟩ (.string x)) g f0 x f2 f3 := by
 obtain ⟨hb, hg⟩ := h
 exact ⟨by simpa using blk_set hb 1 (.string x), hg⟩
theorem cellS24_2 {W : World} {g : Nat} {f0 : ByteArray} {f1 : ByteArray} {f2 : ByteArray} {f3 : Bool} (h : W.heap[g]? = some (.cells #[.string f0, .string f1, .string f2, .bool f3] 24 (0, 0))) : W.cell? ⟨g, 2, none⟩ = some (.string f2) := (blk_cell h 2).trans rfl
theorem IsS24.set_2 {w0 W : World} {g : Nat} {f0 : ByteArray} {f1 : ByteArray} {f2 : ByteArray} {f3 : Bool} (h : IsS24 w0 W g f0 f1 f2 f3) (x : ByteArray) : IsS24 w0 (W.setCell ⟨g, 2, none⟩ (.string x)) g f0 f1 x f3 := by
 obtain ⟨hb, hg⟩ := h
 exact ⟨by simpa using blk_set hb 2 (.string x), hg⟩
theorem cellS24_3 {W : World} {g : Nat} {f0 : ByteArray} {f1 : ByteArray} {f2 : ByteArray} {f3 : Bool} (h : W.heap[g]? = some (.cells #[.string f0, .string f1, .string f2, .bool f3] 24 (0, 0))) : W.cell? ⟨g, 3, none⟩ = some (.bool f3) := (blk_cell h 3).trans rfl
theorem IsS24.set_3 {w0 W : World} {g : Nat} {f0 : ByteArray} {f1 : ByteArray} {f2 : ByteArray} {f3 : Bool} (h : IsS24 w0 W g f0 f1 f2 f3) (x : Bool) : IsS24 w0 (W.setCell ⟨g, 3, none⟩ (.bool x)) g f0 f1 f2 x := by
 obtain ⟨hb, hg⟩ := h
 exact ⟨by simpa using blk_set hb 3 (.bool x), hg⟩
theorem IsS24.new (w0 W : World) (f0 : ByteArray) (f1 : ByteArray) (f2 : ByteArray) (f3 : Bool) (hB : Below w0.heap.size w0 W) : IsS24 w0 (W.alloc (.cells #[.string f0, .string f1, .string f2, .bool f3] 24)) W.heap.size f0 f1 f2 f3 := ⟨by simpa using heap_alloc_new W _, hB.size⟩

/-! ### http_heads: function 21 -/
mutual
def http_heads.l0 : Nat → Int → Int → Int → List ByteArray → Int → Int → ByteArray → ByteArray → ByteArray → Bool → Option (Int × Int × ByteArray × ByteArray × ByteArray × Bool)
 | 0, _, _, _, _, _, _, _, _, _, _ => none
 | k + 1, x6, x7, x8, x17, x18, x19, x1000, x1001, x1002, x1003 => if x19 < x18 then (if 0 ≤ x19 then (if x19 < (x17.length : Int) then ((strings_Cut.f (rdOf ByteArray.empty x17 x19) (⟨#[58]⟩ : ByteArray)).bind fun bt120 => (if bt120.2.2 = true then ((http_token.f k bt120.1).bind fun t123 => (http_heads.j1 k x6 x7 x8 bt120.1 bt120.2.1 x17 x18 x19 (!t123) x1000 x1001 x1002 x1003)) else (http_heads.j1 k x6 x7 x8 bt120.1 bt120.2.1 x17 x18 x19 true x1000 x1001 x1002 x1003))) else (none)) else (none)) else (if x7 = 1 then (http_heads.j3 k x6 (decide (x8 > 1)) x1000 x1001 x1002 x1003) else (http_heads.j3 k x6 true x1000 x1001 x1002 x1003))
def http_heads.j1 : Nat → Int → Int → Int → ByteArray → ByteArray → List ByteArray → Int → Int → Bool → ByteArray → ByteArray → ByteArray → Bool → Option (Int × Int × ByteArray × ByteArray × ByteArray × Bool)
 | 0, _, _, _, _, _, _, _, _, _, _, _, _, _ => none
 | k + 1, x6, x7, x8, x11, x12, x17, x18, x19, x35, x1000, x1001, x1002, x1003 => if x35 = true then (some (0, 400, x1000, x1001, x1002, x1003)) else ((strings_Trim.f x12 (⟨#[32, 9]⟩ : ByteArray)).bind fun t124 => (http_heads.l1 k x6 x7 x8 x11 t124 x17 x18 x19 (t124.size : Int) 0 x1000 x1001 x1002 x1003))
def http_heads.l1 : Nat → Int → Int → Int → ByteArray → ByteArray → List ByteArray → Int → Int → Int → Int → ByteArray → ByteArray → ByteArray → Bool → Option (Int × Int × ByteArray × ByteArray × ByteArray × Bool)
 | 0, _, _, _, _, _, _, _, _, _, _, _, _, _, _ => none
 | k + 1, x6, x7, x8, x11, x12, x17, x18, x19, x39, x40, x1000, x1001, x1002, x1003 => if x40 < x39 then (if 0 ≤ x40 then (if x40 < (x12.size : Int) then (if (bt x12 x40) < 32 then (if (bt x12 x40) = 9 then (if (bt x12 x40) = 127 then (some (0, 400, x1000, x1001, x1002, x1003)) else (http_heads.l1 k x6 x7 x8 x11 x12 x17 x18 x19 x39 (wrap64 (x40 + 1)) x1000 x1001 x1002 x1003)) else (some (0, 400, x1000, x1001, x1002, x1003))) else (if (bt x12 x40) = 127 then (some (0, 400, x1000, x1001, x1002, x1003)) else (http_heads.l1 k x6 x7 x8 x11 x12 x17 x18 x19 x39 (wrap64 (x40 + 1)) x1000 x1001 x1002 x1003))) else (none)) else (none)) else ((http_small.f x11).bind fun t125 => (if t125.toList = ([104, 111, 115, 116] : List UInt8) then (http_heads.l0 k x6 (wrap64 (x7 + 1)) x8 x17 x18 (wrap64 (x19 + 1)) x1000 x1001 x1002 x1003) else (if t125.toList = ([99, 111, 110, 116, 101, 110, 116, 45, 108, 101, 110, 103, 116, 104] : List UInt8) then ((strconv_Atoi.f x12).bind fun bt126 => (if bt126.2.isNone = true then (if (x12.size : Int) > 9 then (some (0, 400, x1000, x1001, x1002, x1003)) else (if bt126.1 < 0 then (some (0, 400, x1000, x1001, x1002, x1003)) else ((strconv_Itoa.f bt126.1).bind fun t129 => (if t129.toList = x12.toList then (http_heads.l0 k bt126.1 x7 (wrap64 (x8 + 1)) x17 x18 (wrap64 (x19 + 1)) x1000 x1001 x1002 x1003) else (some (0, 400, x1000, x1001, x1002, x1003)))))) else (some (0, 400, x1000, x1001, x1002, x1003)))) else (if t125.toList = ([116, 114, 97, 110, 115, 102, 101, 114, 45, 101, 110, 99, 111, 100, 105, 110, 103] : List UInt8) then (some (0, 400, x1000, x1001, x1002, x1003)) else (if t125.toList = ([99, 111, 110, 110, 101, 99, 116, 105, 111, 110] : List UInt8) then (if x1003 = true then (http_heads.l0 k x6 x7 x8 x17 x18 (wrap64 (x19 + 1)) x1000 x1001 x1002 true) else ((http_small.f x12).bind fun t130 => (http_heads.l0 k x6 x7 x8 x17 x18 (wrap64 (x19 + 1)) x1000 x1001 x1002 (t130.toList == ([99, 108, 111, 115, 101] : List UInt8))))) else (http_heads.l0 k x6 x7 x8 x17 x18 (wrap64 (x19 + 1)) x1000 x1001 x1002 x1003))))))
def http_heads.j3 : Nat → Int → Bool → ByteArray → ByteArray → ByteArray → Bool → Option (Int × Int × ByteArray × ByteArray × ByteArray × Bool)
 | 0, _, _, _, _, _, _ => none
 | k + 1, x6, x110, x1000, x1001, x1002, x1003 => if x110 = true then (some (0, 400, x1000, x1001, x1002, x1003)) else (if x6 > 8192 then (some (0, 413, x1000, x1001, x1002, x1003)) else (some (x6, 0, x1000, x1001, x1002, x1003)))
end
def http_heads.f (k : Nat) (s0_0 : ByteArray) (s0_1 : ByteArray) (s0_2 : ByteArray) (s0_3 : Bool) (l1 : List ByteArray) : Option (Int × Int × ByteArray × ByteArray × ByteArray × Bool) := http_heads.l0 k 0 0 0 l1 (l1.length : Int) 0 s0_0 s0_1 s0_2 s0_3
theorem http_heads.mono_l : ∀ k, (∀ y0 y1 y2 y3 y4 y5 y6 y7 y8 y9, LeO (http_heads.l0 k y0 y1 y2 y3 y4 y5 y6 y7 y8 y9) (http_heads.l0 (k + 1) y0 y1 y2 y3 y4 y5 y6 y7 y8 y9)) ∧ (∀ y0 y1 y2 y3 y4 y5 y6 y7 y8 y9 y10 y11 y12, LeO (http_heads.j1 k y0 y1 y2 y3 y4 y5 y6 y7 y8 y9 y10 y11 y12) (http_heads.j1 (k + 1) y0 y1 y2 y3 y4 y5 y6 y7 y8 y9 y10 y11 y12)) ∧ (∀ y0 y1 y2 y3 y4 y5 y6 y7 y8 y9 y10 y11 y12 y13, LeO (http_heads.l1 k y0 y1 y2 y3 y4 y5 y6 y7 y8 y9 y10 y11 y12 y13) (http_heads.l1 (k + 1) y0 y1 y2 y3 y4 y5 y6 y7 y8 y9 y10 y11 y12 y13)) ∧ (∀ y0 y1 y2 y3 y4 y5, LeO (http_heads.j3 k y0 y1 y2 y3 y4 y5) (http_heads.j3 (k + 1) y0 y1 y2 y3 y4 y5))
 | 0 => ⟨fun _ _ _ _ _ _ _ _ _ _ r h => by simp [http_heads.l0] at h, fun _ _ _ _ _ _ _ _ _ _ _ _ _ r h => by simp [http_heads.j1] at h, fun _ _ _ _ _ _ _ _ _ _ _ _ _ _ r h => by simp [http_heads.l1] at h, fun _ _ _ _ _ _ r h => by simp [http_heads.j3] at h⟩
 | k + 1 => by
  obtain ⟨ih0, ih1, ih2, ih3⟩ := http_heads.mono_l k
  refine ⟨?_, ?_, ?_, ?_⟩
  ·intro y0 y1 y2 y3 y4 y5 y6 y7 y8 y9
   unfold http_heads.l0
   repeat' first
   | (with_reducible exact ih0 _ _ _ _ _ _ _ _ _ _)
   | (with_reducible exact ih1 _ _ _ _ _ _ _ _ _ _ _ _ _)
   | (with_reducible exact ih2 _ _ _ _ _ _ _ _ _ _ _ _ _ _)
   | (with_reducible exact ih3 _ _ _ _ _ _)
   | (with_reducible exact http_token.mono _ _)
   | (with_reducible exact LeO.refl _)
   | (with_reducible exact LeO.none _)
   | (with_reducible refine LeO.ite ?_ ?_)
   | (with_reducible refine LeO.bind ?_ (fun _ => ?_))
   | exact ih0 _ _ _ _ _ _ _ _ _ _
   | exact ih1 _ _ _ _ _ _ _ _ _ _ _ _ _
   | exact ih2 _ _ _ _ _ _ _ _ _ _ _ _ _ _
   | exact ih3 _ _ _ _ _ _
   | exact http_token.mono _ _
   | exact LeO.none _
   | refine LeO.ite ?_ ?_
   | refine LeO.bind ?_ (fun _ => ?_)
  ·intro y0 y1 y2 y3 y4 y5 y6 y7 y8 y9 y10 y11 y12
   unfold http_heads.j1
   repeat' first
   | (with_reducible exact ih0 _ _ _ _ _ _ _ _ _ _)
   | (with_reducible exact ih1 _ _ _ _ _ _ _ _ _ _ _ _ _)
   | (with_reducible exact ih2 _ _ _ _ _ _ _ _ _ _ _ _ _ _)
   | (with_reducible exact ih3 _ _ _ _ _ _)
   | (with_reducible exact http_token.mono _ _)
   | (with_reducible exact LeO.refl _)
   | (with_reducible exact LeO.none _)
   | (with_reducible refine LeO.ite ?_ ?_)
   | (with_reducible refine LeO.bind ?_ (fun _ => ?_))
   | exact ih0 _ _ _ _ _ _ _ _ _ _
   | exact ih1 _ _ _ _ _ _ _ _ _ _ _ _ _
   | exact ih2 _ _ _ _ _ _ _ _ _ _ _ _ _ _
   | exact ih3 _ _ _ _ _ _
   | exact http_token.mono _ _
   | exact LeO.none _
   | refine LeO.ite ?_ ?_
   | refine LeO.bind ?_ (fun _ => ?_)
  ·intro y0 y1 y2 y3 y4 y5 y6 y7 y8 y9 y10 y11 y12 y13
   unfold http_heads.l1
   repeat' first
   | (with_reducible exact ih0 _ _ _ _ _ _ _ _ _ _)
   | (with_reducible exact ih1 _ _ _ _ _ _ _ _ _ _ _ _ _)
   | (with_reducible exact ih2 _ _ _ _ _ _ _ _ _ _ _ _ _ _)
   | (with_reducible exact ih3 _ _ _ _ _ _)
   | (with_reducible exact http_token.mono _ _)
   | (with_reducible exact LeO.refl _)
   | (with_reducible exact LeO.none _)
   | (with_reducible refine LeO.ite ?_ ?_)
   | (with_reducible refine LeO.bind ?_ (fun _ => ?_))
   | exact ih0 _ _ _ _ _ _ _ _ _ _
   | exact ih1 _ _ _ _ _ _ _ _ _ _ _ _ _
   | exact ih2 _ _ _ _ _ _ _ _ _ _ _ _ _ _
   | exact ih3 _ _ _ _ _ _
   | exact http_token.mono _ _
   | exact LeO.none _
   | refine LeO.ite ?_ ?_
   | refine LeO.bind ?_ (fun _ => ?_)
  ·intro y0 y1 y2 y3 y4 y5
   unfold http_heads.j3
   repeat' first
   | (with_reducible exact ih0 _ _ _ _ _ _ _ _ _ _)
   | (with_reducible exact ih1 _ _ _ _ _ _ _ _ _ _ _ _ _)
   | (with_reducible exact ih2 _ _ _ _ _ _ _ _ _ _ _ _ _ _)
   | (with_reducible exact ih3 _ _ _ _ _ _)
   | (with_reducible exact http_token.mono _ _)
   | (with_reducible exact LeO.refl _)
   | (with_reducible exact LeO.none _)
   | (with_reducible refine LeO.ite ?_ ?_)
   | (with_reducible refine LeO.bind ?_ (fun _ => ?_))
   | exact ih0 _ _ _ _ _ _ _ _ _ _
   | exact ih1 _ _ _ _ _ _ _ _ _ _ _ _ _
   | exact ih2 _ _ _ _ _ _ _ _ _ _ _ _ _ _
   | exact ih3 _ _ _ _ _ _
   | exact http_token.mono _ _
   | exact LeO.none _
   | refine LeO.ite ?_ ?_
   | refine LeO.bind ?_ (fun _ => ?_)
theorem http_heads.mono : ∀ a0 a1 a2 a3 a4 k, LeO (http_heads.f k a0 a1 a2 a3 a4) (http_heads.f (k + 1) a0 a1 a2 a3 a4) := by
 intro a0 a1 a2 a3 a4 k
 obtain ⟨ih0, ih1, ih2, ih3⟩ := http_heads.mono_l k
 unfold http_heads.f
 repeat' first
   | (with_reducible exact ih0 _ _ _ _ _ _ _ _ _ _)
   | (with_reducible exact ih1 _ _ _ _ _ _ _ _ _ _ _ _ _)
   | (with_reducible exact ih2 _ _ _ _ _ _ _ _ _ _ _ _ _ _)
   | (with_reducible exact ih3 _ _ _ _ _ _)
   | (with_reducible exact http_token.mono _ _)
   | (with_reducible exact LeO.refl _)
   | (with_reducible exact LeO.none _)
   | (with_reducible refine LeO.ite ?_ ?_)
   | (with_reducible refine LeO.bind ?_ (fun _ => ?_))
   | exact ih0 _ _ _ _ _ _ _ _ _ _
   | exact ih1 _ _ _ _ _ _ _ _ _ _ _ _ _
   | exact ih2 _ _ _ _ _ _ _ _ _ _ _ _ _ _
   | exact ih3 _ _ _ _ _ _
   | exact http_token.mono _ _
   | exact LeO.none _
   | refine LeO.ite ?_ ?_
   | refine LeO.bind ?_ (fun _ => ?_)
set_option maxHeartbeats 8000000 in
set_option maxRecDepth 100000 in
theorem http_heads.calls (k : Nat) (g : Nat) (s0_0 : ByteArray) (s0_1 : ByteArray) (s0_2 : ByteArray) (s0_3 : Bool) (A1 : Option Addr) (c1 : Nat) (l1 : List ByteArray) (r1 : Int) (r2 : Int) (r3 : ByteArray) (r4 : ByteArray) (r5 : ByteArray) (r6 : Bool) (w0 w : World) (hT : tabs w0) (hI : IsS24 w0 w g s0_0 s0_1 s0_2 s0_3) (hB : Below w0.heap.size w0 w) (hr1 : Kd.C Kd.string w A1 l1.length l1) (hc1 : l1.length ≤ c1) (hf1 : ∀ ad, A1 = some ad → 0 < l1.length → ad.block ≠ g) (h : http_heads.f k s0_0 s0_1 s0_2 s0_3 l1 = some (r1, r2, r3, r4, r5, r6)) :
  Calls Tryd.prog 21 #[.pointer (some ⟨g, 0, none⟩), .slice A1 l1.length c1] w fun e w' => e = .returned (.tuple #[.int .i64 r1, .int .i64 r2]) ∧ IsS24 w0 w' g r3 r4 r5 r6 ∧ Below w0.heap.size w0 w' ∧ KeepBut w w' g none := by
 have hu59 := Tryd.underlying59
 have HR1 := Aside0.mk hr1
 have HC1 := Aside0.mk hc1
 clear hr1 hc1
 have HT := Aside0.mk hT
 clear hT
 have HI0 := Aside0.mk hI
 have HK := Aside0.mk (KeepBut.refl w g none)
 have HL := Aside0.mk hB.size
 clear hI
 have HW0 := Aside0.mk hB.size
 have HB := Aside0.mk hB
 clear hB
 have H : (http_heads.l0 k 0 0 0 l1 (l1.length : Int) 0 s0_0 s0_1 s0_2 s0_3) = some (r1, r2, r3, r4, r5, r6) := h
 clear h
 have H' := Aside0.mk H
 clear H
 go_enter Tryd.func21, Tryd.ntmps21
 go_wp2
 go_loopg [6, 7, 8, 19] k (fun kq v6 v7 v8 v19 w' => ∃ (x6_1 : Int) (x7_1 : Int) (x8_1 : Int) (x19_1 : Int) (x1003_1 : Bool), v6 = .int .i64 x6_1 ∧ v7 = .int .i64 x7_1 ∧ v8 = .int .i64 x8_1 ∧ v19 = .int .i64 x19_1 ∧ Aside0 (http_heads.l0 kq x6_1 x7_1 x8_1 l1 (l1.length : Int) x19_1 s0_0 s0_1 s0_2 x1003_1 = some (r1, r2, r3, r4, r5, r6)) ∧ Aside0 (kq ≤ k) ∧ Aside0 (IsS24 w0 w' g s0_0 s0_1 s0_2 x1003_1) ∧ Aside0 (KeepBut w w' g none) ∧ Aside0 (Below w0.heap.size w0 w'))
 case atStart => exact ⟨(0), (0), (0), (0), (s0_3), (by first | rfl | (simp; done) | (simp [*]; done)), (by first | rfl | (simp; done) | (simp [*]; done)), (by first | rfl | (simp; done) | (simp [*]; done)), (by first | rfl | (simp; done) | (simp [*]; done)), H', ⟨Nat.le_refl _⟩, ⟨by repeat (first | (with_reducible first | exact HI0.out | apply IsS24.alloc | apply IsS24.drewN | apply IsS24.drew | apply IsS24.set_0 | apply IsS24.set_1 | apply IsS24.set_2 | apply IsS24.set_3) | exact HI0.out)⟩, ⟨by repeat (first | (with_reducible first | exact HK.out | apply KeepBut.set_ | apply keep_drewN | apply keep_drew | apply keep_alloc) | exact HK.out)⟩, ⟨by repeat (first | (with_reducible first | exact HB.out | apply below_alloc | apply pw_below_drewN | apply below_drew1 | refine below_set ?_ (IsS24.ge HI0.out)) | exact HB.out)⟩⟩
 case round =>
  clear H'
  try clear c1
  try clear c2
  try clear p2
  obtain ⟨x6_1, x7_1, x8_1, x19_1, x1003_1, rfl, rfl, rfl, rfl, HA, HK1, HI0, HK, HB⟩ := hrel
  cases gk with
  | zero => exact absurd HA.out (by simp [http_heads.l0])
  | succ k1 =>
   have H := HA.out
   clear HA
   simp only [http_heads.l0] at H
   by_cases c3 : x19_1 < (l1.length : Int)
   ·rw [if_pos c3] at H
    have c3b0 : decide (x19_1 < (l1.length : Int)) = true := decide_eq_true c3
    clear c3
    by_cases c4 : 0 ≤ x19_1
    ·rw [if_pos c4] at H
     have c4b0 : decide (0 ≤ x19_1) = true := decide_eq_true c4
     clear c4
     by_cases c5 : x19_1 < (l1.length : Int)
     ·rw [if_pos c5] at H
      have c5b0 : decide (x19_1 < (l1.length : Int)) = true := decide_eq_true c5
      clear c5
      replace H := Option.bind_eq_some_iff.mp H
      obtain ⟨⟨t120, t121, t122⟩, A60, H⟩ := H
      replace H : (if t122 = true then ((http_token.f k1 t120).bind fun t123 => (http_heads.j1 k1 x6_1 x7_1 x8_1 t120 t121 l1 (l1.length : Int) x19_1 (!t123) s0_0 s0_1 s0_2 x1003_1)) else (http_heads.j1 k1 x6_1 x7_1 x8_1 t120 t121 l1 (l1.length : Int) x19_1 true s0_0 s0_1 s0_2 x1003_1)) = some (r1, r2, r3, r4, r5, r6) := H
      have A6 := Aside0.mk A60
      clear A60
      have HC7 := Aside0.mk H
      clear H
      have p119 : 0 ≤ (x19_1 : Int) := of_decide_eq_true (by first | (with_reducible assumption) | assumption)
      have q119 : x19_1 < (l1.length : Int) := of_decide_eq_true (by first | (with_reducible assumption) | assumption)
      obtain ⟨ad119, e119, hx119_0⟩ := Kd.at_string HR1.out x19_1 p119 q119
      cases e119
      replace hx119_0 := keep_cell HK.out hx119_0 (by first | (rw [add_block]; exact hf1 _ rfl (by omega)) | exact hf1 _ rfl (by omega) | exact hf1 ad119 rfl (by omega))
      replace p119 := eq_true p119
      replace q119 := eq_true q119
      go_upto_region 6 with (first | ((with_reducible refine gate_callee (f := 31) rfl ?_); refine goesL_ (some 25) rfl rfl Tryd.func31 (by kernel_rfl) rfl #[.string (rdOf ByteArray.empty l1 x19_1), .string (⟨#[58]⟩ : ByteArray)] rfl (by (try simp only [List.map_toArray, List.map_cons, List.map_nil]); first | done | rfl | (simp only [List.length_drop, List.length_take]; rfl)) ?_; (with_reducible refine (strings_Cut.calls (rdOf ByteArray.empty l1 x19_1) (⟨#[58]⟩ : ByteArray) t120 t121 t122 _ ?side1 A6.out).mono ?_); (case side1 => first | exact HT.out | exact tabs_below HT.out (by repeat (first | (with_reducible first | exact HB.out | apply below_alloc | apply pw_below_drewN | apply below_drew1 | refine below_set ?_ (IsS24.ge HI0.out)) | exact HB.out))); rintro e w' ⟨rfl, ⟨nd, rfl⟩⟩; refine ⟨_, rfl, ?_⟩))
      (try simp only [Act.put, List.setIfInBounds_toArray, List.set_cons_zero, List.set_cons_succ])
      go_cut [35] (fun v35 wc => ∃ (kq : Nat) (x35_6 : Bool), v35 = .bool x35_6 ∧ Aside0 (http_heads.j1 kq x6_1 x7_1 x8_1 t120 t121 l1 (l1.length : Int) x19_1 x35_6 s0_0 s0_1 s0_2 x1003_1 = some (r1, r2, r3, r4, r5, r6)) ∧ Aside0 (kq ≤ k1) ∧ Aside0 (IsS24 w0 wc g s0_0 s0_1 s0_2 x1003_1) ∧ Aside0 (KeepBut w wc g none) ∧ Aside0 (Below w0.heap.size w0 wc))
      case first =>
       have H := HC7.out
       clear HC7
       by_cases c8 : t122 = true
       ·subst c8
        have H1 : ((http_token.f k1 t120).bind fun t123 => (http_heads.j1 k1 x6_1 x7_1 x8_1 t120 t121 l1 (l1.length : Int) x19_1 (!t123) s0_0 s0_1 s0_2 x1003_1)) = some (r1, r2, r3, r4, r5, r6) := by rw [if_pos rfl] at H; exact H
        clear H
        have H := H1
        clear H1
        replace H := Option.bind_eq_some_iff.mp H
        obtain ⟨t123, A90, H⟩ := H
        replace H : (http_heads.j1 k1 x6_1 x7_1 x8_1 t120 t121 l1 (l1.length : Int) x19_1 (!t123) s0_0 s0_1 s0_2 x1003_1) = some (r1, r2, r3, r4, r5, r6) := H
        have A9 := Aside0.mk A90
        clear A90
        have H' := Aside0.mk H
        clear H
        go_wp2_with (first | (go_at_call 38; (with_reducible refine (http_token.calls k1 t120 t123 _ A9.out).mono ?_); rintro e w' ⟨rfl, ⟨nd, rfl⟩⟩))
        go_meet
        case rel => exact ⟨_, (!t123), (by first | rfl | (simp; done) | (simp [*]; done)), H', ⟨by have := HK1.out; first | omega | exact Nat.le_refl _⟩, ⟨by repeat (first | (with_reducible first | exact HI0.out | apply IsS24.alloc | apply IsS24.drewN | apply IsS24.drew | apply IsS24.set_0 | apply IsS24.set_1 | apply IsS24.set_2 | apply IsS24.set_3) | exact HI0.out)⟩, ⟨by repeat (first | (with_reducible first | exact HK.out | apply KeepBut.set_ | apply keep_drewN | apply keep_drew | apply keep_alloc) | exact HK.out)⟩, ⟨by repeat (first | (with_reducible first | exact HB.out | apply below_alloc | apply pw_below_drewN | apply below_drew1 | refine below_set ?_ (IsS24.ge HI0.out)) | exact HB.out)⟩⟩
       ·replace c8 := Bool.eq_false_iff.mpr c8
        subst c8
        have H1 : (http_heads.j1 k1 x6_1 x7_1 x8_1 t120 t121 l1 (l1.length : Int) x19_1 true s0_0 s0_1 s0_2 x1003_1) = some (r1, r2, r3, r4, r5, r6) := by rw [if_neg (show ¬ (false = true) by decide)] at H; exact H
        clear H
        have H := H1
        clear H1
        have H' := Aside0.mk H
        clear H
        go_wp2
        go_meet
        case rel => exact ⟨_, (true), (by first | rfl | (simp; done) | (simp [*]; done)), H', ⟨by have := HK1.out; first | omega | exact Nat.le_refl _⟩, ⟨by repeat (first | (with_reducible first | exact HI0.out | apply IsS24.alloc | apply IsS24.drewN | apply IsS24.drew | apply IsS24.set_0 | apply IsS24.set_1 | apply IsS24.set_2 | apply IsS24.set_3) | exact HI0.out)⟩, ⟨by repeat (first | (with_reducible first | exact HK.out | apply KeepBut.set_ | apply keep_drewN | apply keep_drew | apply keep_alloc) | exact HK.out)⟩, ⟨by repeat (first | (with_reducible first | exact HB.out | apply below_alloc | apply pw_below_drewN | apply below_drew1 | refine below_set ?_ (IsS24.ge HI0.out)) | exact HB.out)⟩⟩
      case rest =>
       clear HC7
       try clear c1
       try clear p1
       try clear q1
       try clear hx1
       try clear c2
       try clear p2
       try clear c3
       try clear c3b0
       try clear c4
       try clear c4b0
       try clear c5
       try clear c5b0
       try clear c8
       try clear hx119_0
       try clear p119
       try clear p2
       try clear q119
       obtain ⟨kq, x35_6, rfl, HA, HJ6, HI0, HK, HB⟩ := hcut
       cases kq with
       | zero => exact absurd HA.out (by simp [http_heads.j1])
       | succ kj6 =>
        have H := HA.out
        clear HA
        simp only [http_heads.j1] at H
        by_cases c10 : x35_6 = true
        ·subst c10
         have H1 : (some (0, 400, s0_0, s0_1, s0_2, x1003_1)) = some (r1, r2, r3, r4, r5, r6) := by rw [if_pos rfl] at H; exact H
         clear H
         have H := H1
         clear H1
         simp only [Option.some.injEq, Prod.mk.injEq] at H
         obtain ⟨rfl, rfl, rfl, rfl, rfl, rfl⟩ := H
         go_wp2
         go_ret2
         exact ⟨by first | rfl | (simp [errW_none, errW_some] <;> rfl) | (simp [*, errW_none, errW_some] <;> rfl), by repeat (first | (with_reducible first | exact HI0.out | apply IsS24.alloc | apply IsS24.drewN | apply IsS24.drew | apply IsS24.set_0 | apply IsS24.set_1 | apply IsS24.set_2 | apply IsS24.set_3) | exact HI0.out), by repeat (first | (with_reducible first | exact HB.out | apply below_alloc | apply pw_below_drewN | apply below_drew1 | refine below_set ?_ (IsS24.ge HI0.out)) | exact HB.out), by repeat (first | (with_reducible first | exact HK.out | apply KeepBut.set_ | apply keep_drewN | apply keep_drew | apply keep_alloc) | exact HK.out)⟩
        ·replace c10 := Bool.eq_false_iff.mpr c10
         subst c10
         have H1 : ((strings_Trim.f t121 (⟨#[32, 9]⟩ : ByteArray)).bind fun t124 => (http_heads.l1 kj6 x6_1 x7_1 x8_1 t120 t124 l1 (l1.length : Int) x19_1 (t124.size : Int) 0 s0_0 s0_1 s0_2 x1003_1)) = some (r1, r2, r3, r4, r5, r6) := by rw [if_neg (show ¬ (false = true) by decide)] at H; exact H
         clear H
         have H := H1
         clear H1
         replace H := Option.bind_eq_some_iff.mp H
         obtain ⟨t124, A110, H⟩ := H
         replace H : (http_heads.l1 kj6 x6_1 x7_1 x8_1 t120 t124 l1 (l1.length : Int) x19_1 (t124.size : Int) 0 s0_0 s0_1 s0_2 x1003_1) = some (r1, r2, r3, r4, r5, r6) := H
         have A11 := Aside0.mk A110
         clear A110
         have H' := Aside0.mk H
         clear H
         go_wp2_with (first | ((with_reducible refine gate_callee (f := 39) rfl ?_); refine goesL_ (some 37) rfl rfl Tryd.func39 (by kernel_rfl) rfl #[.string t121, .string (⟨#[32, 9]⟩ : ByteArray)] rfl (by (try simp only [List.map_toArray, List.map_cons, List.map_nil]); first | done | rfl | (simp only [List.length_drop, List.length_take]; rfl)) ?_; (with_reducible refine (strings_Trim.calls t121 (⟨#[32, 9]⟩ : ByteArray) t124 _ A11.out).mono ?_); rintro e w12 ⟨rfl, hb⟩; refine ⟨_, rfl, ?_⟩; have n0_ := Aside0.mk (IsS24.below (by repeat (first | (with_reducible first | exact HI0.out | apply IsS24.alloc | apply IsS24.drewN | apply IsS24.drew | apply IsS24.set_0 | apply IsS24.set_1 | apply IsS24.set_2 | apply IsS24.set_3) | exact HI0.out)) hb); have n1_ := Aside0.mk (KeepBut.trans (by repeat (first | (with_reducible first | exact HK.out | apply KeepBut.set_ | apply keep_drewN | apply keep_drew | apply keep_alloc) | exact HK.out)) (KeepBut.of_below hb g none) (.inl rfl)); have n2_ := Aside0.mk (below_step (by repeat (first | (with_reducible first | exact HB.out | apply below_alloc | apply pw_below_drewN | apply below_drew1 | refine below_set ?_ (IsS24.ge HI0.out)) | exact HB.out)) hb); clear HI0; clear HK; clear HB; have HI0 := n0_; have HK := n1_; have HB := n2_; clear n0_ n1_ n2_; (try clear hb); (try clear hb2); (try clear hk); (try clear hi)))
         go_loopg [40] kj6 (fun kq v40 w' => ∃ (x40_3 : Int), v40 = .int .i64 x40_3 ∧ Aside0 (http_heads.l1 kq x6_1 x7_1 x8_1 t120 t124 l1 (l1.length : Int) x19_1 (t124.size : Int) x40_3 s0_0 s0_1 s0_2 x1003_1 = some (r1, r2, r3, r4, r5, r6)) ∧ Aside0 (kq ≤ kj6) ∧ Aside0 (IsS24 w0 w' g s0_0 s0_1 s0_2 x1003_1) ∧ Aside0 (KeepBut w w' g none) ∧ Aside0 (Below w0.heap.size w0 w'))
         case atStart => exact ⟨(0), (by first | rfl | (simp; done) | (simp [*]; done)), H', ⟨Nat.le_refl _⟩, ⟨by repeat (first | (with_reducible first | exact HI0.out | apply IsS24.alloc | apply IsS24.drewN | apply IsS24.drew | apply IsS24.set_0 | apply IsS24.set_1 | apply IsS24.set_2 | apply IsS24.set_3) | exact HI0.out)⟩, ⟨by repeat (first | (with_reducible first | exact HK.out | apply KeepBut.set_ | apply keep_drewN | apply keep_drew | apply keep_alloc) | exact HK.out)⟩, ⟨by repeat (first | (with_reducible first | exact HB.out | apply below_alloc | apply pw_below_drewN | apply below_drew1 | refine below_set ?_ (IsS24.ge HI0.out)) | exact HB.out)⟩⟩
         case round =>
          clear H'
          try clear c1
          try clear p1
          try clear q1
          try clear hx1
          try clear c2
          try clear p2
          try clear c3
          try clear c3b0
          try clear c4
          try clear c4b0
          try clear c5
          try clear c5b0
          try clear c8
          try clear c10
          try clear p11
          try clear q11
          try clear hx11
          try clear hx119_0
          try clear p1
          try clear p119
          try clear p2
          try clear q1
          try clear q119
          obtain ⟨x40_3, rfl, HA, HK3, HI0, HK, HB⟩ := hrel
          cases gk with
          | zero => exact absurd HA.out (by simp [http_heads.l1])
          | succ k3 =>
           have H := HA.out
           clear HA
           simp only [http_heads.l1] at H
           by_cases c13 : x40_3 < (t124.size : Int)
           ·rw [if_pos c13] at H
            have c13b0 : decide (x40_3 < (t124.size : Int)) = true := decide_eq_true c13
            clear c13
            by_cases c14 : 0 ≤ x40_3
            ·rw [if_pos c14] at H
             have c14b0 : decide (0 ≤ x40_3) = true := decide_eq_true c14
             clear c14
             by_cases c15 : x40_3 < (t124.size : Int)
             ·rw [if_pos c15] at H
              have c15b0 : decide (x40_3 < (t124.size : Int)) = true := decide_eq_true c15
              clear c15
              by_cases c17 : (bt t124 x40_3) < 32
              ·rw [if_pos c17] at H
               have c17b0 : decide ((bt t124 x40_3) < 32) = true := decide_eq_true c17
               clear c17
               by_cases c19 : (bt t124 x40_3) = 9
               ·rw [if_pos c19] at H
                have c19b0 : ((bt t124 x40_3) == 9) = true := beq_iff_eq.mpr c19
                have c19b1 : ((bt t124 x40_3) != 9) = false := bne_eq_false_iff_eq.mpr c19
                clear c19
                by_cases c21 : (bt t124 x40_3) = 127
                ·rw [if_pos c21] at H
                 have c21b0 : ((bt t124 x40_3) == 127) = true := beq_iff_eq.mpr c21
                 have c21b1 : ((bt t124 x40_3) != 127) = false := bne_eq_false_iff_eq.mpr c21
                 clear c21
                 simp only [Option.some.injEq, Prod.mk.injEq] at H
                 obtain ⟨rfl, rfl, rfl, rfl, rfl, rfl⟩ := H
                 have p16 : 0 ≤ (x40_3 : Int) := of_decide_eq_true (by first | (with_reducible assumption) | assumption)
                 have q16 : x40_3 < (t124.size : Int) := of_decide_eq_true (by first | (with_reducible assumption) | assumption)
                 have hx16 := bt_at t124 x40_3
                 replace p16 := eq_true p16
                 replace q16 := eq_true q16
                 have p18 : 0 ≤ (x40_3 : Int) := of_decide_eq_true (by first | (with_reducible assumption) | assumption)
                 have q18 : x40_3 < (t124.size : Int) := of_decide_eq_true (by first | (with_reducible assumption) | assumption)
                 have hx18 := bt_at t124 x40_3
                 replace p18 := eq_true p18
                 replace q18 := eq_true q18
                 have p20 : 0 ≤ (x40_3 : Int) := of_decide_eq_true (by first | (with_reducible assumption) | assumption)
                 have q20 : x40_3 < (t124.size : Int) := of_decide_eq_true (by first | (with_reducible assumption) | assumption)
                 have hx20 := bt_at t124 x40_3
                 replace p20 := eq_true p20
                 replace q20 := eq_true q20
                 go_wp2
                 go_ret2
                 exact ⟨by first | rfl | (simp [errW_none, errW_some] <;> rfl) | (simp [*, errW_none, errW_some] <;> rfl), by repeat (first | (with_reducible first | exact HI0.out | apply IsS24.alloc | apply IsS24.drewN | apply IsS24.drew | apply IsS24.set_0 | apply IsS24.set_1 | apply IsS24.set_2 | apply IsS24.set_3) | exact HI0.out), by repeat (first | (with_reducible first | exact HB.out | apply below_alloc | apply pw_below_drewN | apply below_drew1 | refine below_set ?_ (IsS24.ge HI0.out)) | exact HB.out), by repeat (first | (with_reducible first | exact HK.out | apply KeepBut.set_ | apply keep_drewN | apply keep_drew | apply keep_alloc) | exact HK.out)⟩
                ·rw [if_neg c21] at H
                 have c21b0 : ((bt t124 x40_3) == 127) = false := beq_eq_false_iff_ne.mpr c21
                 have c21b1 : ((bt t124 x40_3) != 127) = true := bne_iff_ne.mpr c21
                 have H' := Aside0.mk H
                 clear H
                 have p16 : 0 ≤ (x40_3 : Int) := of_decide_eq_true (by first | (with_reducible assumption) | assumption)
                 have q16 : x40_3 < (t124.size : Int) := of_decide_eq_true (by first | (with_reducible assumption) | assumption)
                 have hx16 := bt_at t124 x40_3
                 replace p16 := eq_true p16
                 replace q16 := eq_true q16
                 have p18 : 0 ≤ (x40_3 : Int) := of_decide_eq_true (by first | (with_reducible assumption) | assumption)
                 have q18 : x40_3 < (t124.size : Int) := of_decide_eq_true (by first | (with_reducible assumption) | assumption)
                 have hx18 := bt_at t124 x40_3
                 replace p18 := eq_true p18
                 replace q18 := eq_true q18
                 have p20 : 0 ≤ (x40_3 : Int) := of_decide_eq_true (by first | (with_reducible assumption) | assumption)
                 have q20 : x40_3 < (t124.size : Int) := of_decide_eq_true (by first | (with_reducible assumption) | assumption)
                 have hx20 := bt_at t124 x40_3
                 replace p20 := eq_true p20
                 replace q20 := eq_true q20
                 go_wp2
                 go_roundg k3
                 case measure => have := HK1.out; have := HJ6.out; have := HK3.out; omega
                 case rel => exact ⟨(wrap64 (x40_3 + 1)), (by first | rfl | (simp; done) | (simp [*]; done)), H', ⟨by have := HK1.out; have := HJ6.out; have := HK3.out; omega⟩, ⟨by repeat (first | (with_reducible first | exact HI0.out | apply IsS24.alloc | apply IsS24.drewN | apply IsS24.drew | apply IsS24.set_0 | apply IsS24.set_1 | apply IsS24.set_2 | apply IsS24.set_3) | exact HI0.out)⟩, ⟨by repeat (first | (with_reducible first | exact HK.out | apply KeepBut.set_ | apply keep_drewN | apply keep_drew | apply keep_alloc) | exact HK.out)⟩, ⟨by repeat (first | (with_reducible first | exact HB.out | apply below_alloc | apply pw_below_drewN | apply below_drew1 | refine below_set ?_ (IsS24.ge HI0.out)) | exact HB.out)⟩⟩
               ·rw [if_neg c19] at H
                have c19b0 : ((bt t124 x40_3) == 9) = false := beq_eq_false_iff_ne.mpr c19
                have c19b1 : ((bt t124 x40_3) != 9) = true := bne_iff_ne.mpr c19
                simp only [Option.some.injEq, Prod.mk.injEq] at H
                obtain ⟨rfl, rfl, rfl, rfl, rfl, rfl⟩ := H
                have p16 : 0 ≤ (x40_3 : Int) := of_decide_eq_true (by first | (with_reducible assumption) | assumption)
                have q16 : x40_3 < (t124.size : Int) := of_decide_eq_true (by first | (with_reducible assumption) | assumption)
                have hx16 := bt_at t124 x40_3
                replace p16 := eq_true p16
                replace q16 := eq_true q16
                have p18 : 0 ≤ (x40_3 : Int) := of_decide_eq_true (by first | (with_reducible assumption) | assumption)
                have q18 : x40_3 < (t124.size : Int) := of_decide_eq_true (by first | (with_reducible assumption) | assumption)
                have hx18 := bt_at t124 x40_3
                replace p18 := eq_true p18
                replace q18 := eq_true q18
                go_wp2
                go_ret2
                exact ⟨by first | rfl | (simp [errW_none, errW_some] <;> rfl) | (simp [*, errW_none, errW_some] <;> rfl), by repeat (first | (with_reducible first | exact HI0.out | apply IsS24.alloc | apply IsS24.drewN | apply IsS24.drew | apply IsS24.set_0 | apply IsS24.set_1 | apply IsS24.set_2 | apply IsS24.set_3) | exact HI0.out), by repeat (first | (with_reducible first | exact HB.out | apply below_alloc | apply pw_below_drewN | apply below_drew1 | refine below_set ?_ (IsS24.ge HI0.out)) | exact HB.out), by repeat (first | (with_reducible first | exact HK.out | apply KeepBut.set_ | apply keep_drewN | apply keep_drew | apply keep_alloc) | exact HK.out)⟩
              ·rw [if_neg c17] at H
               have c17b0 : decide ((bt t124 x40_3) < 32) = false := decide_eq_false c17
               clear c17
               by_cases c23 : (bt t124 x40_3) = 127
               ·rw [if_pos c23] at H
                have c23b0 : ((bt t124 x40_3) == 127) = true := beq_iff_eq.mpr c23
                have c23b1 : ((bt t124 x40_3) != 127) = false := bne_eq_false_iff_eq.mpr c23
                clear c23
                simp only [Option.some.injEq, Prod.mk.injEq] at H
                obtain ⟨rfl, rfl, rfl, rfl, rfl, rfl⟩ := H
                have p16 : 0 ≤ (x40_3 : Int) := of_decide_eq_true (by first | (with_reducible assumption) | assumption)
                have q16 : x40_3 < (t124.size : Int) := of_decide_eq_true (by first | (with_reducible assumption) | assumption)
                have hx16 := bt_at t124 x40_3
                replace p16 := eq_true p16
                replace q16 := eq_true q16
                have p22 : 0 ≤ (x40_3 : Int) := of_decide_eq_true (by first | (with_reducible assumption) | assumption)
                have q22 : x40_3 < (t124.size : Int) := of_decide_eq_true (by first | (with_reducible assumption) | assumption)
                have hx22 := bt_at t124 x40_3
                replace p22 := eq_true p22
                replace q22 := eq_true q22
                go_wp2
                go_ret2
                exact ⟨by first | rfl | (simp [errW_none, errW_some] <;> rfl) | (simp [*, errW_none, errW_some] <;> rfl), by repeat (first | (with_reducible first | exact HI0.out | apply IsS24.alloc | apply IsS24.drewN | apply IsS24.drew | apply IsS24.set_0 | apply IsS24.set_1 | apply IsS24.set_2 | apply IsS24.set_3) | exact HI0.out), by repeat (first | (with_reducible first | exact HB.out | apply below_alloc | apply pw_below_drewN | apply below_drew1 | refine below_set ?_ (IsS24.ge HI0.out)) | exact HB.out), by repeat (first | (with_reducible first | exact HK.out | apply KeepBut.set_ | apply keep_drewN | apply keep_drew | apply keep_alloc) | exact HK.out)⟩
               ·rw [if_neg c23] at H
                have c23b0 : ((bt t124 x40_3) == 127) = false := beq_eq_false_iff_ne.mpr c23
                have c23b1 : ((bt t124 x40_3) != 127) = true := bne_iff_ne.mpr c23
                have H' := Aside0.mk H
                clear H
                have p16 : 0 ≤ (x40_3 : Int) := of_decide_eq_true (by first | (with_reducible assumption) | assumption)
                have q16 : x40_3 < (t124.size : Int) := of_decide_eq_true (by first | (with_reducible assumption) | assumption)
                have hx16 := bt_at t124 x40_3
                replace p16 := eq_true p16
                replace q16 := eq_true q16
                have p22 : 0 ≤ (x40_3 : Int) := of_decide_eq_true (by first | (with_reducible assumption) | assumption)
                have q22 : x40_3 < (t124.size : Int) := of_decide_eq_true (by first | (with_reducible assumption) | assumption)
                have hx22 := bt_at t124 x40_3
                replace p22 := eq_true p22
                replace q22 := eq_true q22
                go_wp2
                go_roundg k3
                case measure => have := HK1.out; have := HJ6.out; have := HK3.out; omega
                case rel => exact ⟨(wrap64 (x40_3 + 1)), (by first | rfl | (simp; done) | (simp [*]; done)), H', ⟨by have := HK1.out; have := HJ6.out; have := HK3.out; omega⟩, ⟨by repeat (first | (with_reducible first | exact HI0.out | apply IsS24.alloc | apply IsS24.drewN | apply IsS24.drew | apply IsS24.set_0 | apply IsS24.set_1 | apply IsS24.set_2 | apply IsS24.set_3) | exact HI0.out)⟩, ⟨by repeat (first | (with_reducible first | exact HK.out | apply KeepBut.set_ | apply keep_drewN | apply keep_drew | apply keep_alloc) | exact HK.out)⟩, ⟨by repeat (first | (with_reducible first | exact HB.out | apply below_alloc | apply pw_below_drewN | apply below_drew1 | refine below_set ?_ (IsS24.ge HI0.out)) | exact HB.out)⟩⟩
             ·rw [if_neg c15] at H
              exact absurd H (by simp)
            ·rw [if_neg c14] at H
             exact absurd H (by simp)
           ·rw [if_neg c13] at H
            have c13b0 : decide (x40_3 < (t124.size : Int)) = false := decide_eq_false c13
            clear c13
            replace H := Option.bind_eq_some_iff.mp H
            obtain ⟨t125, A240, H⟩ := H
            replace H : (if t125.toList = ([104, 111, 115, 116] : List UInt8) then (http_heads.l0 k3 x6_1 (wrap64 (x7_1 + 1)) x8_1 l1 (l1.length : Int) (wrap64 (x19_1 + 1)) s0_0 s0_1 s0_2 x1003_1) else (if t125.toList = ([99, 111, 110, 116, 101, 110, 116, 45, 108, 101, 110, 103, 116, 104] : List UInt8) then ((strconv_Atoi.f t124).bind fun bt126 => (if bt126.2.isNone = true then (if (t124.size : Int) > 9 then (some (0, 400, s0_0, s0_1, s0_2, x1003_1)) else (if bt126.1 < 0 then (some (0, 400, s0_0, s0_1, s0_2, x1003_1)) else ((strconv_Itoa.f bt126.1).bind fun t129 => (if t129.toList = t124.toList then (http_heads.l0 k3 bt126.1 x7_1 (wrap64 (x8_1 + 1)) l1 (l1.length : Int) (wrap64 (x19_1 + 1)) s0_0 s0_1 s0_2 x1003_1) else (some (0, 400, s0_0, s0_1, s0_2, x1003_1)))))) else (some (0, 400, s0_0, s0_1, s0_2, x1003_1)))) else (if t125.toList = ([116, 114, 97, 110, 115, 102, 101, 114, 45, 101, 110, 99, 111, 100, 105, 110, 103] : List UInt8) then (some (0, 400, s0_0, s0_1, s0_2, x1003_1)) else (if t125.toList = ([99, 111, 110, 110, 101, 99, 116, 105, 111, 110] : List UInt8) then (if x1003_1 = true then (http_heads.l0 k3 x6_1 x7_1 x8_1 l1 (l1.length : Int) (wrap64 (x19_1 + 1)) s0_0 s0_1 s0_2 true) else ((http_small.f t124).bind fun t130 => (http_heads.l0 k3 x6_1 x7_1 x8_1 l1 (l1.length : Int) (wrap64 (x19_1 + 1)) s0_0 s0_1 s0_2 (t130.toList == ([99, 108, 111, 115, 101] : List UInt8))))) else (http_heads.l0 k3 x6_1 x7_1 x8_1 l1 (l1.length : Int) (wrap64 (x19_1 + 1)) s0_0 s0_1 s0_2 x1003_1))))) = some (r1, r2, r3, r4, r5, r6) := H
            have A24 := Aside0.mk A240
            clear A240
            by_cases c25 : t125.toList = ([104, 111, 115, 116] : List UInt8)
            ·rw [if_pos c25] at H
             have c25b0 : (t125.toList == ([104, 111, 115, 116] : List UInt8)) = true := beq_iff_eq.mpr c25
             have c25b1 : (t125.toList != ([104, 111, 115, 116] : List UInt8)) = false := bne_eq_false_iff_eq.mpr c25
             clear c25
             have H' := Aside0.mk H
             clear H
             go_wp2_with (first | ((with_reducible refine gate_callee (f := 40) rfl ?_); refine goesL_ (some 61) rfl rfl Tryd.func40 (by kernel_rfl) rfl #[.string t120] rfl (by (try simp only [List.map_toArray, List.map_cons, List.map_nil]); first | done | rfl | (simp only [List.length_drop, List.length_take]; rfl)) ?_; (with_reducible refine (http_small.calls t120 t125 _ ?side1 A24.out).mono ?_); (case side1 => first | exact HT.out | exact tabs_below HT.out (by repeat (first | (with_reducible first | exact HB.out | apply below_alloc | apply pw_below_drewN | apply below_drew1 | refine below_set ?_ (IsS24.ge HI0.out)) | exact HB.out))); rintro e w26 ⟨rfl, hb⟩; refine ⟨_, rfl, ?_⟩; have n0_ := Aside0.mk (IsS24.below (by repeat (first | (with_reducible first | exact HI0.out | apply IsS24.alloc | apply IsS24.drewN | apply IsS24.drew | apply IsS24.set_0 | apply IsS24.set_1 | apply IsS24.set_2 | apply IsS24.set_3) | exact HI0.out)) hb); have n1_ := Aside0.mk (KeepBut.trans (by repeat (first | (with_reducible first | exact HK.out | apply KeepBut.set_ | apply keep_drewN | apply keep_drew | apply keep_alloc) | exact HK.out)) (KeepBut.of_below hb g none) (.inl rfl)); have n2_ := Aside0.mk (below_step (by repeat (first | (with_reducible first | exact HB.out | apply below_alloc | apply pw_below_drewN | apply below_drew1 | refine below_set ?_ (IsS24.ge HI0.out)) | exact HB.out)) hb); clear HI0; clear HK; clear HB; have HI0 := n0_; have HK := n1_; have HB := n2_; clear n0_ n1_ n2_; (try clear hb); (try clear hb2); (try clear hk); (try clear hi)))
             go_roundg k3
             case measure => have := HK1.out; have := HJ6.out; have := HK3.out; omega
             case rel => exact ⟨(x6_1), (wrap64 (x7_1 + 1)), (x8_1), (wrap64 (x19_1 + 1)), (x1003_1), (by first | rfl | (simp; done) | (simp [*]; done)), (by first | rfl | (simp; done) | (simp [*]; done)), (by first | rfl | (simp; done) | (simp [*]; done)), (by first | rfl | (simp; done) | (simp [*]; done)), H', ⟨by have := HK1.out; have := HJ6.out; have := HK3.out; omega⟩, ⟨by repeat (first | (with_reducible first | exact HI0.out | apply IsS24.alloc | apply IsS24.drewN | apply IsS24.drew | apply IsS24.set_0 | apply IsS24.set_1 | apply IsS24.set_2 | apply IsS24.set_3) | exact HI0.out)⟩, ⟨by repeat (first | (with_reducible first | exact HK.out | apply KeepBut.set_ | apply keep_drewN | apply keep_drew | apply keep_alloc) | exact HK.out)⟩, ⟨by repeat (first | (with_reducible first | exact HB.out | apply below_alloc | apply pw_below_drewN | apply below_drew1 | refine below_set ?_ (IsS24.ge HI0.out)) | exact HB.out)⟩⟩
            ·rw [if_neg c25] at H
             have c25b0 : (t125.toList == ([104, 111, 115, 116] : List UInt8)) = false := beq_eq_false_iff_ne.mpr c25
             have c25b1 : (t125.toList != ([104, 111, 115, 116] : List UInt8)) = true := bne_iff_ne.mpr c25
             by_cases c27 : t125.toList = ([99, 111, 110, 116, 101, 110, 116, 45, 108, 101, 110, 103, 116, 104] : List UInt8)
             ·rw [if_pos c27] at H
              have c27b0 : (t125.toList == ([99, 111, 110, 116, 101, 110, 116, 45, 108, 101, 110, 103, 116, 104] : List UInt8)) = true := beq_iff_eq.mpr c27
              have c27b1 : (t125.toList != ([99, 111, 110, 116, 101, 110, 116, 45, 108, 101, 110, 103, 116, 104] : List UInt8)) = false := bne_eq_false_iff_eq.mpr c27
              clear c27
              replace H := Option.bind_eq_some_iff.mp H
              obtain ⟨⟨t126, t127⟩, A280, H⟩ := H
              replace H : (if t127.isNone = true then (if (t124.size : Int) > 9 then (some (0, 400, s0_0, s0_1, s0_2, x1003_1)) else (if t126 < 0 then (some (0, 400, s0_0, s0_1, s0_2, x1003_1)) else ((strconv_Itoa.f t126).bind fun t129 => (if t129.toList = t124.toList then (http_heads.l0 k3 t126 x7_1 (wrap64 (x8_1 + 1)) l1 (l1.length : Int) (wrap64 (x19_1 + 1)) s0_0 s0_1 s0_2 x1003_1) else (some (0, 400, s0_0, s0_1, s0_2, x1003_1)))))) else (some (0, 400, s0_0, s0_1, s0_2, x1003_1))) = some (r1, r2, r3, r4, r5, r6) := H
              have A28 := Aside0.mk A280
              clear A280
              rcases t127 with _ | q128
              ·have H1 : (if (t124.size : Int) > 9 then (some (0, 400, s0_0, s0_1, s0_2, x1003_1)) else (if t126 < 0 then (some (0, 400, s0_0, s0_1, s0_2, x1003_1)) else ((strconv_Itoa.f t126).bind fun t129 => (if t129.toList = t124.toList then (http_heads.l0 k3 t126 x7_1 (wrap64 (x8_1 + 1)) l1 (l1.length : Int) (wrap64 (x19_1 + 1)) s0_0 s0_1 s0_2 x1003_1) else (some (0, 400, s0_0, s0_1, s0_2, x1003_1)))))) = some (r1, r2, r3, r4, r5, r6) := by rw [if_pos (show (none : Option Int).isNone = true by rfl)] at H; exact H
               clear H
               have H := H1
               clear H1
               try simp only [errW_none, errW_some]
               by_cases c29 : (t124.size : Int) > 9
               ·rw [if_pos c29] at H
                have c29b0 : decide (9 < (t124.size : Int)) = true := decide_eq_true c29
                have c29b1 : decide (9 < t124.size) = true := decide_eq_true (by omega)
                clear c29
                simp only [Option.some.injEq, Prod.mk.injEq] at H
                obtain ⟨rfl, rfl, rfl, rfl, rfl, rfl⟩ := H
                go_wp2_with (first | ((with_reducible refine gate_callee (f := 40) rfl ?_); refine goesL_ (some 61) rfl rfl Tryd.func40 (by kernel_rfl) rfl #[.string t120] rfl (by (try simp only [List.map_toArray, List.map_cons, List.map_nil]); first | done | rfl | (simp only [List.length_drop, List.length_take]; rfl)) ?_; (with_reducible refine (http_small.calls t120 t125 _ ?side1 A24.out).mono ?_); (case side1 => first | exact HT.out | exact tabs_below HT.out (by repeat (first | (with_reducible first | exact HB.out | apply below_alloc | apply pw_below_drewN | apply below_drew1 | refine below_set ?_ (IsS24.ge HI0.out)) | exact HB.out))); rintro e w30 ⟨rfl, hb⟩; refine ⟨_, rfl, ?_⟩; have n0_ := Aside0.mk (IsS24.below (by repeat (first | (with_reducible first | exact HI0.out | apply IsS24.alloc | apply IsS24.drewN | apply IsS24.drew | apply IsS24.set_0 | apply IsS24.set_1 | apply IsS24.set_2 | apply IsS24.set_3) | exact HI0.out)) hb); have n1_ := Aside0.mk (KeepBut.trans (by repeat (first | (with_reducible first | exact HK.out | apply KeepBut.set_ | apply keep_drewN | apply keep_drew | apply keep_alloc) | exact HK.out)) (KeepBut.of_below hb g none) (.inl rfl)); have n2_ := Aside0.mk (below_step (by repeat (first | (with_reducible first | exact HB.out | apply below_alloc | apply pw_below_drewN | apply below_drew1 | refine below_set ?_ (IsS24.ge HI0.out)) | exact HB.out)) hb); clear HI0; clear HK; clear HB; have HI0 := n0_; have HK := n1_; have HB := n2_; clear n0_ n1_ n2_; (try clear hb); (try clear hb2); (try clear hk); (try clear hi)) | ((with_reducible refine gate_callee (f := 34) rfl ?_); refine goesL_ (some 70) rfl rfl Tryd.func34 (by kernel_rfl) rfl #[.string t124] rfl (by (try simp only [List.map_toArray, List.map_cons, List.map_nil]); first | done | rfl | (simp only [List.length_drop, List.length_take]; rfl)) ?_; (with_reducible refine (strconv_Atoi.calls t124 t126 none _ ?side1 A28.out).mono ?_); (case side1 => first | exact HT.out | exact tabs_below HT.out (by repeat (first | (with_reducible first | exact HB.out | apply below_alloc | apply pw_below_drewN | apply below_drew1 | refine below_set ?_ (IsS24.ge HI0.out)) | exact HB.out))); rintro e w31 ⟨ev_, rfl, hv_, hb⟩; (first | (have hv2_ := Go.Proofs.YtpigloohccpfiaaDoor.M.ErrV.nil hv_; subst hv2_; clear hv_) | (obtain ⟨et_, ep_, hv2_⟩ := Go.Proofs.YtpigloohccpfiaaDoor.M.ErrV.one hv_; subst hv2_; clear hv_)); refine ⟨_, rfl, ?_⟩; have n0_ := Aside0.mk (IsS24.below (by repeat (first | (with_reducible first | exact HI0.out | apply IsS24.alloc | apply IsS24.drewN | apply IsS24.drew | apply IsS24.set_0 | apply IsS24.set_1 | apply IsS24.set_2 | apply IsS24.set_3) | exact HI0.out)) hb); have n1_ := Aside0.mk (KeepBut.trans (by repeat (first | (with_reducible first | exact HK.out | apply KeepBut.set_ | apply keep_drewN | apply keep_drew | apply keep_alloc) | exact HK.out)) (KeepBut.of_below hb g none) (.inl rfl)); have n2_ := Aside0.mk (below_step (by repeat (first | (with_reducible first | exact HB.out | apply below_alloc | apply pw_below_drewN | apply below_drew1 | refine below_set ?_ (IsS24.ge HI0.out)) | exact HB.out)) hb); clear HI0; clear HK; clear HB; have HI0 := n0_; have HK := n1_; have HB := n2_; clear n0_ n1_ n2_; (try clear hb); (try clear hb2); (try clear hk); (try clear hi); (try simp only [errW_none, errW_some])))
                go_ret2
                exact ⟨by first | rfl | (simp [errW_none, errW_some] <;> rfl) | (simp [*, errW_none, errW_some] <;> rfl), by repeat (first | (with_reducible first | exact HI0.out | apply IsS24.alloc | apply IsS24.drewN | apply IsS24.drew | apply IsS24.set_0 | apply IsS24.set_1 | apply IsS24.set_2 | apply IsS24.set_3) | exact HI0.out), by repeat (first | (with_reducible first | exact HB.out | apply below_alloc | apply pw_below_drewN | apply below_drew1 | refine below_set ?_ (IsS24.ge HI0.out)) | exact HB.out), by repeat (first | (with_reducible first | exact HK.out | apply KeepBut.set_ | apply keep_drewN | apply keep_drew | apply keep_alloc) | exact HK.out)⟩
               ·rw [if_neg c29] at H
                have c29b0 : decide (9 < (t124.size : Int)) = false := decide_eq_false c29
                have c29b1 : decide (9 < t124.size) = false := decide_eq_false (by omega)
                clear c29
                by_cases c32 : t126 < 0
                ·rw [if_pos c32] at H
                 have c32b0 : decide (t126 < 0) = true := decide_eq_true c32
                 clear c32
                 simp only [Option.some.injEq, Prod.mk.injEq] at H
                 obtain ⟨rfl, rfl, rfl, rfl, rfl, rfl⟩ := H
                 go_wp2_with (first | ((with_reducible refine gate_callee (f := 40) rfl ?_); refine goesL_ (some 61) rfl rfl Tryd.func40 (by kernel_rfl) rfl #[.string t120] rfl (by (try simp only [List.map_toArray, List.map_cons, List.map_nil]); first | done | rfl | (simp only [List.length_drop, List.length_take]; rfl)) ?_; (with_reducible refine (http_small.calls t120 t125 _ ?side1 A24.out).mono ?_); (case side1 => first | exact HT.out | exact tabs_below HT.out (by repeat (first | (with_reducible first | exact HB.out | apply below_alloc | apply pw_below_drewN | apply below_drew1 | refine below_set ?_ (IsS24.ge HI0.out)) | exact HB.out))); rintro e w33 ⟨rfl, hb⟩; refine ⟨_, rfl, ?_⟩; have n0_ := Aside0.mk (IsS24.below (by repeat (first | (with_reducible first | exact HI0.out | apply IsS24.alloc | apply IsS24.drewN | apply IsS24.drew | apply IsS24.set_0 | apply IsS24.set_1 | apply IsS24.set_2 | apply IsS24.set_3) | exact HI0.out)) hb); have n1_ := Aside0.mk (KeepBut.trans (by repeat (first | (with_reducible first | exact HK.out | apply KeepBut.set_ | apply keep_drewN | apply keep_drew | apply keep_alloc) | exact HK.out)) (KeepBut.of_below hb g none) (.inl rfl)); have n2_ := Aside0.mk (below_step (by repeat (first | (with_reducible first | exact HB.out | apply below_alloc | apply pw_below_drewN | apply below_drew1 | refine below_set ?_ (IsS24.ge HI0.out)) | exact HB.out)) hb); clear HI0; clear HK; clear HB; have HI0 := n0_; have HK := n1_; have HB := n2_; clear n0_ n1_ n2_; (try clear hb); (try clear hb2); (try clear hk); (try clear hi)) | ((with_reducible refine gate_callee (f := 34) rfl ?_); refine goesL_ (some 70) rfl rfl Tryd.func34 (by kernel_rfl) rfl #[.string t124] rfl (by (try simp only [List.map_toArray, List.map_cons, List.map_nil]); first | done | rfl | (simp only [List.length_drop, List.length_take]; rfl)) ?_; (with_reducible refine (strconv_Atoi.calls t124 t126 none _ ?side1 A28.out).mono ?_); (case side1 => first | exact HT.out | exact tabs_below HT.out (by repeat (first | (with_reducible first | exact HB.out | apply below_alloc | apply pw_below_drewN | apply below_drew1 | refine below_set ?_ (IsS24.ge HI0.out)) | exact HB.out))); rintro e w34 ⟨ev_, rfl, hv_, hb⟩; (first | (have hv2_ := Go.Proofs.YtpigloohccpfiaaDoor.M.ErrV.nil hv_; subst hv2_; clear hv_) | (obtain ⟨et_, ep_, hv2_⟩ := Go.Proofs.YtpigloohccpfiaaDoor.M.ErrV.one hv_; subst hv2_; clear hv_)); refine ⟨_, rfl, ?_⟩; have n0_ := Aside0.mk (IsS24.below (by repeat (first | (with_reducible first | exact HI0.out | apply IsS24.alloc | apply IsS24.drewN | apply IsS24.drew | apply IsS24.set_0 | apply IsS24.set_1 | apply IsS24.set_2 | apply IsS24.set_3) | exact HI0.out)) hb); have n1_ := Aside0.mk (KeepBut.trans (by repeat (first | (with_reducible first | exact HK.out | apply KeepBut.set_ | apply keep_drewN | apply keep_drew | apply keep_alloc) | exact HK.out)) (KeepBut.of_below hb g none) (.inl rfl)); have n2_ := Aside0.mk (below_step (by repeat (first | (with_reducible first | exact HB.out | apply below_alloc | apply pw_below_drewN | apply below_drew1 | refine below_set ?_ (IsS24.ge HI0.out)) | exact HB.out)) hb); clear HI0; clear HK; clear HB; have HI0 := n0_; have HK := n1_; have HB := n2_; clear n0_ n1_ n2_; (try clear hb); (try clear hb2); (try clear hk); (try clear hi); (try simp only [errW_none, errW_some])))
                 go_ret2
                 exact ⟨by first | rfl | (simp [errW_none, errW_some] <;> rfl) | (simp [*, errW_none, errW_some] <;> rfl), by repeat (first | (with_reducible first | exact HI0.out | apply IsS24.alloc | apply IsS24.drewN | apply IsS24.drew | apply IsS24.set_0 | apply IsS24.set_1 | apply IsS24.set_2 | apply IsS24.set_3) | exact HI0.out), by repeat (first | (with_reducible first | exact HB.out | apply below_alloc | apply pw_below_drewN | apply below_drew1 | refine below_set ?_ (IsS24.ge HI0.out)) | exact HB.out), by repeat (first | (with_reducible first | exact HK.out | apply KeepBut.set_ | apply keep_drewN | apply keep_drew | apply keep_alloc) | exact HK.out)⟩
                ·rw [if_neg c32] at H
                 have c32b0 : decide (t126 < 0) = false := decide_eq_false c32
                 clear c32
                 replace H := Option.bind_eq_some_iff.mp H
                 obtain ⟨t129, A350, H⟩ := H
                 replace H : (if t129.toList = t124.toList then (http_heads.l0 k3 t126 x7_1 (wrap64 (x8_1 + 1)) l1 (l1.length : Int) (wrap64 (x19_1 + 1)) s0_0 s0_1 s0_2 x1003_1) else (some (0, 400, s0_0, s0_1, s0_2, x1003_1))) = some (r1, r2, r3, r4, r5, r6) := H
                 have A35 := Aside0.mk A350
                 clear A350
                 by_cases c36 : t129.toList = t124.toList
                 ·rw [if_pos c36] at H
                  have c36b0 : (t129.toList == t124.toList) = true := beq_iff_eq.mpr c36
                  have c36b1 : (t129.toList != t124.toList) = false := bne_eq_false_iff_eq.mpr c36
                  clear c36
                  have H' := Aside0.mk H
                  clear H
                  go_wp2_with (first | ((with_reducible refine gate_callee (f := 40) rfl ?_); refine goesL_ (some 61) rfl rfl Tryd.func40 (by kernel_rfl) rfl #[.string t120] rfl (by (try simp only [List.map_toArray, List.map_cons, List.map_nil]); first | done | rfl | (simp only [List.length_drop, List.length_take]; rfl)) ?_; (with_reducible refine (http_small.calls t120 t125 _ ?side1 A24.out).mono ?_); (case side1 => first | exact HT.out | exact tabs_below HT.out (by repeat (first | (with_reducible first | exact HB.out | apply below_alloc | apply pw_below_drewN | apply below_drew1 | refine below_set ?_ (IsS24.ge HI0.out)) | exact HB.out))); rintro e w37 ⟨rfl, hb⟩; refine ⟨_, rfl, ?_⟩; have n0_ := Aside0.mk (IsS24.below (by repeat (first | (with_reducible first | exact HI0.out | apply IsS24.alloc | apply IsS24.drewN | apply IsS24.drew | apply IsS24.set_0 | apply IsS24.set_1 | apply IsS24.set_2 | apply IsS24.set_3) | exact HI0.out)) hb); have n1_ := Aside0.mk (KeepBut.trans (by repeat (first | (with_reducible first | exact HK.out | apply KeepBut.set_ | apply keep_drewN | apply keep_drew | apply keep_alloc) | exact HK.out)) (KeepBut.of_below hb g none) (.inl rfl)); have n2_ := Aside0.mk (below_step (by repeat (first | (with_reducible first | exact HB.out | apply below_alloc | apply pw_below_drewN | apply below_drew1 | refine below_set ?_ (IsS24.ge HI0.out)) | exact HB.out)) hb); clear HI0; clear HK; clear HB; have HI0 := n0_; have HK := n1_; have HB := n2_; clear n0_ n1_ n2_; (try clear hb); (try clear hb2); (try clear hk); (try clear hi)) | ((with_reducible refine gate_callee (f := 34) rfl ?_); refine goesL_ (some 70) rfl rfl Tryd.func34 (by kernel_rfl) rfl #[.string t124] rfl (by (try simp only [List.map_toArray, List.map_cons, List.map_nil]); first | done | rfl | (simp only [List.length_drop, List.length_take]; rfl)) ?_; (with_reducible refine (strconv_Atoi.calls t124 t126 none _ ?side1 A28.out).mono ?_); (case side1 => first | exact HT.out | exact tabs_below HT.out (by repeat (first | (with_reducible first | exact HB.out | apply below_alloc | apply pw_below_drewN | apply below_drew1 | refine below_set ?_ (IsS24.ge HI0.out)) | exact HB.out))); rintro e w38 ⟨ev_, rfl, hv_, hb⟩; (first | (have hv2_ := Go.Proofs.YtpigloohccpfiaaDoor.M.ErrV.nil hv_; subst hv2_; clear hv_) | (obtain ⟨et_, ep_, hv2_⟩ := Go.Proofs.YtpigloohccpfiaaDoor.M.ErrV.one hv_; subst hv2_; clear hv_)); refine ⟨_, rfl, ?_⟩; have n0_ := Aside0.mk (IsS24.below (by repeat (first | (with_reducible first | exact HI0.out | apply IsS24.alloc | apply IsS24.drewN | apply IsS24.drew | apply IsS24.set_0 | apply IsS24.set_1 | apply IsS24.set_2 | apply IsS24.set_3) | exact HI0.out)) hb); have n1_ := Aside0.mk (KeepBut.trans (by repeat (first | (with_reducible first | exact HK.out | apply KeepBut.set_ | apply keep_drewN | apply keep_drew | apply keep_alloc) | exact HK.out)) (KeepBut.of_below hb g none) (.inl rfl)); have n2_ := Aside0.mk (below_step (by repeat (first | (with_reducible first | exact HB.out | apply below_alloc | apply pw_below_drewN | apply below_drew1 | refine below_set ?_ (IsS24.ge HI0.out)) | exact HB.out)) hb); clear HI0; clear HK; clear HB; have HI0 := n0_; have HK := n1_; have HB := n2_; clear n0_ n1_ n2_; (try clear hb); (try clear hb2); (try clear hk); (try clear hi); (try simp only [errW_none, errW_some])) | (go_at_call 28; (with_reducible refine (strconv_Itoa.calls t126 t129 _ ?side1 A35.out).mono ?_); (case side1 => first | exact HT.out | exact tabs_below HT.out (by repeat (first | (with_reducible first | exact HB.out | apply below_alloc | apply pw_below_drewN | apply below_drew1 | refine below_set ?_ (IsS24.ge HI0.out)) | exact HB.out))); rintro e w39 ⟨rfl, hb⟩; have n0_ := Aside0.mk (IsS24.below (by repeat (first | (with_reducible first | exact HI0.out | apply IsS24.alloc | apply IsS24.drewN | apply IsS24.drew | apply IsS24.set_0 | apply IsS24.set_1 | apply IsS24.set_2 | apply IsS24.set_3) | exact HI0.out)) hb); have n1_ := Aside0.mk (KeepBut.trans (by repeat (first | (with_reducible first | exact HK.out | apply KeepBut.set_ | apply keep_drewN | apply keep_drew | apply keep_alloc) | exact HK.out)) (KeepBut.of_below hb g none) (.inl rfl)); have n2_ := Aside0.mk (below_step (by repeat (first | (with_reducible first | exact HB.out | apply below_alloc | apply pw_below_drewN | apply below_drew1 | refine below_set ?_ (IsS24.ge HI0.out)) | exact HB.out)) hb); clear HI0; clear HK; clear HB; have HI0 := n0_; have HK := n1_; have HB := n2_; clear n0_ n1_ n2_; (try clear hb); (try clear hb2); (try clear hk); (try clear hi)))
                  go_roundg k3
                  case measure => have := HK1.out; have := HJ6.out; have := HK3.out; omega
                  case rel => exact ⟨(t126), (x7_1), (wrap64 (x8_1 + 1)), (wrap64 (x19_1 + 1)), (x1003_1), (by first | rfl | (simp; done) | (simp [*]; done)), (by first | rfl | (simp; done) | (simp [*]; done)), (by first | rfl | (simp; done) | (simp [*]; done)), (by first | rfl | (simp; done) | (simp [*]; done)), H', ⟨by have := HK1.out; have := HJ6.out; have := HK3.out; omega⟩, ⟨by repeat (first | (with_reducible first | exact HI0.out | apply IsS24.alloc | apply IsS24.drewN | apply IsS24.drew | apply IsS24.set_0 | apply IsS24.set_1 | apply IsS24.set_2 | apply IsS24.set_3) | exact HI0.out)⟩, ⟨by repeat (first | (with_reducible first | exact HK.out | apply KeepBut.set_ | apply keep_drewN | apply keep_drew | apply keep_alloc) | exact HK.out)⟩, ⟨by repeat (first | (with_reducible first | exact HB.out | apply below_alloc | apply pw_below_drewN | apply below_drew1 | refine below_set ?_ (IsS24.ge HI0.out)) | exact HB.out)⟩⟩
                 ·rw [if_neg c36] at H
                  have c36b0 : (t129.toList == t124.toList) = false := beq_eq_false_iff_ne.mpr c36
                  have c36b1 : (t129.toList != t124.toList) = true := bne_iff_ne.mpr c36
                  simp only [Option.some.injEq, Prod.mk.injEq] at H
                  obtain ⟨rfl, rfl, rfl, rfl, rfl, rfl⟩ := H
                  go_wp2_with (first | ((with_reducible refine gate_callee (f := 40) rfl ?_); refine goesL_ (some 61) rfl rfl Tryd.func40 (by kernel_rfl) rfl #[.string t120] rfl (by (try simp only [List.map_toArray, List.map_cons, List.map_nil]); first | done | rfl | (simp only [List.length_drop, List.length_take]; rfl)) ?_; (with_reducible refine (http_small.calls t120 t125 _ ?side1 A24.out).mono ?_); (case side1 => first | exact HT.out | exact tabs_below HT.out (by repeat (first | (with_reducible first | exact HB.out | apply below_alloc | apply pw_below_drewN | apply below_drew1 | refine below_set ?_ (IsS24.ge HI0.out)) | exact HB.out))); rintro e w40 ⟨rfl, hb⟩; refine ⟨_, rfl, ?_⟩; have n0_ := Aside0.mk (IsS24.below (by repeat (first | (with_reducible first | exact HI0.out | apply IsS24.alloc | apply IsS24.drewN | apply IsS24.drew | apply IsS24.set_0 | apply IsS24.set_1 | apply IsS24.set_2 | apply IsS24.set_3) | exact HI0.out)) hb); have n1_ := Aside0.mk (KeepBut.trans (by repeat (first | (with_reducible first | exact HK.out | apply KeepBut.set_ | apply keep_drewN | apply keep_drew | apply keep_alloc) | exact HK.out)) (KeepBut.of_below hb g none) (.inl rfl)); have n2_ := Aside0.mk (below_step (by repeat (first | (with_reducible first | exact HB.out | apply below_alloc | apply pw_below_drewN | apply below_drew1 | refine below_set ?_ (IsS24.ge HI0.out)) | exact HB.out)) hb); clear HI0; clear HK; clear HB; have HI0 := n0_; have HK := n1_; have HB := n2_; clear n0_ n1_ n2_; (try clear hb); (try clear hb2); (try clear hk); (try clear hi)) | ((with_reducible refine gate_callee (f := 34) rfl ?_); refine goesL_ (some 70) rfl rfl Tryd.func34 (by kernel_rfl) rfl #[.string t124] rfl (by (try simp only [List.map_toArray, List.map_cons, List.map_nil]); first | done | rfl | (simp only [List.length_drop, List.length_take]; rfl)) ?_; (with_reducible refine (strconv_Atoi.calls t124 t126 none _ ?side1 A28.out).mono ?_); (case side1 => first | exact HT.out | exact tabs_below HT.out (by repeat (first | (with_reducible first | exact HB.out | apply below_alloc | apply pw_below_drewN | apply below_drew1 | refine below_set ?_ (IsS24.ge HI0.out)) | exact HB.out))); rintro e w41 ⟨ev_, rfl, hv_, hb⟩; (first | (have hv2_ := Go.Proofs.YtpigloohccpfiaaDoor.M.ErrV.nil hv_; subst hv2_; clear hv_) | (obtain ⟨et_, ep_, hv2_⟩ := Go.Proofs.YtpigloohccpfiaaDoor.M.ErrV.one hv_; subst hv2_; clear hv_)); refine ⟨_, rfl, ?_⟩; have n0_ := Aside0.mk (IsS24.below (by repeat (first | (with_reducible first | exact HI0.out | apply IsS24.alloc | apply IsS24.drewN | apply IsS24.drew | apply IsS24.set_0 | apply IsS24.set_1 | apply IsS24.set_2 | apply IsS24.set_3) | exact HI0.out)) hb); have n1_ := Aside0.mk (KeepBut.trans (by repeat (first | (with_reducible first | exact HK.out | apply KeepBut.set_ | apply keep_drewN | apply keep_drew | apply keep_alloc) | exact HK.out)) (KeepBut.of_below hb g none) (.inl rfl)); have n2_ := Aside0.mk (below_step (by repeat (first | (with_reducible first | exact HB.out | apply below_alloc | apply pw_below_drewN | apply below_drew1 | refine below_set ?_ (IsS24.ge HI0.out)) | exact HB.out)) hb); clear HI0; clear HK; clear HB; have HI0 := n0_; have HK := n1_; have HB := n2_; clear n0_ n1_ n2_; (try clear hb); (try clear hb2); (try clear hk); (try clear hi); (try simp only [errW_none, errW_some])) | (go_at_call 28; (with_reducible refine (strconv_Itoa.calls t126 t129 _ ?side1 A35.out).mono ?_); (case side1 => first | exact HT.out | exact tabs_below HT.out (by repeat (first | (with_reducible first | exact HB.out | apply below_alloc | apply pw_below_drewN | apply below_drew1 | refine below_set ?_ (IsS24.ge HI0.out)) | exact HB.out))); rintro e w42 ⟨rfl, hb⟩; have n0_ := Aside0.mk (IsS24.below (by repeat (first | (with_reducible first | exact HI0.out | apply IsS24.alloc | apply IsS24.drewN | apply IsS24.drew | apply IsS24.set_0 | apply IsS24.set_1 | apply IsS24.set_2 | apply IsS24.set_3) | exact HI0.out)) hb); have n1_ := Aside0.mk (KeepBut.trans (by repeat (first | (with_reducible first | exact HK.out | apply KeepBut.set_ | apply keep_drewN | apply keep_drew | apply keep_alloc) | exact HK.out)) (KeepBut.of_below hb g none) (.inl rfl)); have n2_ := Aside0.mk (below_step (by repeat (first | (with_reducible first | exact HB.out | apply below_alloc | apply pw_below_drewN | apply below_drew1 | refine below_set ?_ (IsS24.ge HI0.out)) | exact HB.out)) hb); clear HI0; clear HK; clear HB; have HI0 := n0_; have HK := n1_; have HB := n2_; clear n0_ n1_ n2_; (try clear hb); (try clear hb2); (try clear hk); (try clear hi)))
                  go_ret2
                  exact ⟨by first | rfl | (simp [errW_none, errW_some] <;> rfl) | (simp [*, errW_none, errW_some] <;> rfl), by repeat (first | (with_reducible first | exact HI0.out | apply IsS24.alloc | apply IsS24.drewN | apply IsS24.drew | apply IsS24.set_0 | apply IsS24.set_1 | apply IsS24.set_2 | apply IsS24.set_3) | exact HI0.out), by repeat (first | (with_reducible first | exact HB.out | apply below_alloc | apply pw_below_drewN | apply below_drew1 | refine below_set ?_ (IsS24.ge HI0.out)) | exact HB.out), by repeat (first | (with_reducible first | exact HK.out | apply KeepBut.set_ | apply keep_drewN | apply keep_drew | apply keep_alloc) | exact HK.out)⟩
              ·have H1 : (some (0, 400, s0_0, s0_1, s0_2, x1003_1)) = some (r1, r2, r3, r4, r5, r6) := by rw [if_neg (show ¬ (some q128).isNone = true by simp)] at H; exact H
               clear H
               have H := H1
               clear H1
               try simp only [errW_none, errW_some]
               simp only [Option.some.injEq, Prod.mk.injEq] at H
               obtain ⟨rfl, rfl, rfl, rfl, rfl, rfl⟩ := H
               go_wp2_with (first | ((with_reducible refine gate_callee (f := 40) rfl ?_); refine goesL_ (some 61) rfl rfl Tryd.func40 (by kernel_rfl) rfl #[.string t120] rfl (by (try simp only [List.map_toArray, List.map_cons, List.map_nil]); first | done | rfl | (simp only [List.length_drop, List.length_take]; rfl)) ?_; (with_reducible refine (http_small.calls t120 t125 _ ?side1 A24.out).mono ?_); (case side1 => first | exact HT.out | exact tabs_below HT.out (by repeat (first | (with_reducible first | exact HB.out | apply below_alloc | apply pw_below_drewN | apply below_drew1 | refine below_set ?_ (IsS24.ge HI0.out)) | exact HB.out))); rintro e w43 ⟨rfl, hb⟩; refine ⟨_, rfl, ?_⟩; have n0_ := Aside0.mk (IsS24.below (by repeat (first | (with_reducible first | exact HI0.out | apply IsS24.alloc | apply IsS24.drewN | apply IsS24.drew | apply IsS24.set_0 | apply IsS24.set_1 | apply IsS24.set_2 | apply IsS24.set_3) | exact HI0.out)) hb); have n1_ := Aside0.mk (KeepBut.trans (by repeat (first | (with_reducible first | exact HK.out | apply KeepBut.set_ | apply keep_drewN | apply keep_drew | apply keep_alloc) | exact HK.out)) (KeepBut.of_below hb g none) (.inl rfl)); have n2_ := Aside0.mk (below_step (by repeat (first | (with_reducible first | exact HB.out | apply below_alloc | apply pw_below_drewN | apply below_drew1 | refine below_set ?_ (IsS24.ge HI0.out)) | exact HB.out)) hb); clear HI0; clear HK; clear HB; have HI0 := n0_; have HK := n1_; have HB := n2_; clear n0_ n1_ n2_; (try clear hb); (try clear hb2); (try clear hk); (try clear hi)) | ((with_reducible refine gate_callee (f := 34) rfl ?_); refine goesL_ (some 70) rfl rfl Tryd.func34 (by kernel_rfl) rfl #[.string t124] rfl (by (try simp only [List.map_toArray, List.map_cons, List.map_nil]); first | done | rfl | (simp only [List.length_drop, List.length_take]; rfl)) ?_; (with_reducible refine (strconv_Atoi.calls t124 t126 (some q128) _ ?side1 A28.out).mono ?_); (case side1 => first | exact HT.out | exact tabs_below HT.out (by repeat (first | (with_reducible first | exact HB.out | apply below_alloc | apply pw_below_drewN | apply below_drew1 | refine below_set ?_ (IsS24.ge HI0.out)) | exact HB.out))); rintro e w44 ⟨ev_, rfl, hv_, hb⟩; (first | (have hv2_ := Go.Proofs.YtpigloohccpfiaaDoor.M.ErrV.nil hv_; subst hv2_; clear hv_) | (obtain ⟨et_, ep_, hv2_⟩ := Go.Proofs.YtpigloohccpfiaaDoor.M.ErrV.one hv_; subst hv2_; clear hv_)); refine ⟨_, rfl, ?_⟩; have n0_ := Aside0.mk (IsS24.below (by repeat (first | (with_reducible first | exact HI0.out | apply IsS24.alloc | apply IsS24.drewN | apply IsS24.drew | apply IsS24.set_0 | apply IsS24.set_1 | apply IsS24.set_2 | apply IsS24.set_3) | exact HI0.out)) hb); have n1_ := Aside0.mk (KeepBut.trans (by repeat (first | (with_reducible first | exact HK.out | apply KeepBut.set_ | apply keep_drewN | apply keep_drew | apply keep_alloc) | exact HK.out)) (KeepBut.of_below hb g none) (.inl rfl)); have n2_ := Aside0.mk (below_step (by repeat (first | (with_reducible first | exact HB.out | apply below_alloc | apply pw_below_drewN | apply below_drew1 | refine below_set ?_ (IsS24.ge HI0.out)) | exact HB.out)) hb); clear HI0; clear HK; clear HB; have HI0 := n0_; have HK := n1_; have HB := n2_; clear n0_ n1_ n2_; (try clear hb); (try clear hb2); (try clear hk); (try clear hi); (try simp only [errW_none, errW_some])))
               go_ret2
               exact ⟨by first | rfl | (simp [errW_none, errW_some] <;> rfl) | (simp [*, errW_none, errW_some] <;> rfl), by repeat (first | (with_reducible first | exact HI0.out | apply IsS24.alloc | apply IsS24.drewN | apply IsS24.drew | apply IsS24.set_0 | apply IsS24.set_1 | apply IsS24.set_2 | apply IsS24.set_3) | exact HI0.out), by repeat (first | (with_reducible first | exact HB.out | apply below_alloc | apply pw_below_drewN | apply below_drew1 | refine below_set ?_ (IsS24.ge HI0.out)) | exact HB.out), by repeat (first | (with_reducible first | exact HK.out | apply KeepBut.set_ | apply keep_drewN | apply keep_drew | apply keep_alloc) | exact HK.out)⟩
             ·rw [if_neg c27] at H
              have c27b0 : (t125.toList == ([99, 111, 110, 116, 101, 110, 116, 45, 108, 101, 110, 103, 116, 104] : List UInt8)) = false := beq_eq_false_iff_ne.mpr c27
              have c27b1 : (t125.toList != ([99, 111, 110, 116, 101, 110, 116, 45, 108, 101, 110, 103, 116, 104] : List UInt8)) = true := bne_iff_ne.mpr c27
              by_cases c45 : t125.toList = ([116, 114, 97, 110, 115, 102, 101, 114, 45, 101, 110, 99, 111, 100, 105, 110, 103] : List UInt8)
              ·rw [if_pos c45] at H
               have c45b0 : (t125.toList == ([116, 114, 97, 110, 115, 102, 101, 114, 45, 101, 110, 99, 111, 100, 105, 110, 103] : List UInt8)) = true := beq_iff_eq.mpr c45
               have c45b1 : (t125.toList != ([116, 114, 97, 110, 115, 102, 101, 114, 45, 101, 110, 99, 111, 100, 105, 110, 103] : List UInt8)) = false := bne_eq_false_iff_eq.mpr c45
               clear c45
               simp only [Option.some.injEq, Prod.mk.injEq] at H
               obtain ⟨rfl, rfl, rfl, rfl, rfl, rfl⟩ := H
               go_wp2_with (first | ((with_reducible refine gate_callee (f := 40) rfl ?_); refine goesL_ (some 61) rfl rfl Tryd.func40 (by kernel_rfl) rfl #[.string t120] rfl (by (try simp only [List.map_toArray, List.map_cons, List.map_nil]); first | done | rfl | (simp only [List.length_drop, List.length_take]; rfl)) ?_; (with_reducible refine (http_small.calls t120 t125 _ ?side1 A24.out).mono ?_); (case side1 => first | exact HT.out | exact tabs_below HT.out (by repeat (first | (with_reducible first | exact HB.out | apply below_alloc | apply pw_below_drewN | apply below_drew1 | refine below_set ?_ (IsS24.ge HI0.out)) | exact HB.out))); rintro e w46 ⟨rfl, hb⟩; refine ⟨_, rfl, ?_⟩; have n0_ := Aside0.mk (IsS24.below (by repeat (first | (with_reducible first | exact HI0.out | apply IsS24.alloc | apply IsS24.drewN | apply IsS24.drew | apply IsS24.set_0 | apply IsS24.set_1 | apply IsS24.set_2 | apply IsS24.set_3) | exact HI0.out)) hb); have n1_ := Aside0.mk (KeepBut.trans (by repeat (first | (with_reducible first | exact HK.out | apply KeepBut.set_ | apply keep_drewN | apply keep_drew | apply keep_alloc) | exact HK.out)) (KeepBut.of_below hb g none) (.inl rfl)); have n2_ := Aside0.mk (below_step (by repeat (first | (with_reducible first | exact HB.out | apply below_alloc | apply pw_below_drewN | apply below_drew1 | refine below_set ?_ (IsS24.ge HI0.out)) | exact HB.out)) hb); clear HI0; clear HK; clear HB; have HI0 := n0_; have HK := n1_; have HB := n2_; clear n0_ n1_ n2_; (try clear hb); (try clear hb2); (try clear hk); (try clear hi)))
               go_ret2
               exact ⟨by first | rfl | (simp [errW_none, errW_some] <;> rfl) | (simp [*, errW_none, errW_some] <;> rfl), by repeat (first | (with_reducible first | exact HI0.out | apply IsS24.alloc | apply IsS24.drewN | apply IsS24.drew | apply IsS24.set_0 | apply IsS24.set_1 | apply IsS24.set_2 | apply IsS24.set_3) | exact HI0.out), by repeat (first | (with_reducible first | exact HB.out | apply below_alloc | apply pw_below_drewN | apply below_drew1 | refine below_set ?_ (IsS24.ge HI0.out)) | exact HB.out), by repeat (first | (with_reducible first | exact HK.out | apply KeepBut.set_ | apply keep_drewN | apply keep_drew | apply keep_alloc) | exact HK.out)⟩
              ·rw [if_neg c45] at H
               have c45b0 : (t125.toList == ([116, 114, 97, 110, 115, 102, 101, 114, 45, 101, 110, 99, 111, 100, 105, 110, 103] : List UInt8)) = false := beq_eq_false_iff_ne.mpr c45
               have c45b1 : (t125.toList != ([116, 114, 97, 110, 115, 102, 101, 114, 45, 101, 110, 99, 111, 100, 105, 110, 103] : List UInt8)) = true := bne_iff_ne.mpr c45
               by_cases c47 : t125.toList = ([99, 111, 110, 110, 101, 99, 116, 105, 111, 110] : List UInt8)
               ·rw [if_pos c47] at H
                have c47b0 : (t125.toList == ([99, 111, 110, 110, 101, 99, 116, 105, 111, 110] : List UInt8)) = true := beq_iff_eq.mpr c47
                have c47b1 : (t125.toList != ([99, 111, 110, 110, 101, 99, 116, 105, 111, 110] : List UInt8)) = false := bne_eq_false_iff_eq.mpr c47
                clear c47
                by_cases c48 : x1003_1 = true
                ·subst c48
                 have H1 : (http_heads.l0 k3 x6_1 x7_1 x8_1 l1 (l1.length : Int) (wrap64 (x19_1 + 1)) s0_0 s0_1 s0_2 true) = some (r1, r2, r3, r4, r5, r6) := by rw [if_pos rfl] at H; exact H
                 clear H
                 have H := H1
                 clear H1
                 have H' := Aside0.mk H
                 clear H
                 go_wp2_with (first | ((with_reducible refine gate_callee (f := 40) rfl ?_); refine goesL_ (some 61) rfl rfl Tryd.func40 (by kernel_rfl) rfl #[.string t120] rfl (by (try simp only [List.map_toArray, List.map_cons, List.map_nil]); first | done | rfl | (simp only [List.length_drop, List.length_take]; rfl)) ?_; (with_reducible refine (http_small.calls t120 t125 _ ?side1 A24.out).mono ?_); (case side1 => first | exact HT.out | exact tabs_below HT.out (by repeat (first | (with_reducible first | exact HB.out | apply below_alloc | apply pw_below_drewN | apply below_drew1 | refine below_set ?_ (IsS24.ge HI0.out)) | exact HB.out))); rintro e w49 ⟨rfl, hb⟩; refine ⟨_, rfl, ?_⟩; have n0_ := Aside0.mk (IsS24.below (by repeat (first | (with_reducible first | exact HI0.out | apply IsS24.alloc | apply IsS24.drewN | apply IsS24.drew | apply IsS24.set_0 | apply IsS24.set_1 | apply IsS24.set_2 | apply IsS24.set_3) | exact HI0.out)) hb); have n1_ := Aside0.mk (KeepBut.trans (by repeat (first | (with_reducible first | exact HK.out | apply KeepBut.set_ | apply keep_drewN | apply keep_drew | apply keep_alloc) | exact HK.out)) (KeepBut.of_below hb g none) (.inl rfl)); have n2_ := Aside0.mk (below_step (by repeat (first | (with_reducible first | exact HB.out | apply below_alloc | apply pw_below_drewN | apply below_drew1 | refine below_set ?_ (IsS24.ge HI0.out)) | exact HB.out)) hb); clear HI0; clear HK; clear HB; have HI0 := n0_; have HK := n1_; have HB := n2_; clear n0_ n1_ n2_; (try clear hb); (try clear hb2); (try clear hk); (try clear hi); obtain ⟨HGz50, hgz50⟩ := HI0.out; have hcz50_0 := cellS24_0 HGz50; have hcz50_1 := cellS24_1 HGz50; have hcz50_2 := cellS24_2 HGz50; have hcz50_3 := cellS24_3 HGz50; have hfz50_0 := blk_frozen HGz50 0; have hfz50_1 := blk_frozen HGz50 1; have hfz50_2 := blk_frozen HGz50 2; have hfz50_3 := blk_frozen HGz50 3; clear HGz50 hgz50))
                 go_roundg k3
                 case measure => have := HK1.out; have := HJ6.out; have := HK3.out; omega
                 case rel => exact ⟨(x6_1), (x7_1), (x8_1), (wrap64 (x19_1 + 1)), (true), (by first | rfl | (simp; done) | (simp [*]; done)), (by first | rfl | (simp; done) | (simp [*]; done)), (by first | rfl | (simp; done) | (simp [*]; done)), (by first | rfl | (simp; done) | (simp [*]; done)), H', ⟨by have := HK1.out; have := HJ6.out; have := HK3.out; omega⟩, ⟨by repeat (first | (with_reducible first | exact HI0.out | apply IsS24.alloc | apply IsS24.drewN | apply IsS24.drew | apply IsS24.set_0 | apply IsS24.set_1 | apply IsS24.set_2 | apply IsS24.set_3) | exact HI0.out)⟩, ⟨by repeat (first | (with_reducible first | exact HK.out | apply KeepBut.set_ | apply keep_drewN | apply keep_drew | apply keep_alloc) | exact HK.out)⟩, ⟨by repeat (first | (with_reducible first | exact HB.out | apply below_alloc | apply pw_below_drewN | apply below_drew1 | refine below_set ?_ (IsS24.ge HI0.out)) | exact HB.out)⟩⟩
                ·replace c48 := Bool.eq_false_iff.mpr c48
                 subst c48
                 have H1 : ((http_small.f t124).bind fun t130 => (http_heads.l0 k3 x6_1 x7_1 x8_1 l1 (l1.length : Int) (wrap64 (x19_1 + 1)) s0_0 s0_1 s0_2 (t130.toList == ([99, 108, 111, 115, 101] : List UInt8)))) = some (r1, r2, r3, r4, r5, r6) := by rw [if_neg (show ¬ (false = true) by decide)] at H; exact H
                 clear H
                 have H := H1
                 clear H1
                 replace H := Option.bind_eq_some_iff.mp H
                 obtain ⟨t130, A510, H⟩ := H
                 replace H : (http_heads.l0 k3 x6_1 x7_1 x8_1 l1 (l1.length : Int) (wrap64 (x19_1 + 1)) s0_0 s0_1 s0_2 (t130.toList == ([99, 108, 111, 115, 101] : List UInt8))) = some (r1, r2, r3, r4, r5, r6) := H
                 have A51 := Aside0.mk A510
                 clear A510
                 have H' := Aside0.mk H
                 clear H
                 go_wp2_with (first | ((with_reducible refine gate_callee (f := 40) rfl ?_); refine goesL_ (some 61) rfl rfl Tryd.func40 (by kernel_rfl) rfl #[.string t120] rfl (by (try simp only [List.map_toArray, List.map_cons, List.map_nil]); first | done | rfl | (simp only [List.length_drop, List.length_take]; rfl)) ?_; (with_reducible refine (http_small.calls t120 t125 _ ?side1 A24.out).mono ?_); (case side1 => first | exact HT.out | exact tabs_below HT.out (by repeat (first | (with_reducible first | exact HB.out | apply below_alloc | apply pw_below_drewN | apply below_drew1 | refine below_set ?_ (IsS24.ge HI0.out)) | exact HB.out))); rintro e w52 ⟨rfl, hb⟩; refine ⟨_, rfl, ?_⟩; have n0_ := Aside0.mk (IsS24.below (by repeat (first | (with_reducible first | exact HI0.out | apply IsS24.alloc | apply IsS24.drewN | apply IsS24.drew | apply IsS24.set_0 | apply IsS24.set_1 | apply IsS24.set_2 | apply IsS24.set_3) | exact HI0.out)) hb); have n1_ := Aside0.mk (KeepBut.trans (by repeat (first | (with_reducible first | exact HK.out | apply KeepBut.set_ | apply keep_drewN | apply keep_drew | apply keep_alloc) | exact HK.out)) (KeepBut.of_below hb g none) (.inl rfl)); have n2_ := Aside0.mk (below_step (by repeat (first | (with_reducible first | exact HB.out | apply below_alloc | apply pw_below_drewN | apply below_drew1 | refine below_set ?_ (IsS24.ge HI0.out)) | exact HB.out)) hb); clear HI0; clear HK; clear HB; have HI0 := n0_; have HK := n1_; have HB := n2_; clear n0_ n1_ n2_; (try clear hb); (try clear hb2); (try clear hk); (try clear hi); obtain ⟨HGz53, hgz53⟩ := HI0.out; have hcz53_0 := cellS24_0 HGz53; have hcz53_1 := cellS24_1 HGz53; have hcz53_2 := cellS24_2 HGz53; have hcz53_3 := cellS24_3 HGz53; have hfz53_0 := blk_frozen HGz53 0; have hfz53_1 := blk_frozen HGz53 1; have hfz53_2 := blk_frozen HGz53 2; have hfz53_3 := blk_frozen HGz53 3; clear HGz53 hgz53) | (go_at_call 40; (with_reducible refine (http_small.calls t124 t130 _ ?side1 A51.out).mono ?_); (case side1 => first | exact HT.out | exact tabs_below HT.out (by repeat (first | (with_reducible first | exact HB.out | apply below_alloc | apply pw_below_drewN | apply below_drew1 | refine below_set ?_ (IsS24.ge HI0.out)) | exact HB.out))); rintro e w54 ⟨rfl, hb⟩; have n0_ := Aside0.mk (IsS24.below (by repeat (first | (with_reducible first | exact HI0.out | apply IsS24.alloc | apply IsS24.drewN | apply IsS24.drew | apply IsS24.set_0 | apply IsS24.set_1 | apply IsS24.set_2 | apply IsS24.set_3) | exact HI0.out)) hb); have n1_ := Aside0.mk (KeepBut.trans (by repeat (first | (with_reducible first | exact HK.out | apply KeepBut.set_ | apply keep_drewN | apply keep_drew | apply keep_alloc) | exact HK.out)) (KeepBut.of_below hb g none) (.inl rfl)); have n2_ := Aside0.mk (below_step (by repeat (first | (with_reducible first | exact HB.out | apply below_alloc | apply pw_below_drewN | apply below_drew1 | refine below_set ?_ (IsS24.ge HI0.out)) | exact HB.out)) hb); clear HI0; clear HK; clear HB; have HI0 := n0_; have HK := n1_; have HB := n2_; clear n0_ n1_ n2_; (try clear hb); (try clear hb2); (try clear hk); (try clear hi); obtain ⟨HGz55, hgz55⟩ := HI0.out; have hcz55_0 := cellS24_0 HGz55; have hcz55_1 := cellS24_1 HGz55; have hcz55_2 := cellS24_2 HGz55; have hcz55_3 := cellS24_3 HGz55; have hfz55_0 := blk_frozen HGz55 0; have hfz55_1 := blk_frozen HGz55 1; have hfz55_2 := blk_frozen HGz55 2; have hfz55_3 := blk_frozen HGz55 3; clear HGz55 hgz55))
                 go_roundg k3
                 case measure => have := HK1.out; have := HJ6.out; have := HK3.out; omega
                 case rel => exact ⟨(x6_1), (x7_1), (x8_1), (wrap64 (x19_1 + 1)), ((t130.toList == ([99, 108, 111, 115, 101] : List UInt8))), (by first | rfl | (simp; done) | (simp [*]; done)), (by first | rfl | (simp; done) | (simp [*]; done)), (by first | rfl | (simp; done) | (simp [*]; done)), (by first | rfl | (simp; done) | (simp [*]; done)), H', ⟨by have := HK1.out; have := HJ6.out; have := HK3.out; omega⟩, ⟨by repeat (first | (with_reducible first | exact HI0.out | apply IsS24.alloc | apply IsS24.drewN | apply IsS24.drew | apply IsS24.set_0 | apply IsS24.set_1 | apply IsS24.set_2 | apply IsS24.set_3) | exact HI0.out)⟩, ⟨by repeat (first | (with_reducible first | exact HK.out | apply KeepBut.set_ | apply keep_drewN | apply keep_drew | apply keep_alloc) | exact HK.out)⟩, ⟨by repeat (first | (with_reducible first | exact HB.out | apply below_alloc | apply pw_below_drewN | apply below_drew1 | refine below_set ?_ (IsS24.ge HI0.out)) | exact HB.out)⟩⟩
               ·rw [if_neg c47] at H
                have c47b0 : (t125.toList == ([99, 111, 110, 110, 101, 99, 116, 105, 111, 110] : List UInt8)) = false := beq_eq_false_iff_ne.mpr c47
                have c47b1 : (t125.toList != ([99, 111, 110, 110, 101, 99, 116, 105, 111, 110] : List UInt8)) = true := bne_iff_ne.mpr c47
                have H' := Aside0.mk H
                clear H
                go_wp2_with (first | ((with_reducible refine gate_callee (f := 40) rfl ?_); refine goesL_ (some 61) rfl rfl Tryd.func40 (by kernel_rfl) rfl #[.string t120] rfl (by (try simp only [List.map_toArray, List.map_cons, List.map_nil]); first | done | rfl | (simp only [List.length_drop, List.length_take]; rfl)) ?_; (with_reducible refine (http_small.calls t120 t125 _ ?side1 A24.out).mono ?_); (case side1 => first | exact HT.out | exact tabs_below HT.out (by repeat (first | (with_reducible first | exact HB.out | apply below_alloc | apply pw_below_drewN | apply below_drew1 | refine below_set ?_ (IsS24.ge HI0.out)) | exact HB.out))); rintro e w56 ⟨rfl, hb⟩; refine ⟨_, rfl, ?_⟩; have n0_ := Aside0.mk (IsS24.below (by repeat (first | (with_reducible first | exact HI0.out | apply IsS24.alloc | apply IsS24.drewN | apply IsS24.drew | apply IsS24.set_0 | apply IsS24.set_1 | apply IsS24.set_2 | apply IsS24.set_3) | exact HI0.out)) hb); have n1_ := Aside0.mk (KeepBut.trans (by repeat (first | (with_reducible first | exact HK.out | apply KeepBut.set_ | apply keep_drewN | apply keep_drew | apply keep_alloc) | exact HK.out)) (KeepBut.of_below hb g none) (.inl rfl)); have n2_ := Aside0.mk (below_step (by repeat (first | (with_reducible first | exact HB.out | apply below_alloc | apply pw_below_drewN | apply below_drew1 | refine below_set ?_ (IsS24.ge HI0.out)) | exact HB.out)) hb); clear HI0; clear HK; clear HB; have HI0 := n0_; have HK := n1_; have HB := n2_; clear n0_ n1_ n2_; (try clear hb); (try clear hb2); (try clear hk); (try clear hi)))
                go_roundg k3
                case measure => have := HK1.out; have := HJ6.out; have := HK3.out; omega
                case rel => exact ⟨(x6_1), (x7_1), (x8_1), (wrap64 (x19_1 + 1)), (x1003_1), (by first | rfl | (simp; done) | (simp [*]; done)), (by first | rfl | (simp; done) | (simp [*]; done)), (by first | rfl | (simp; done) | (simp [*]; done)), (by first | rfl | (simp; done) | (simp [*]; done)), H', ⟨by have := HK1.out; have := HJ6.out; have := HK3.out; omega⟩, ⟨by repeat (first | (with_reducible first | exact HI0.out | apply IsS24.alloc | apply IsS24.drewN | apply IsS24.drew | apply IsS24.set_0 | apply IsS24.set_1 | apply IsS24.set_2 | apply IsS24.set_3) | exact HI0.out)⟩, ⟨by repeat (first | (with_reducible first | exact HK.out | apply KeepBut.set_ | apply keep_drewN | apply keep_drew | apply keep_alloc) | exact HK.out)⟩, ⟨by repeat (first | (with_reducible first | exact HB.out | apply below_alloc | apply pw_below_drewN | apply below_drew1 | refine below_set ?_ (IsS24.ge HI0.out)) | exact HB.out)⟩⟩
     ·rw [if_neg c5] at H
      exact absurd H (by simp)
    ·rw [if_neg c4] at H
     exact absurd H (by simp)
   ·rw [if_neg c3] at H
    have c3b0 : decide (x19_1 < (l1.length : Int)) = false := decide_eq_false c3
    clear c3
    have HC57 := Aside0.mk H
    clear H
    go_upto_region 28 with (fail)
    go_cut [110] (fun v110 wc => ∃ (kq : Nat) (x110_56 : Bool), v110 = .bool x110_56 ∧ Aside0 (http_heads.j3 kq x6_1 x110_56 s0_0 s0_1 s0_2 x1003_1 = some (r1, r2, r3, r4, r5, r6)) ∧ Aside0 (kq ≤ k1) ∧ Aside0 (IsS24 w0 wc g s0_0 s0_1 s0_2 x1003_1) ∧ Aside0 (KeepBut w wc g none) ∧ Aside0 (Below w0.heap.size w0 wc))
    case first =>
     have H := HC57.out
     clear HC57
     by_cases c58 : x7_1 = 1
     ·rw [if_pos c58] at H
      have c58b0 : (x7_1 == 1) = true := beq_iff_eq.mpr c58
      have c58b1 : (x7_1 != 1) = false := bne_eq_false_iff_eq.mpr c58
      clear c58
      (first | rw [c58b0] | (simp only [i64_w, i32_w]; rw [c58b0]) | skip)
      have H' := Aside0.mk H
      clear H
      go_wp2
      go_meet
      case rel => exact ⟨_, (decide (x8_1 > 1)), (by first | rfl | (simp; done) | (simp [*]; done)), H', ⟨by have := HK1.out; first | omega | exact Nat.le_refl _⟩, ⟨by repeat (first | (with_reducible first | exact HI0.out | apply IsS24.alloc | apply IsS24.drewN | apply IsS24.drew | apply IsS24.set_0 | apply IsS24.set_1 | apply IsS24.set_2 | apply IsS24.set_3) | exact HI0.out)⟩, ⟨by repeat (first | (with_reducible first | exact HK.out | apply KeepBut.set_ | apply keep_drewN | apply keep_drew | apply keep_alloc) | exact HK.out)⟩, ⟨by repeat (first | (with_reducible first | exact HB.out | apply below_alloc | apply pw_below_drewN | apply below_drew1 | refine below_set ?_ (IsS24.ge HI0.out)) | exact HB.out)⟩⟩
     ·rw [if_neg c58] at H
      have c58b0 : (x7_1 == 1) = false := beq_eq_false_iff_ne.mpr c58
      have c58b1 : (x7_1 != 1) = true := bne_iff_ne.mpr c58
      (first | rw [c58b0] | (simp only [i64_w, i32_w]; rw [c58b0]) | skip)
      have H' := Aside0.mk H
      clear H
      go_wp2
      go_meet
      case rel => exact ⟨_, (true), (by first | rfl | (simp; done) | (simp [*]; done)), H', ⟨by have := HK1.out; first | omega | exact Nat.le_refl _⟩, ⟨by repeat (first | (with_reducible first | exact HI0.out | apply IsS24.alloc | apply IsS24.drewN | apply IsS24.drew | apply IsS24.set_0 | apply IsS24.set_1 | apply IsS24.set_2 | apply IsS24.set_3) | exact HI0.out)⟩, ⟨by repeat (first | (with_reducible first | exact HK.out | apply KeepBut.set_ | apply keep_drewN | apply keep_drew | apply keep_alloc) | exact HK.out)⟩, ⟨by repeat (first | (with_reducible first | exact HB.out | apply below_alloc | apply pw_below_drewN | apply below_drew1 | refine below_set ?_ (IsS24.ge HI0.out)) | exact HB.out)⟩⟩
    case rest =>
     clear HC57
     try clear c1
     try clear p1
     try clear q1
     try clear hx1
     try clear c2
     try clear p2
     try clear q2
     try clear hx2
     try clear c3
     try clear c3b0
     try clear c4
     try clear c4b0
     try clear c5
     try clear c5b0
     try clear p6
     try clear c8
     try clear c10
     try clear p11
     try clear q11
     try clear hx11
     try clear q12
     try clear c13
     try clear c13b0
     try clear c14
     try clear c14b0
     try clear c15
     try clear c15b0
     try clear p16
     try clear q16
     try clear hx16
     try clear c17
     try clear c17b0
     try clear p18
     try clear q18
     try clear hx18
     try clear c19
     try clear c19b0
     try clear c19b1
     try clear p20
     try clear q20
     try clear hx20
     try clear c21
     try clear c21b0
     try clear c21b1
     try clear p22
     try clear q22
     try clear hx22
     try clear c23
     try clear c23b0
     try clear c23b1
     try clear c25
     try clear c25b0
     try clear c25b1
     try clear c27
     try clear c27b0
     try clear c27b1
     try clear c29
     try clear c29b0
     try clear c29b1
     try clear c31
     try clear c32
     try clear c32b0
     try clear c34
     try clear c36
     try clear c36b0
     try clear c36b1
     try clear c39
     try clear c40
     try clear c45
     try clear c45b0
     try clear c45b1
     try clear c47
     try clear c47b0
     try clear c47b1
     try clear c48
     try clear c58
     try clear c58b0
     try clear c58b1
     try clear hcz50_0
     try clear hcz50_1
     try clear hcz50_2
     try clear hcz50_3
     try clear hcz53_0
     try clear hcz53_1
     try clear hcz53_2
     try clear hcz53_3
     try clear hcz55_0
     try clear hcz55_1
     try clear hcz55_2
     try clear hcz55_3
     try clear hfz50_0
     try clear hfz50_1
     try clear hfz50_2
     try clear hfz50_3
     try clear hfz53_0
     try clear hfz53_1
     try clear hfz53_2
     try clear hfz53_3
     try clear hfz55_0
     try clear hfz55_1
     try clear hfz55_2
     try clear hfz55_3
     try clear hx119_0
     try clear p1
     try clear p11
     try clear p119
     try clear p16
     try clear p18
     try clear p2
     try clear p20
     try clear p22
     try clear q1
     try clear q11
     try clear q119
     try clear q128
     try clear q16
     try clear q18
     try clear q20
     try clear q22
     obtain ⟨kq, x110_56, rfl, HA, HJ56, HI0, HK, HB⟩ := hcut
     cases kq with
     | zero => exact absurd HA.out (by simp [http_heads.j3])
     | succ kj56 =>
      have H := HA.out
      clear HA
      simp only [http_heads.j3] at H
      by_cases c59 : x110_56 = true
      ·subst c59
       have H1 : (some (0, 400, s0_0, s0_1, s0_2, x1003_1)) = some (r1, r2, r3, r4, r5, r6) := by rw [if_pos rfl] at H; exact H
       clear H
       have H := H1
       clear H1
       simp only [Option.some.injEq, Prod.mk.injEq] at H
       obtain ⟨rfl, rfl, rfl, rfl, rfl, rfl⟩ := H
       go_wp2
       go_ret2
       exact ⟨by first | rfl | (simp [errW_none, errW_some] <;> rfl) | (simp [*, errW_none, errW_some] <;> rfl), by repeat (first | (with_reducible first | exact HI0.out | apply IsS24.alloc | apply IsS24.drewN | apply IsS24.drew | apply IsS24.set_0 | apply IsS24.set_1 | apply IsS24.set_2 | apply IsS24.set_3) | exact HI0.out), by repeat (first | (with_reducible first | exact HB.out | apply below_alloc | apply pw_below_drewN | apply below_drew1 | refine below_set ?_ (IsS24.ge HI0.out)) | exact HB.out), by repeat (first | (with_reducible first | exact HK.out | apply KeepBut.set_ | apply keep_drewN | apply keep_drew | apply keep_alloc) | exact HK.out)⟩
      ·replace c59 := Bool.eq_false_iff.mpr c59
       subst c59
       have H1 : (if x6_1 > 8192 then (some (0, 413, s0_0, s0_1, s0_2, x1003_1)) else (some (x6_1, 0, s0_0, s0_1, s0_2, x1003_1))) = some (r1, r2, r3, r4, r5, r6) := by rw [if_neg (show ¬ (false = true) by decide)] at H; exact H
       clear H
       have H := H1
       clear H1
       by_cases c60 : x6_1 > 8192
       ·rw [if_pos c60] at H
        have c60b0 : decide (8192 < x6_1) = true := decide_eq_true c60
        clear c60
        simp only [Option.some.injEq, Prod.mk.injEq] at H
        obtain ⟨rfl, rfl, rfl, rfl, rfl, rfl⟩ := H
        go_wp2
        go_ret2
        exact ⟨by first | rfl | (simp [errW_none, errW_some] <;> rfl) | (simp [*, errW_none, errW_some] <;> rfl), by repeat (first | (with_reducible first | exact HI0.out | apply IsS24.alloc | apply IsS24.drewN | apply IsS24.drew | apply IsS24.set_0 | apply IsS24.set_1 | apply IsS24.set_2 | apply IsS24.set_3) | exact HI0.out), by repeat (first | (with_reducible first | exact HB.out | apply below_alloc | apply pw_below_drewN | apply below_drew1 | refine below_set ?_ (IsS24.ge HI0.out)) | exact HB.out), by repeat (first | (with_reducible first | exact HK.out | apply KeepBut.set_ | apply keep_drewN | apply keep_drew | apply keep_alloc) | exact HK.out)⟩
       ·rw [if_neg c60] at H
        have c60b0 : decide (8192 < x6_1) = false := decide_eq_false c60
        clear c60
        simp only [Option.some.injEq, Prod.mk.injEq] at H
        obtain ⟨rfl, rfl, rfl, rfl, rfl, rfl⟩ := H
        go_wp2
        go_ret2
        exact ⟨by first | rfl | (simp [errW_none, errW_some] <;> rfl) | (simp [*, errW_none, errW_some] <;> rfl), by repeat (first | (with_reducible first | exact HI0.out | apply IsS24.alloc | apply IsS24.drewN | apply IsS24.drew | apply IsS24.set_0 | apply IsS24.set_1 | apply IsS24.set_2 | apply IsS24.set_3) | exact HI0.out), by repeat (first | (with_reducible first | exact HB.out | apply below_alloc | apply pw_below_drewN | apply below_drew1 | refine below_set ?_ (IsS24.ge HI0.out)) | exact HB.out), by repeat (first | (with_reducible first | exact HK.out | apply KeepBut.set_ | apply keep_drewN | apply keep_drew | apply keep_alloc) | exact HK.out)⟩

end Go.Proofs.YtpigloohccpfiaaDoor.PHttpAnswers
