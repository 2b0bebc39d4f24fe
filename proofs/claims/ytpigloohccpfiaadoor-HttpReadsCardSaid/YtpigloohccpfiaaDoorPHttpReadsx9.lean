-- WRITTEN BY A PROGRAM OF THIS SESSION (wip/patch_print.py: the kit's printer with rules of this session's own); Lean checks it.
import Derived.Test.YtpigloohccpfiaaDoorPHttpReadsx0
import Derived.Test.YtpigloohccpfiaaDoorPHttpReadsx5
import Derived.Test.YtpigloohccpfiaaDoorPHttpReadsx6
import Derived.Test.YtpigloohccpfiaaDoorPHttpReadsx7
import Derived.Test.YtpigloohccpfiaaDoorPHttpReadsx8
namespace Go.Proofs.YtpigloohccpfiaaDoor.PHttpReads
open Go.RowKit Go.Proofs.YtpigloohccpfiaaDoorW.PrintWords Go.Proofs.YtpigloohccpfiaaDoorW.PrintLast Go.Proofs.YtpigloohccpfiaaDoorW.PrintMore
open Go.Proofs.YtpigloohccpfiaaDoor.G
attribute [local go_sem] max2_int min2_int max_two min_two max_three min_three max_four min_four   -- for this text's walks alone
set_option linter.unusedVariables false
set_option linter.unusedSimpArgs false

/-! ### fascineref12_Read: function 11 -/
mutual
def fascineref12_Read.l0 : Nat → ByteArray → List ByteArray → Int → Option (ByteArray × ByteArray × ByteArray × Bool × Int × Int)
 | 0, _, _, _ => none
 | k + 1, x0, x5, x6 => if (x5.length : Int) > 32 then (some ((⟨#[]⟩ : ByteArray), (⟨#[]⟩ : ByteArray), (⟨#[]⟩ : ByteArray), false, 0, 431)) else (if 0 ≤ x6 then (if x6 ≤ (x0.size : Int) then ((fascineref12_find.f k (x0.extract (x6 : Int).toNat x0.size) 10).bind fun t170 => (if t170 < 0 then (if (x0.size : Int) > 2048 then (some ((⟨#[]⟩ : ByteArray), (⟨#[]⟩ : ByteArray), (⟨#[]⟩ : ByteArray), false, 0, 431)) else (some ((⟨#[]⟩ : ByteArray), (⟨#[]⟩ : ByteArray), (⟨#[]⟩ : ByteArray), false, 0, 0))) else (if (wrap64 ((wrap64 (x6 + t170)) + 1)) > 2048 then (some ((⟨#[]⟩ : ByteArray), (⟨#[]⟩ : ByteArray), (⟨#[]⟩ : ByteArray), false, 0, 431)) else (if t170 = 0 then (fascineref12_Read.j1 k x0 x5 x6 t170 true) else (if 0 ≤ (wrap64 ((wrap64 (x6 + t170)) - 1)) then (if (wrap64 ((wrap64 (x6 + t170)) - 1)) < (x0.size : Int) then (fascineref12_Read.j1 k x0 x5 x6 t170 ((bt x0 (wrap64 ((wrap64 (x6 + t170)) - 1))) != 13)) else (none)) else (none)))))) else (none)) else (none))
def fascineref12_Read.j1 : Nat → ByteArray → List ByteArray → Int → Int → Bool → Option (ByteArray × ByteArray × ByteArray × Bool × Int × Int)
 | 0, _, _, _, _, _ => none
 | k + 1, x0, x5, x6, x7, x49 => if x49 = true then (some ((⟨#[]⟩ : ByteArray), (⟨#[]⟩ : ByteArray), (⟨#[]⟩ : ByteArray), false, 0, 400)) else (if 0 ≤ x6 then (if x6 ≤ (wrap64 ((wrap64 (x6 + x7)) - 1)) then (if (wrap64 ((wrap64 (x6 + x7)) - 1)) ≤ (x0.size : Int) then (if (x0.extract (x6 : Int).toNat ((wrap64 ((wrap64 (x6 + x7)) - 1)) : Int).toNat).toList = ([] : List UInt8) then (if (x5.length : Int) > 0 then (if 0 < (x5.length : Int) then ((fascineref12_first.f k (rdOf ByteArray.empty x5 0)).bind fun bt178 => (if bt178.2.2.2.2 = true then (fascineref12_Read.l1 k x0 x5 (wrap64 (x6 + (wrap64 (x7 + 1)))) 0 0 0 1 bt178.1 bt178.2.1 bt178.2.2.1 bt178.2.2.2.1) else (some ((⟨#[]⟩ : ByteArray), (⟨#[]⟩ : ByteArray), (⟨#[]⟩ : ByteArray), false, 0, 400)))) else (none)) else (if x5.length < 8796093022208 then (fascineref12_Read.l0 k x0 (x5 ++ [x0.extract (x6 : Int).toNat ((wrap64 ((wrap64 (x6 + x7)) - 1)) : Int).toNat]) (wrap64 (x6 + (wrap64 (x7 + 1))))) else (none))) else (if x5.length < 8796093022208 then (fascineref12_Read.l0 k x0 (x5 ++ [x0.extract (x6 : Int).toNat ((wrap64 ((wrap64 (x6 + x7)) - 1)) : Int).toNat]) (wrap64 (x6 + (wrap64 (x7 + 1))))) else (none))) else (none)) else (none)) else (none))
def fascineref12_Read.l1 : Nat → ByteArray → List ByteArray → Int → Int → Int → Int → Int → ByteArray → ByteArray → ByteArray → Bool → Option (ByteArray × ByteArray × ByteArray × Bool × Int × Int)
 | 0, _, _, _, _, _, _, _, _, _, _, _ => none
 | k + 1, x0, x5, x6, x11, x12, x13, x14, x184000, x184001, x184002, x184003 => if x14 < (x5.length : Int) then (if 0 ≤ x14 then ((fascineref12_find.f k (rdOf ByteArray.empty x5 x14) 58).bind fun t185 => (if t185 < 0 then (fascineref12_Read.j3 k x0 x5 x6 x11 x12 x13 x14 t185 true x184000 x184001 x184002 x184003) else (if 0 ≤ t185 then (if t185 ≤ ((rdOf ByteArray.empty x5 x14).size : Int) then ((fascineref12_name.f k ((rdOf ByteArray.empty x5 x14).extract 0 (t185 : Int).toNat)).bind fun t187 => (fascineref12_Read.j3 k x0 x5 x6 x11 x12 x13 x14 t185 (!t187) x184000 x184001 x184002 x184003)) else (none)) else (none)))) else (none)) else (if x12 = 1 then (fascineref12_Read.j5 k x0 x6 x11 (decide (x13 > 1)) x184000 x184001 x184002 x184003) else (fascineref12_Read.j5 k x0 x6 x11 true x184000 x184001 x184002 x184003))
def fascineref12_Read.j3 : Nat → ByteArray → List ByteArray → Int → Int → Int → Int → Int → Int → Bool → ByteArray → ByteArray → ByteArray → Bool → Option (ByteArray × ByteArray × ByteArray × Bool × Int × Int)
 | 0, _, _, _, _, _, _, _, _, _, _, _, _, _ => none
 | k + 1, x0, x5, x6, x11, x12, x13, x14, x15, x105, x184000, x184001, x184002, x184003 => if x105 = true then (some ((⟨#[]⟩ : ByteArray), (⟨#[]⟩ : ByteArray), (⟨#[]⟩ : ByteArray), false, 0, 400)) else (if 0 ≤ x14 then (if x14 < (x5.length : Int) then (if 0 ≤ (wrap64 (x15 + 1)) then (if (wrap64 (x15 + 1)) ≤ ((rdOf ByteArray.empty x5 x14).size : Int) then ((fascineref12_trim.f k ((rdOf ByteArray.empty x5 x14).extract ((wrap64 (x15 + 1)) : Int).toNat (rdOf ByteArray.empty x5 x14).size)).bind fun t189 => (fascineref12_Read.l2 k x0 x5 x6 x11 x12 x13 x14 x15 t189 0 x184000 x184001 x184002 x184003)) else (none)) else (none)) else (none)) else (none))
def fascineref12_Read.l2 : Nat → ByteArray → List ByteArray → Int → Int → Int → Int → Int → Int → ByteArray → Int → ByteArray → ByteArray → ByteArray → Bool → Option (ByteArray × ByteArray × ByteArray × Bool × Int × Int)
 | 0, _, _, _, _, _, _, _, _, _, _, _, _, _, _ => none
 | k + 1, x0, x5, x6, x11, x12, x13, x14, x15, x16, x17, x184000, x184001, x184002, x184003 => if x17 < (x16.size : Int) then (if 0 ≤ x17 then (if (bt x16 x17) < 32 then (if (bt x16 x17) = 9 then (if (bt x16 x17) = 127 then (some ((⟨#[]⟩ : ByteArray), (⟨#[]⟩ : ByteArray), (⟨#[]⟩ : ByteArray), false, 0, 400)) else (fascineref12_Read.l2 k x0 x5 x6 x11 x12 x13 x14 x15 x16 (wrap64 (x17 + 1)) x184000 x184001 x184002 x184003)) else (some ((⟨#[]⟩ : ByteArray), (⟨#[]⟩ : ByteArray), (⟨#[]⟩ : ByteArray), false, 0, 400))) else (if (bt x16 x17) = 127 then (some ((⟨#[]⟩ : ByteArray), (⟨#[]⟩ : ByteArray), (⟨#[]⟩ : ByteArray), false, 0, 400)) else (fascineref12_Read.l2 k x0 x5 x6 x11 x12 x13 x14 x15 x16 (wrap64 (x17 + 1)) x184000 x184001 x184002 x184003))) else (none)) else (if 0 ≤ x14 then (if x14 < (x5.length : Int) then (if 0 ≤ x15 then (if x15 ≤ ((rdOf ByteArray.empty x5 x14).size : Int) then ((fascineref12_low.f ((rdOf ByteArray.empty x5 x14).extract 0 (x15 : Int).toNat)).bind fun t191 => (if t191.toList = ([104, 111, 115, 116] : List UInt8) then (fascineref12_Read.l1 k x0 x5 x6 x11 (wrap64 (x12 + 1)) x13 (wrap64 (x14 + 1)) x184000 x184001 x184002 x184003) else (if t191.toList = ([99, 111, 110, 116, 101, 110, 116, 45, 108, 101, 110, 103, 116, 104] : List UInt8) then ((fascineref12_length.f k x16).bind fun t192 => (if t192 < 0 then (some ((⟨#[]⟩ : ByteArray), (⟨#[]⟩ : ByteArray), (⟨#[]⟩ : ByteArray), false, 0, 400)) else (fascineref12_Read.l1 k x0 x5 x6 t192 x12 (wrap64 (x13 + 1)) (wrap64 (x14 + 1)) x184000 x184001 x184002 x184003))) else (if t191.toList = ([116, 114, 97, 110, 115, 102, 101, 114, 45, 101, 110, 99, 111, 100, 105, 110, 103] : List UInt8) then (some ((⟨#[]⟩ : ByteArray), (⟨#[]⟩ : ByteArray), (⟨#[]⟩ : ByteArray), false, 0, 400)) else (if t191.toList = ([99, 111, 110, 110, 101, 99, 116, 105, 111, 110] : List UInt8) then ((fascineref12_low.f x16).bind fun t193 => (if t193.toList = ([99, 108, 111, 115, 101] : List UInt8) then (fascineref12_Read.l1 k x0 x5 x6 x11 x12 x13 (wrap64 (x14 + 1)) x184000 x184001 x184002 true) else (fascineref12_Read.l1 k x0 x5 x6 x11 x12 x13 (wrap64 (x14 + 1)) x184000 x184001 x184002 x184003))) else (fascineref12_Read.l1 k x0 x5 x6 x11 x12 x13 (wrap64 (x14 + 1)) x184000 x184001 x184002 x184003)))))) else (none)) else (none)) else (none)) else (none))
def fascineref12_Read.j5 : Nat → ByteArray → Int → Int → Bool → ByteArray → ByteArray → ByteArray → Bool → Option (ByteArray × ByteArray × ByteArray × Bool × Int × Int)
 | 0, _, _, _, _, _, _, _, _ => none
 | k + 1, x0, x6, x11, x172, x184000, x184001, x184002, x184003 => if x172 = true then (some ((⟨#[]⟩ : ByteArray), (⟨#[]⟩ : ByteArray), (⟨#[]⟩ : ByteArray), false, 0, 400)) else (if x11 > 8192 then (some ((⟨#[]⟩ : ByteArray), (⟨#[]⟩ : ByteArray), (⟨#[]⟩ : ByteArray), false, 0, 413)) else (if (wrap64 ((x0.size : Int) - x6)) < x11 then (some ((⟨#[]⟩ : ByteArray), (⟨#[]⟩ : ByteArray), (⟨#[]⟩ : ByteArray), false, 0, 0)) else (if 0 ≤ x6 then (if x6 ≤ (wrap64 (x6 + x11)) then (if (wrap64 (x6 + x11)) ≤ (x0.size : Int) then (some (x184000, x184001, x0.extract (x6 : Int).toNat ((wrap64 (x6 + x11)) : Int).toNat, x184003, wrap64 (x6 + x11), 0)) else (none)) else (none)) else (none))))
end
def fascineref12_Read.f (k : Nat) (a0 : ByteArray) : Option (ByteArray × ByteArray × ByteArray × Bool × Int × Int) := fascineref12_Read.l0 k a0 ([] : List ByteArray) 0
theorem fascineref12_Read.mono_l : ∀ k, (∀ y0 y1 y2, LeO (fascineref12_Read.l0 k y0 y1 y2) (fascineref12_Read.l0 (k + 1) y0 y1 y2)) ∧ (∀ y0 y1 y2 y3 y4, LeO (fascineref12_Read.j1 k y0 y1 y2 y3 y4) (fascineref12_Read.j1 (k + 1) y0 y1 y2 y3 y4)) ∧ (∀ y0 y1 y2 y3 y4 y5 y6 y7 y8 y9 y10, LeO (fascineref12_Read.l1 k y0 y1 y2 y3 y4 y5 y6 y7 y8 y9 y10) (fascineref12_Read.l1 (k + 1) y0 y1 y2 y3 y4 y5 y6 y7 y8 y9 y10)) ∧ (∀ y0 y1 y2 y3 y4 y5 y6 y7 y8 y9 y10 y11 y12, LeO (fascineref12_Read.j3 k y0 y1 y2 y3 y4 y5 y6 y7 y8 y9 y10 y11 y12) (fascineref12_Read.j3 (k + 1) y0 y1 y2 y3 y4 y5 y6 y7 y8 y9 y10 y11 y12)) ∧ (∀ y0 y1 y2 y3 y4 y5 y6 y7 y8 y9 y10 y11 y12 y13, LeO (fascineref12_Read.l2 k y0 y1 y2 y3 y4 y5 y6 y7 y8 y9 y10 y11 y12 y13) (fascineref12_Read.l2 (k + 1) y0 y1 y2 y3 y4 y5 y6 y7 y8 y9 y10 y11 y12 y13)) ∧ (∀ y0 y1 y2 y3 y4 y5 y6 y7, LeO (fascineref12_Read.j5 k y0 y1 y2 y3 y4 y5 y6 y7) (fascineref12_Read.j5 (k + 1) y0 y1 y2 y3 y4 y5 y6 y7))
 | 0 => ⟨fun _ _ _ r h => by simp [fascineref12_Read.l0] at h, fun _ _ _ _ _ r h => by simp [fascineref12_Read.j1] at h, fun _ _ _ _ _ _ _ _ _ _ _ r h => by simp [fascineref12_Read.l1] at h, fun _ _ _ _ _ _ _ _ _ _ _ _ _ r h => by simp [fascineref12_Read.j3] at h, fun _ _ _ _ _ _ _ _ _ _ _ _ _ _ r h => by simp [fascineref12_Read.l2] at h, fun _ _ _ _ _ _ _ _ r h => by simp [fascineref12_Read.j5] at h⟩
 | k + 1 => by
  obtain ⟨ih0, ih1, ih2, ih3, ih4, ih5⟩ := fascineref12_Read.mono_l k
  refine ⟨?_, ?_, ?_, ?_, ?_, ?_⟩
  ·intro y0 y1 y2
   unfold fascineref12_Read.l0
   repeat' first
   | (with_reducible exact ih0 _ _ _)
   | (with_reducible exact ih1 _ _ _ _ _)
   | (with_reducible exact ih2 _ _ _ _ _ _ _ _ _ _ _)
   | (with_reducible exact ih3 _ _ _ _ _ _ _ _ _ _ _ _ _)
   | (with_reducible exact ih4 _ _ _ _ _ _ _ _ _ _ _ _ _ _)
   | (with_reducible exact ih5 _ _ _ _ _ _ _ _)
   | (with_reducible exact fascineref12_find.mono _ _ _)
   | (with_reducible exact fascineref12_first.mono _ _)
   | (with_reducible exact fascineref12_length.mono _ _)
   | (with_reducible exact fascineref12_name.mono _ _)
   | (with_reducible exact fascineref12_trim.mono _ _)
   | (with_reducible exact LeO.refl _)
   | (with_reducible exact LeO.none _)
   | (with_reducible refine LeO.ite ?_ ?_)
   | (with_reducible refine LeO.bind ?_ (fun _ => ?_))
   | exact ih0 _ _ _
   | exact ih1 _ _ _ _ _
   | exact ih2 _ _ _ _ _ _ _ _ _ _ _
   | exact ih3 _ _ _ _ _ _ _ _ _ _ _ _ _
   | exact ih4 _ _ _ _ _ _ _ _ _ _ _ _ _ _
   | exact ih5 _ _ _ _ _ _ _ _
   | exact fascineref12_find.mono _ _ _
   | exact fascineref12_first.mono _ _
   | exact fascineref12_length.mono _ _
   | exact fascineref12_name.mono _ _
   | exact fascineref12_trim.mono _ _
   | exact LeO.none _
   | refine LeO.ite ?_ ?_
   | refine LeO.bind ?_ (fun _ => ?_)
  ·intro y0 y1 y2 y3 y4
   unfold fascineref12_Read.j1
   repeat' first
   | (with_reducible exact ih0 _ _ _)
   | (with_reducible exact ih1 _ _ _ _ _)
   | (with_reducible exact ih2 _ _ _ _ _ _ _ _ _ _ _)
   | (with_reducible exact ih3 _ _ _ _ _ _ _ _ _ _ _ _ _)
   | (with_reducible exact ih4 _ _ _ _ _ _ _ _ _ _ _ _ _ _)
   | (with_reducible exact ih5 _ _ _ _ _ _ _ _)
   | (with_reducible exact fascineref12_find.mono _ _ _)
   | (with_reducible exact fascineref12_first.mono _ _)
   | (with_reducible exact fascineref12_length.mono _ _)
   | (with_reducible exact fascineref12_name.mono _ _)
   | (with_reducible exact fascineref12_trim.mono _ _)
   | (with_reducible exact LeO.refl _)
   | (with_reducible exact LeO.none _)
   | (with_reducible refine LeO.ite ?_ ?_)
   | (with_reducible refine LeO.bind ?_ (fun _ => ?_))
   | exact ih0 _ _ _
   | exact ih1 _ _ _ _ _
   | exact ih2 _ _ _ _ _ _ _ _ _ _ _
   | exact ih3 _ _ _ _ _ _ _ _ _ _ _ _ _
   | exact ih4 _ _ _ _ _ _ _ _ _ _ _ _ _ _
   | exact ih5 _ _ _ _ _ _ _ _
   | exact fascineref12_find.mono _ _ _
   | exact fascineref12_first.mono _ _
   | exact fascineref12_length.mono _ _
   | exact fascineref12_name.mono _ _
   | exact fascineref12_trim.mono _ _
   | exact LeO.none _
   | refine LeO.ite ?_ ?_
   | refine LeO.bind ?_ (fun _ => ?_)
  ·intro y0 y1 y2 y3 y4 y5 y6 y7 y8 y9 y10
   unfold fascineref12_Read.l1
   repeat' first
   | (with_reducible exact ih0 _ _ _)
   | (with_reducible exact ih1 _ _ _ _ _)
   | (with_reducible exact ih2 _ _ _ _ _ _ _ _ _ _ _)
   | (with_reducible exact ih3 _ _ _ _ _ _ _ _ _ _ _ _ _)
   | (with_reducible exact ih4 _ _ _ _ _ _ _ _ _ _ _ _ _ _)
   | (with_reducible exact ih5 _ _ _ _ _ _ _ _)
   | (with_reducible exact fascineref12_find.mono _ _ _)
   | (with_reducible exact fascineref12_first.mono _ _)
   | (with_reducible exact fascineref12_length.mono _ _)
   | (with_reducible exact fascineref12_name.mono _ _)
   | (with_reducible exact fascineref12_trim.mono _ _)
   | (with_reducible exact LeO.refl _)
   | (with_reducible exact LeO.none _)
   | (with_reducible refine LeO.ite ?_ ?_)
   | (with_reducible refine LeO.bind ?_ (fun _ => ?_))
   | exact ih0 _ _ _
   | exact ih1 _ _ _ _ _
   | exact ih2 _ _ _ _ _ _ _ _ _ _ _
   | exact ih3 _ _ _ _ _ _ _ _ _ _ _ _ _
   | exact ih4 _ _ _ _ _ _ _ _ _ _ _ _ _ _
   | exact ih5 _ _ _ _ _ _ _ _
   | exact fascineref12_find.mono _ _ _
   | exact fascineref12_first.mono _ _
   | exact fascineref12_length.mono _ _
   | exact fascineref12_name.mono _ _
   | exact fascineref12_trim.mono _ _
   | exact LeO.none _
   | refine LeO.ite ?_ ?_
   | refine LeO.bind ?_ (fun _ => ?_)
  ·intro y0 y1 y2 y3 y4 y5 y6 y7 y8 y9 y10 y11 y12
   unfold fascineref12_Read.j3
   repeat' first
   | (with_reducible exact ih0 _ _ _)
   | (with_reducible exact ih1 _ _ _ _ _)
   | (with_reducible exact ih2 _ _ _ _ _ _ _ _ _ _ _)
   | (with_reducible exact ih3 _ _ _ _ _ _ _ _ _ _ _ _ _)
   | (with_reducible exact ih4 _ _ _ _ _ _ _ _ _ _ _ _ _ _)
   | (with_reducible exact ih5 _ _ _ _ _ _ _ _)
   | (with_reducible exact fascineref12_find.mono _ _ _)
   | (with_reducible exact fascineref12_first.mono _ _)
   | (with_reducible exact fascineref12_length.mono _ _)
   | (with_reducible exact fascineref12_name.mono _ _)
   | (with_reducible exact fascineref12_trim.mono _ _)
   | (with_reducible exact LeO.refl _)
   | (with_reducible exact LeO.none _)
   | (with_reducible refine LeO.ite ?_ ?_)
   | (with_reducible refine LeO.bind ?_ (fun _ => ?_))
   | exact ih0 _ _ _
   | exact ih1 _ _ _ _ _
   | exact ih2 _ _ _ _ _ _ _ _ _ _ _
   | exact ih3 _ _ _ _ _ _ _ _ _ _ _ _ _
   | exact ih4 _ _ _ _ _ _ _ _ _ _ _ _ _ _
   | exact ih5 _ _ _ _ _ _ _ _
   | exact fascineref12_find.mono _ _ _
   | exact fascineref12_first.mono _ _
   | exact fascineref12_length.mono _ _
   | exact fascineref12_name.mono _ _
   | exact fascineref12_trim.mono _ _
   | exact LeO.none _
   | refine LeO.ite ?_ ?_
   | refine LeO.bind ?_ (fun _ => ?_)
  ·intro y0 y1 y2 y3 y4 y5 y6 y7 y8 y9 y10 y11 y12 y13
   unfold fascineref12_Read.l2
   repeat' first
   | (with_reducible exact ih0 _ _ _)
   | (with_reducible exact ih1 _ _ _ _ _)
   | (with_reducible exact ih2 _ _ _ _ _ _ _ _ _ _ _)
   | (with_reducible exact ih3 _ _ _ _ _ _ _ _ _ _ _ _ _)
   | (with_reducible exact ih4 _ _ _ _ _ _ _ _ _ _ _ _ _ _)
   | (with_reducible exact ih5 _ _ _ _ _ _ _ _)
   | (with_reducible exact fascineref12_find.mono _ _ _)
   | (with_reducible exact fascineref12_first.mono _ _)
   | (with_reducible exact fascineref12_length.mono _ _)
   | (with_reducible exact fascineref12_name.mono _ _)
   | (with_reducible exact fascineref12_trim.mono _ _)
   | (with_reducible exact LeO.refl _)
   | (with_reducible exact LeO.none _)
   | (with_reducible refine LeO.ite ?_ ?_)
   | (with_reducible refine LeO.bind ?_ (fun _ => ?_))
   | exact ih0 _ _ _
   | exact ih1 _ _ _ _ _
   | exact ih2 _ _ _ _ _ _ _ _ _ _ _
   | exact ih3 _ _ _ _ _ _ _ _ _ _ _ _ _
   | exact ih4 _ _ _ _ _ _ _ _ _ _ _ _ _ _
   | exact ih5 _ _ _ _ _ _ _ _
   | exact fascineref12_find.mono _ _ _
   | exact fascineref12_first.mono _ _
   | exact fascineref12_length.mono _ _
   | exact fascineref12_name.mono _ _
   | exact fascineref12_trim.mono _ _
   | exact LeO.none _
   | refine LeO.ite ?_ ?_
   | refine LeO.bind ?_ (fun _ => ?_)
  ·intro y0 y1 y2 y3 y4 y5 y6 y7
   unfold fascineref12_Read.j5
   repeat' first
   | (with_reducible exact ih0 _ _ _)
   | (with_reducible exact ih1 _ _ _ _ _)
   | (with_reducible exact ih2 _ _ _ _ _ _ _ _ _ _ _)
   | (with_reducible exact ih3 _ _ _ _ _ _ _ _ _ _ _ _ _)
   | (with_reducible exact ih4 _ _ _ _ _ _ _ _ _ _ _ _ _ _)
   | (with_reducible exact ih5 _ _ _ _ _ _ _ _)
   | (with_reducible exact fascineref12_find.mono _ _ _)
   | (with_reducible exact fascineref12_first.mono _ _)
   | (with_reducible exact fascineref12_length.mono _ _)
   | (with_reducible exact fascineref12_name.mono _ _)
   | (with_reducible exact fascineref12_trim.mono _ _)
   | (with_reducible exact LeO.refl _)
   | (with_reducible exact LeO.none _)
   | (with_reducible refine LeO.ite ?_ ?_)
   | (with_reducible refine LeO.bind ?_ (fun _ => ?_))
   | exact ih0 _ _ _
   | exact ih1 _ _ _ _ _
   | exact ih2 _ _ _ _ _ _ _ _ _ _ _
   | exact ih3 _ _ _ _ _ _ _ _ _ _ _ _ _
   | exact ih4 _ _ _ _ _ _ _ _ _ _ _ _ _ _
   | exact ih5 _ _ _ _ _ _ _ _
   | exact fascineref12_find.mono _ _ _
   | exact fascineref12_first.mono _ _
   | exact fascineref12_length.mono _ _
   | exact fascineref12_name.mono _ _
   | exact fascineref12_trim.mono _ _
   | exact LeO.none _
   | refine LeO.ite ?_ ?_
   | refine LeO.bind ?_ (fun _ => ?_)
theorem fascineref12_Read.mono : ∀ a0 k, LeO (fascineref12_Read.f k a0) (fascineref12_Read.f (k + 1) a0) := by
 intro a0 k
 obtain ⟨ih0, ih1, ih2, ih3, ih4, ih5⟩ := fascineref12_Read.mono_l k
 unfold fascineref12_Read.f
 repeat' first
   | (with_reducible exact ih0 _ _ _)
   | (with_reducible exact ih1 _ _ _ _ _)
   | (with_reducible exact ih2 _ _ _ _ _ _ _ _ _ _ _)
   | (with_reducible exact ih3 _ _ _ _ _ _ _ _ _ _ _ _ _)
   | (with_reducible exact ih4 _ _ _ _ _ _ _ _ _ _ _ _ _ _)
   | (with_reducible exact ih5 _ _ _ _ _ _ _ _)
   | (with_reducible exact fascineref12_find.mono _ _ _)
   | (with_reducible exact fascineref12_first.mono _ _)
   | (with_reducible exact fascineref12_length.mono _ _)
   | (with_reducible exact fascineref12_name.mono _ _)
   | (with_reducible exact fascineref12_trim.mono _ _)
   | (with_reducible exact LeO.refl _)
   | (with_reducible exact LeO.none _)
   | (with_reducible refine LeO.ite ?_ ?_)
   | (with_reducible refine LeO.bind ?_ (fun _ => ?_))
   | exact ih0 _ _ _
   | exact ih1 _ _ _ _ _
   | exact ih2 _ _ _ _ _ _ _ _ _ _ _
   | exact ih3 _ _ _ _ _ _ _ _ _ _ _ _ _
   | exact ih4 _ _ _ _ _ _ _ _ _ _ _ _ _ _
   | exact ih5 _ _ _ _ _ _ _ _
   | exact fascineref12_find.mono _ _ _
   | exact fascineref12_first.mono _ _
   | exact fascineref12_length.mono _ _
   | exact fascineref12_name.mono _ _
   | exact fascineref12_trim.mono _ _
   | exact LeO.none _
   | refine LeO.ite ?_ ?_
   | refine LeO.bind ?_ (fun _ => ?_)
set_option maxHeartbeats 8000000 in
set_option maxRecDepth 100000 in
theorem fascineref12_Read.calls (k : Nat) (a0 : ByteArray) (r1 : ByteArray) (r2 : ByteArray) (r3 : ByteArray) (r4 : Bool) (r5 : Int) (r6 : Int) (w : World) (h : fascineref12_Read.f k a0 = some (r1, r2, r3, r4, r5, r6)) :
  Calls Tryd.prog 11 #[.string a0] w fun e w' => e = .returned (.tuple #[.agg #[.string r1, .string r2, .string r3, .bool r4], .int .i64 r5, .int .i64 r6]) ∧ Below w.heap.size w w' := by
 have hu24 := Tryd.underlying24
 have HB := Aside0.mk (Below.refl w.heap.size w)
 have H : (fascineref12_Read.l0 k a0 ([] : List ByteArray) 0) = some (r1, r2, r3, r4, r5, r6) := h
 clear h
 have H' := Aside0.mk H
 clear H
 go_enter Tryd.func11, Tryd.ntmps11
 go_wp2_with (first | ((with_reducible refine gate_dst (N := 2) rfl ?_); (try (refine gate_guard (by rfl) ?_; dsimp only)); refine box_event ?hg (N := 2) ?hd (cs := #[.string (⟨#[]⟩ : ByteArray), .string (⟨#[]⟩ : ByteArray), .string (⟨#[]⟩ : ByteArray), .bool false]) (t := 24) ?hr ?_; (case hd => rfl); (case hg => rfl); (case hr => first | (go_simp; done) | (go_simp; rfl)); intro gb169 hg w2 hbox hb; have n0_ := Aside0.mk (below_step (by repeat (first | (with_reducible first | exact HB.out | apply below_alloc | apply pw_below_drewN | apply below_drew1) | exact HB.out)) hb); have n1_ := Aside0.mk (hbox); have n2_ := Aside0.mk ((by rw [hg]; exact (below_size (by repeat (first | (with_reducible first | exact HB.out | apply below_alloc | apply pw_below_drewN | apply below_drew1) | exact HB.out))) : w.heap.size ≤ gb169)); have n3_ := Aside0.mk ((by rw [hg]; exact (below_size (by repeat (first | (with_reducible first | exact HB.out | apply below_alloc | apply pw_below_drewN | apply below_drew1) | exact HB.out))) : w.heap.size ≤ gb169)); clear HB; have HB := n0_; have BK169 := n1_; have GW169 := n2_; have GE169 := n3_; clear n0_ n1_ n2_ n3_; clear hb hbox hg))
 go_loopg [5, 6] k (fun kq v5 v6 w' => ∃ (x5_1 : List ByteArray) (x6_1 : Int) (x170000_1 : ByteArray) (x170001_1 : ByteArray) (x170002_1 : ByteArray) (x170003_1 : Bool), v6 = .int .i64 x6_1 ∧ Aside0 (fascineref12_Read.l0 kq a0 x5_1 x6_1 = some (r1, r2, r3, r4, r5, r6)) ∧ Aside0 (kq ≤ k) ∧ Aside0 (Kd.R Kd.string 9 w' w.heap.size (fun _ => True) v5 x5_1) ∧ Aside0 (w'.heap[gb169]? = some (.cells #[.string x170000_1, .string x170001_1, .string x170002_1, .bool x170003_1] 24 (0, 0))) ∧ Aside0 (Below w.heap.size w w'))
 case atStart => exact ⟨(([] : List ByteArray)), (0), ((⟨#[]⟩ : ByteArray)), ((⟨#[]⟩ : ByteArray)), ((⟨#[]⟩ : ByteArray)), (false), (by first | rfl | (simp; done) | (simp [*]; done)), H', ⟨Nat.le_refl _⟩, ⟨by first | exact Kd.R_nil _ _ _ _ _ | exact Kd.N_nil _ _ _ _ _ | exact Kd.V_nil _ _ _ _ _ | exact Kd.Q_nil _ _ _ _ _ | exact Kd.S_nil _ _ _ _ _⟩, ⟨by (with_reducible repeat (first | refine blk_drewN ?_ _ | refine blk_drew ?_ | refine blk_alloc ?_ _)); exact BK169.out⟩, ⟨by repeat (first | (with_reducible first | exact HB.out | apply below_alloc | apply pw_below_drewN | apply below_drew1 | refine below_set ?_ GE169.out) | exact HB.out)⟩⟩
 case round =>
  clear H'
  try clear c1
  try clear p2
  obtain ⟨x5_1, x6_1, x170000_1, x170001_1, x170002_1, x170003_1, rfl, HA, HK1, HO_5, BK169, HB⟩ := hrel
  cases gk with
  | zero => exact absurd HA.out (by simp [fascineref12_Read.l0])
  | succ k1 =>
   have H := HA.out
   clear HA
   simp only [fascineref12_Read.l0] at H
   by_cases c3 : (x5_1.length : Int) > 32
   ·rw [if_pos c3] at H
    have c3b0 : decide (32 < (x5_1.length : Int)) = true := decide_eq_true c3
    have c3b1 : decide (32 < x5_1.length) = true := decide_eq_true (by omega)
    clear c3
    simp only [Option.some.injEq, Prod.mk.injEq] at H
    obtain ⟨rfl, rfl, rfl, rfl, rfl, rfl⟩ := H
    obtain ⟨Ao4, co4, eo4⟩ := Kd.R_slice HO_5.out
    subst eo4
    have hcz5_0 : wr.cell? ⟨gb169, 0, none⟩ = some (.string x170000_1) := (blk_cell BK169.out 0).trans rfl
    have hcz5_1 : wr.cell? ⟨gb169, 1, none⟩ = some (.string x170001_1) := (blk_cell BK169.out 1).trans rfl
    have hcz5_2 : wr.cell? ⟨gb169, 2, none⟩ = some (.string x170002_1) := (blk_cell BK169.out 2).trans rfl
    have hcz5_3 : wr.cell? ⟨gb169, 3, none⟩ = some (.bool x170003_1) := (blk_cell BK169.out 3).trans rfl
    have hfz5_0 := blk_frozen BK169.out 0
    have hfz5_1 := blk_frozen BK169.out 1
    have hfz5_2 := blk_frozen BK169.out 2
    have hfz5_3 := blk_frozen BK169.out 3
    go_wp2
    refine bodyPost_ret (results_ctt rfl _ _ gb169 24 #[.string (⟨#[]⟩ : ByteArray), .string (⟨#[]⟩ : ByteArray), .string (⟨#[]⟩ : ByteArray), .bool false] (0, 0) _ rfl (by (with_reducible repeat (first | refine blk_drewN ?_ _ | refine blk_drew ?_ | refine blk_alloc ?_ _)); refine blk_put (cs := #[.string (⟨#[]⟩ : ByteArray), .string (⟨#[]⟩ : ByteArray), .string (⟨#[]⟩ : ByteArray), .bool x170003_1]) ?_ 3 _ rfl; (with_reducible repeat (first | refine blk_drewN ?_ _ | refine blk_drew ?_ | refine blk_alloc ?_ _)); refine blk_put (cs := #[.string (⟨#[]⟩ : ByteArray), .string (⟨#[]⟩ : ByteArray), .string x170002_1, .bool x170003_1]) ?_ 2 _ rfl; (with_reducible repeat (first | refine blk_drewN ?_ _ | refine blk_drew ?_ | refine blk_alloc ?_ _)); refine blk_put (cs := #[.string (⟨#[]⟩ : ByteArray), .string x170001_1, .string x170002_1, .bool x170003_1]) ?_ 1 _ rfl; (with_reducible repeat (first | refine blk_drewN ?_ _ | refine blk_drew ?_ | refine blk_alloc ?_ _)); refine blk_put (cs := #[.string x170000_1, .string x170001_1, .string x170002_1, .bool x170003_1]) ?_ 0 _ rfl; (with_reducible repeat (first | refine blk_drewN ?_ _ | refine blk_drew ?_ | refine blk_alloc ?_ _)); exact BK169.out) Tryd.underlying24 rfl (by kernel_rfl)) rfl ?_
    exact ⟨by first | rfl | (simp [errW_none, errW_some] <;> rfl) | (simp [*, errW_none, errW_some] <;> rfl), by repeat (first | (with_reducible first | exact HB.out | apply below_alloc | apply pw_below_drewN | apply below_drew1 | refine below_set ?_ GE169.out) | exact HB.out)⟩
   ·rw [if_neg c3] at H
    have c3b0 : decide (32 < (x5_1.length : Int)) = false := decide_eq_false c3
    have c3b1 : decide (32 < x5_1.length) = false := decide_eq_false (by omega)
    clear c3
    by_cases c6 : 0 ≤ x6_1
    ·rw [if_pos c6] at H
     have c6b0 := eq_true c6
     have c6b1 : decide (0 ≤ x6_1) = true := decide_eq_true c6
     clear c6
     by_cases c7 : x6_1 ≤ (a0.size : Int)
     ·rw [if_pos c7] at H
      have c7b0 := eq_true c7
      have c7b1 : decide (x6_1 ≤ (a0.size : Int)) = true := decide_eq_true c7
      clear c7
      replace H := Option.bind_eq_some_iff.mp H
      obtain ⟨t170, A80, H⟩ := H
      replace H : (if t170 < 0 then (if (a0.size : Int) > 2048 then (some ((⟨#[]⟩ : ByteArray), (⟨#[]⟩ : ByteArray), (⟨#[]⟩ : ByteArray), false, 0, 431)) else (some ((⟨#[]⟩ : ByteArray), (⟨#[]⟩ : ByteArray), (⟨#[]⟩ : ByteArray), false, 0, 0))) else (if (wrap64 ((wrap64 (x6_1 + t170)) + 1)) > 2048 then (some ((⟨#[]⟩ : ByteArray), (⟨#[]⟩ : ByteArray), (⟨#[]⟩ : ByteArray), false, 0, 431)) else (if t170 = 0 then (fascineref12_Read.j1 k1 a0 x5_1 x6_1 t170 true) else (if 0 ≤ (wrap64 ((wrap64 (x6_1 + t170)) - 1)) then (if (wrap64 ((wrap64 (x6_1 + t170)) - 1)) < (a0.size : Int) then (fascineref12_Read.j1 k1 a0 x5_1 x6_1 t170 ((bt a0 (wrap64 ((wrap64 (x6_1 + t170)) - 1))) != 13)) else (none)) else (none))))) = some (r1, r2, r3, r4, r5, r6) := H
      have A8 := Aside0.mk A80
      clear A80
      by_cases c9 : t170 < 0
      ·rw [if_pos c9] at H
       have c9b0 : decide (t170 < 0) = true := decide_eq_true c9
       clear c9
       by_cases c10 : (a0.size : Int) > 2048
       ·rw [if_pos c10] at H
        have c10b0 : decide (2048 < (a0.size : Int)) = true := decide_eq_true c10
        have c10b1 : decide (2048 < a0.size) = true := decide_eq_true (by omega)
        clear c10
        simp only [Option.some.injEq, Prod.mk.injEq] at H
        obtain ⟨rfl, rfl, rfl, rfl, rfl, rfl⟩ := H
        obtain ⟨Ao11, co11, eo11⟩ := Kd.R_slice HO_5.out
        subst eo11
        go_wp2_with (first | ((with_reducible refine gate_callee (f := 22) rfl ?_); refine goesL_ (some 25) rfl rfl Tryd.func22 (by kernel_rfl) rfl #[.string (a0.extract (x6_1 : Int).toNat a0.size), .int .u8 10] rfl (by (try simp only [List.map_toArray, List.map_cons, List.map_nil]); first | done | rfl | (simp only [List.length_drop, List.length_take]; rfl)) ?_; (with_reducible refine (fascineref12_find.calls k1 (a0.extract (x6_1 : Int).toNat a0.size) 10 t170 _ A8.out).mono ?_); rintro e w' ⟨rfl, ⟨nd, rfl⟩⟩; refine ⟨_, rfl, ?_⟩; (try (rw [drewN_self wr]; generalize hq_ : World.drewN wr _ = wr; have n0_ : Aside0 (Kd.R Kd.string 9 wr w.heap.size (fun _ => True) (.slice Ao11 x5_1.length co11) x5_1) := ⟨by rw [← hq_]; exact (by (with_reducible repeat (first | apply Kd.R_alloc | apply Kd.R_drewN | apply Kd.R_drew)); exact HO_5.out)⟩; have n1_ : Aside0 (wr.heap[gb169]? = some (.cells #[.string x170000_1, .string x170001_1, .string x170002_1, .bool x170003_1] 24 (0, 0))) := ⟨by rw [← hq_]; exact (by (with_reducible repeat (first | refine blk_drewN ?_ _ | refine blk_drew ?_ | refine blk_alloc ?_ _)); exact BK169.out)⟩; have n2_ : Aside0 (Below w.heap.size w wr) := ⟨by rw [← hq_]; exact (by repeat (first | (with_reducible first | exact HB.out | apply below_alloc | apply pw_below_drewN | apply below_drew1 | refine below_set ?_ GE169.out) | exact HB.out))⟩; clear HO_5 BK169 HB hq_; have HO_5 := n0_; have BK169 := n1_; have HB := n2_; clear n0_ n1_ n2_)); have hcz12_0 : wr.cell? ⟨gb169, 0, none⟩ = some (.string x170000_1) := (blk_cell BK169.out 0).trans rfl; have hcz12_1 : wr.cell? ⟨gb169, 1, none⟩ = some (.string x170001_1) := (blk_cell BK169.out 1).trans rfl; have hcz12_2 : wr.cell? ⟨gb169, 2, none⟩ = some (.string x170002_1) := (blk_cell BK169.out 2).trans rfl; have hcz12_3 : wr.cell? ⟨gb169, 3, none⟩ = some (.bool x170003_1) := (blk_cell BK169.out 3).trans rfl; have hfz12_0 := blk_frozen BK169.out 0; have hfz12_1 := blk_frozen BK169.out 1; have hfz12_2 := blk_frozen BK169.out 2; have hfz12_3 := blk_frozen BK169.out 3))
        refine bodyPost_ret (results_ctt rfl _ _ gb169 24 #[.string (⟨#[]⟩ : ByteArray), .string (⟨#[]⟩ : ByteArray), .string (⟨#[]⟩ : ByteArray), .bool false] (0, 0) _ rfl (by (with_reducible repeat (first | refine blk_drewN ?_ _ | refine blk_drew ?_ | refine blk_alloc ?_ _)); refine blk_put (cs := #[.string (⟨#[]⟩ : ByteArray), .string (⟨#[]⟩ : ByteArray), .string (⟨#[]⟩ : ByteArray), .bool x170003_1]) ?_ 3 _ rfl; (with_reducible repeat (first | refine blk_drewN ?_ _ | refine blk_drew ?_ | refine blk_alloc ?_ _)); refine blk_put (cs := #[.string (⟨#[]⟩ : ByteArray), .string (⟨#[]⟩ : ByteArray), .string x170002_1, .bool x170003_1]) ?_ 2 _ rfl; (with_reducible repeat (first | refine blk_drewN ?_ _ | refine blk_drew ?_ | refine blk_alloc ?_ _)); refine blk_put (cs := #[.string (⟨#[]⟩ : ByteArray), .string x170001_1, .string x170002_1, .bool x170003_1]) ?_ 1 _ rfl; (with_reducible repeat (first | refine blk_drewN ?_ _ | refine blk_drew ?_ | refine blk_alloc ?_ _)); refine blk_put (cs := #[.string x170000_1, .string x170001_1, .string x170002_1, .bool x170003_1]) ?_ 0 _ rfl; (with_reducible repeat (first | refine blk_drewN ?_ _ | refine blk_drew ?_ | refine blk_alloc ?_ _)); exact BK169.out) Tryd.underlying24 rfl (by kernel_rfl)) rfl ?_
        exact ⟨by first | rfl | (simp [errW_none, errW_some] <;> rfl) | (simp [*, errW_none, errW_some] <;> rfl), by repeat (first | (with_reducible first | exact HB.out | apply below_alloc | apply pw_below_drewN | apply below_drew1 | refine below_set ?_ GE169.out) | exact HB.out)⟩
       ·rw [if_neg c10] at H
        have c10b0 : decide (2048 < (a0.size : Int)) = false := decide_eq_false c10
        have c10b1 : decide (2048 < a0.size) = false := decide_eq_false (by omega)
        clear c10
        simp only [Option.some.injEq, Prod.mk.injEq] at H
        obtain ⟨rfl, rfl, rfl, rfl, rfl, rfl⟩ := H
        obtain ⟨Ao13, co13, eo13⟩ := Kd.R_slice HO_5.out
        subst eo13
        go_wp2_with (first | ((with_reducible refine gate_callee (f := 22) rfl ?_); refine goesL_ (some 25) rfl rfl Tryd.func22 (by kernel_rfl) rfl #[.string (a0.extract (x6_1 : Int).toNat a0.size), .int .u8 10] rfl (by (try simp only [List.map_toArray, List.map_cons, List.map_nil]); first | done | rfl | (simp only [List.length_drop, List.length_take]; rfl)) ?_; (with_reducible refine (fascineref12_find.calls k1 (a0.extract (x6_1 : Int).toNat a0.size) 10 t170 _ A8.out).mono ?_); rintro e w' ⟨rfl, ⟨nd, rfl⟩⟩; refine ⟨_, rfl, ?_⟩; (try (rw [drewN_self wr]; generalize hq_ : World.drewN wr _ = wr; have n0_ : Aside0 (Kd.R Kd.string 9 wr w.heap.size (fun _ => True) (.slice Ao13 x5_1.length co13) x5_1) := ⟨by rw [← hq_]; exact (by (with_reducible repeat (first | apply Kd.R_alloc | apply Kd.R_drewN | apply Kd.R_drew)); exact HO_5.out)⟩; have n1_ : Aside0 (wr.heap[gb169]? = some (.cells #[.string x170000_1, .string x170001_1, .string x170002_1, .bool x170003_1] 24 (0, 0))) := ⟨by rw [← hq_]; exact (by (with_reducible repeat (first | refine blk_drewN ?_ _ | refine blk_drew ?_ | refine blk_alloc ?_ _)); exact BK169.out)⟩; have n2_ : Aside0 (Below w.heap.size w wr) := ⟨by rw [← hq_]; exact (by repeat (first | (with_reducible first | exact HB.out | apply below_alloc | apply pw_below_drewN | apply below_drew1 | refine below_set ?_ GE169.out) | exact HB.out))⟩; clear HO_5 BK169 HB hq_; have HO_5 := n0_; have BK169 := n1_; have HB := n2_; clear n0_ n1_ n2_)); have hcz14_0 : wr.cell? ⟨gb169, 0, none⟩ = some (.string x170000_1) := (blk_cell BK169.out 0).trans rfl; have hcz14_1 : wr.cell? ⟨gb169, 1, none⟩ = some (.string x170001_1) := (blk_cell BK169.out 1).trans rfl; have hcz14_2 : wr.cell? ⟨gb169, 2, none⟩ = some (.string x170002_1) := (blk_cell BK169.out 2).trans rfl; have hcz14_3 : wr.cell? ⟨gb169, 3, none⟩ = some (.bool x170003_1) := (blk_cell BK169.out 3).trans rfl; have hfz14_0 := blk_frozen BK169.out 0; have hfz14_1 := blk_frozen BK169.out 1; have hfz14_2 := blk_frozen BK169.out 2; have hfz14_3 := blk_frozen BK169.out 3))
        refine bodyPost_ret (results_ctt rfl _ _ gb169 24 #[.string (⟨#[]⟩ : ByteArray), .string (⟨#[]⟩ : ByteArray), .string (⟨#[]⟩ : ByteArray), .bool false] (0, 0) _ rfl (by (with_reducible repeat (first | refine blk_drewN ?_ _ | refine blk_drew ?_ | refine blk_alloc ?_ _)); refine blk_put (cs := #[.string (⟨#[]⟩ : ByteArray), .string (⟨#[]⟩ : ByteArray), .string (⟨#[]⟩ : ByteArray), .bool x170003_1]) ?_ 3 _ rfl; (with_reducible repeat (first | refine blk_drewN ?_ _ | refine blk_drew ?_ | refine blk_alloc ?_ _)); refine blk_put (cs := #[.string (⟨#[]⟩ : ByteArray), .string (⟨#[]⟩ : ByteArray), .string x170002_1, .bool x170003_1]) ?_ 2 _ rfl; (with_reducible repeat (first | refine blk_drewN ?_ _ | refine blk_drew ?_ | refine blk_alloc ?_ _)); refine blk_put (cs := #[.string (⟨#[]⟩ : ByteArray), .string x170001_1, .string x170002_1, .bool x170003_1]) ?_ 1 _ rfl; (with_reducible repeat (first | refine blk_drewN ?_ _ | refine blk_drew ?_ | refine blk_alloc ?_ _)); refine blk_put (cs := #[.string x170000_1, .string x170001_1, .string x170002_1, .bool x170003_1]) ?_ 0 _ rfl; (with_reducible repeat (first | refine blk_drewN ?_ _ | refine blk_drew ?_ | refine blk_alloc ?_ _)); exact BK169.out) Tryd.underlying24 rfl (by kernel_rfl)) rfl ?_
        exact ⟨by first | rfl | (simp [errW_none, errW_some] <;> rfl) | (simp [*, errW_none, errW_some] <;> rfl), by repeat (first | (with_reducible first | exact HB.out | apply below_alloc | apply pw_below_drewN | apply below_drew1 | refine below_set ?_ GE169.out) | exact HB.out)⟩
      ·rw [if_neg c9] at H
       have c9b0 : decide (t170 < 0) = false := decide_eq_false c9
       clear c9
       by_cases c15 : (wrap64 ((wrap64 (x6_1 + t170)) + 1)) > 2048
       ·rw [if_pos c15] at H
        have c15b0 : decide (2048 < (wrap64 ((wrap64 (x6_1 + t170)) + 1))) = true := decide_eq_true c15
        clear c15
        simp only [Option.some.injEq, Prod.mk.injEq] at H
        obtain ⟨rfl, rfl, rfl, rfl, rfl, rfl⟩ := H
        obtain ⟨Ao16, co16, eo16⟩ := Kd.R_slice HO_5.out
        subst eo16
        go_wp2_with (first | ((with_reducible refine gate_callee (f := 22) rfl ?_); refine goesL_ (some 25) rfl rfl Tryd.func22 (by kernel_rfl) rfl #[.string (a0.extract (x6_1 : Int).toNat a0.size), .int .u8 10] rfl (by (try simp only [List.map_toArray, List.map_cons, List.map_nil]); first | done | rfl | (simp only [List.length_drop, List.length_take]; rfl)) ?_; (with_reducible refine (fascineref12_find.calls k1 (a0.extract (x6_1 : Int).toNat a0.size) 10 t170 _ A8.out).mono ?_); rintro e w' ⟨rfl, ⟨nd, rfl⟩⟩; refine ⟨_, rfl, ?_⟩; (try (rw [drewN_self wr]; generalize hq_ : World.drewN wr _ = wr; have n0_ : Aside0 (Kd.R Kd.string 9 wr w.heap.size (fun _ => True) (.slice Ao16 x5_1.length co16) x5_1) := ⟨by rw [← hq_]; exact (by (with_reducible repeat (first | apply Kd.R_alloc | apply Kd.R_drewN | apply Kd.R_drew)); exact HO_5.out)⟩; have n1_ : Aside0 (wr.heap[gb169]? = some (.cells #[.string x170000_1, .string x170001_1, .string x170002_1, .bool x170003_1] 24 (0, 0))) := ⟨by rw [← hq_]; exact (by (with_reducible repeat (first | refine blk_drewN ?_ _ | refine blk_drew ?_ | refine blk_alloc ?_ _)); exact BK169.out)⟩; have n2_ : Aside0 (Below w.heap.size w wr) := ⟨by rw [← hq_]; exact (by repeat (first | (with_reducible first | exact HB.out | apply below_alloc | apply pw_below_drewN | apply below_drew1 | refine below_set ?_ GE169.out) | exact HB.out))⟩; clear HO_5 BK169 HB hq_; have HO_5 := n0_; have BK169 := n1_; have HB := n2_; clear n0_ n1_ n2_)); have hcz17_0 : wr.cell? ⟨gb169, 0, none⟩ = some (.string x170000_1) := (blk_cell BK169.out 0).trans rfl; have hcz17_1 : wr.cell? ⟨gb169, 1, none⟩ = some (.string x170001_1) := (blk_cell BK169.out 1).trans rfl; have hcz17_2 : wr.cell? ⟨gb169, 2, none⟩ = some (.string x170002_1) := (blk_cell BK169.out 2).trans rfl; have hcz17_3 : wr.cell? ⟨gb169, 3, none⟩ = some (.bool x170003_1) := (blk_cell BK169.out 3).trans rfl; have hfz17_0 := blk_frozen BK169.out 0; have hfz17_1 := blk_frozen BK169.out 1; have hfz17_2 := blk_frozen BK169.out 2; have hfz17_3 := blk_frozen BK169.out 3))
        refine bodyPost_ret (results_ctt rfl _ _ gb169 24 #[.string (⟨#[]⟩ : ByteArray), .string (⟨#[]⟩ : ByteArray), .string (⟨#[]⟩ : ByteArray), .bool false] (0, 0) _ rfl (by (with_reducible repeat (first | refine blk_drewN ?_ _ | refine blk_drew ?_ | refine blk_alloc ?_ _)); refine blk_put (cs := #[.string (⟨#[]⟩ : ByteArray), .string (⟨#[]⟩ : ByteArray), .string (⟨#[]⟩ : ByteArray), .bool x170003_1]) ?_ 3 _ rfl; (with_reducible repeat (first | refine blk_drewN ?_ _ | refine blk_drew ?_ | refine blk_alloc ?_ _)); refine blk_put (cs := #[.string (⟨#[]⟩ : ByteArray), .string (⟨#[]⟩ : ByteArray), .string x170002_1, .bool x170003_1]) ?_ 2 _ rfl; (with_reducible repeat (first | refine blk_drewN ?_ _ | refine blk_drew ?_ | refine blk_alloc ?_ _)); refine blk_put (cs := #[.string (⟨#[]⟩ : ByteArray), .string x170001_1, .string x170002_1, .bool x170003_1]) ?_ 1 _ rfl; (with_reducible repeat (first | refine blk_drewN ?_ _ | refine blk_drew ?_ | refine blk_alloc ?_ _)); refine blk_put (cs := #[.string x170000_1, .string x170001_1, .string x170002_1, .bool x170003_1]) ?_ 0 _ rfl; (with_reducible repeat (first | refine blk_drewN ?_ _ | refine blk_drew ?_ | refine blk_alloc ?_ _)); exact BK169.out) Tryd.underlying24 rfl (by kernel_rfl)) rfl ?_
        exact ⟨by first | rfl | (simp [errW_none, errW_some] <;> rfl) | (simp [*, errW_none, errW_some] <;> rfl), by repeat (first | (with_reducible first | exact HB.out | apply below_alloc | apply pw_below_drewN | apply below_drew1 | refine below_set ?_ GE169.out) | exact HB.out)⟩
       ·rw [if_neg c15] at H
        have c15b0 : decide (2048 < (wrap64 ((wrap64 (x6_1 + t170)) + 1))) = false := decide_eq_false c15
        clear c15
        have HC18 := Aside0.mk H
        clear H
        obtain ⟨Ao19, co19, eo19⟩ := Kd.R_slice HO_5.out
        subst eo19
        go_upto_region 12 with (first | ((with_reducible refine gate_callee (f := 22) rfl ?_); refine goesL_ (some 25) rfl rfl Tryd.func22 (by kernel_rfl) rfl #[.string (a0.extract (x6_1 : Int).toNat a0.size), .int .u8 10] rfl (by (try simp only [List.map_toArray, List.map_cons, List.map_nil]); first | done | rfl | (simp only [List.length_drop, List.length_take]; rfl)) ?_; (with_reducible refine (fascineref12_find.calls k1 (a0.extract (x6_1 : Int).toNat a0.size) 10 t170 _ A8.out).mono ?_); rintro e w' ⟨rfl, ⟨nd, rfl⟩⟩; refine ⟨_, rfl, ?_⟩))
        (try simp only [Act.put, List.setIfInBounds_toArray, List.set_cons_zero, List.set_cons_succ])
        go_cut [49] (fun v49 wc => ∃ (kq : Nat) (x49_17 : Bool), v49 = .bool x49_17 ∧ Aside0 (fascineref12_Read.j1 kq a0 x5_1 x6_1 t170 x49_17 = some (r1, r2, r3, r4, r5, r6)) ∧ Aside0 (kq ≤ k1) ∧ Aside0 (Kd.R Kd.string 9 wc w.heap.size (fun _ => True) (.slice Ao19 x5_1.length co19) x5_1) ∧ Aside0 (wc.heap[gb169]? = some (.cells #[.string x170000_1, .string x170001_1, .string x170002_1, .bool x170003_1] 24 (0, 0))) ∧ Aside0 (Below w.heap.size w wc))
        case first =>
         have H := HC18.out
         clear HC18
         by_cases c20 : t170 = 0
         ·rw [if_pos c20] at H
          have c20b0 : (t170 == 0) = true := beq_iff_eq.mpr c20
          have c20b1 : (t170 != 0) = false := bne_eq_false_iff_eq.mpr c20
          clear c20
          (first | rw [c20b0] | (simp only [i64_w, i32_w]; rw [c20b0]) | skip)
          have H' := Aside0.mk H
          clear H
          go_wp2
          go_meet
          case rel => exact ⟨_, (true), (by first | rfl | (simp; done) | (simp [*]; done)), H', ⟨by have := HK1.out; first | omega | exact Nat.le_refl _⟩, ⟨by (with_reducible repeat (first | apply Kd.R_alloc | apply Kd.R_drewN | apply Kd.R_drew)); exact HO_5.out⟩, ⟨by (with_reducible repeat (first | refine blk_drewN ?_ _ | refine blk_drew ?_ | refine blk_alloc ?_ _)); exact BK169.out⟩, ⟨by repeat (first | (with_reducible first | exact HB.out | apply below_alloc | apply pw_below_drewN | apply below_drew1 | refine below_set ?_ GE169.out) | exact HB.out)⟩⟩
         ·rw [if_neg c20] at H
          have c20b0 : (t170 == 0) = false := beq_eq_false_iff_ne.mpr c20
          have c20b1 : (t170 != 0) = true := bne_iff_ne.mpr c20
          (first | rw [c20b0] | (simp only [i64_w, i32_w]; rw [c20b0]) | skip)
          obtain ⟨ji21, hji21⟩ : ∃ j_ : Int, (wrap64 ((wrap64 (x6_1 + t170)) - 1)) = j_ := ⟨_, rfl⟩
          replace H : (if 0 ≤ (ji21) then (if (ji21) < (a0.size : Int) then (fascineref12_Read.j1 k1 a0 x5_1 x6_1 t170 ((bt a0 (ji21)) != 13)) else (none)) else (none)) = some (r1, r2, r3, r4, r5, r6) := by first | (rw [hji21] at H; exact H) | (simp only [hji21] at H ⊢; exact H)
          have hji21w : (IntKind.i64.wrap ((wrap64 (x6_1 + t170)) - 1)) = ji21 := (i64_w _).trans hji21
          by_cases c22 : 0 ≤ (ji21)
          ·rw [if_pos c22] at H
           have c22b0 : decide (0 ≤ (ji21)) = true := decide_eq_true c22
           clear c22
           by_cases c23 : (ji21) < (a0.size : Int)
           ·rw [if_pos c23] at H
            have c23b0 : decide ((ji21) < (a0.size : Int)) = true := decide_eq_true c23
            clear c23
            have H' := Aside0.mk H
            clear H
            have p24 : 0 ≤ ((ji21) : Int) := of_decide_eq_true (by first | (with_reducible assumption) | assumption)
            have q24 : (ji21) < (a0.size : Int) := of_decide_eq_true (by first | (with_reducible assumption) | assumption)
            have hx24 := bt_at a0 (ji21)
            replace p24 := eq_true p24
            replace q24 := eq_true q24
            go_wp2
            go_meet
            case rel => exact ⟨_, (((bt a0 (ji21)) != 13)), (by first | rfl | (simp; done) | (simp only [← hji21] <;> (first | rfl | simp)) | (simp [*]; done)), H', ⟨by have := HK1.out; first | omega | exact Nat.le_refl _⟩, ⟨by (with_reducible repeat (first | apply Kd.R_alloc | apply Kd.R_drewN | apply Kd.R_drew)); exact HO_5.out⟩, ⟨by (with_reducible repeat (first | refine blk_drewN ?_ _ | refine blk_drew ?_ | refine blk_alloc ?_ _)); exact BK169.out⟩, ⟨by repeat (first | (with_reducible first | exact HB.out | apply below_alloc | apply pw_below_drewN | apply below_drew1 | refine below_set ?_ GE169.out) | exact HB.out)⟩⟩
           ·rw [if_neg c23] at H
            exact absurd H (by simp)
          ·rw [if_neg c22] at H
           exact absurd H (by simp)
        case rest =>
         clear HC18
         try clear c1
         try clear c2
         try clear p2
         try clear q2
         try clear hx2
         try clear c3
         try clear c3b0
         try clear c3b1
         try clear c6
         try clear c6b0
         try clear c6b1
         try clear p6
         try clear c7
         try clear c7b0
         try clear c7b1
         try clear c9
         try clear c9b0
         try clear c10
         try clear c10b0
         try clear c10b1
         try clear c11
         try clear c15
         try clear c15b0
         try clear c20
         try clear c20b0
         try clear c20b1
         try clear c22
         try clear c22b0
         try clear c23
         try clear c23b0
         try clear p24
         try clear q24
         try clear hx24
         try clear hcz12_0
         try clear hcz12_1
         try clear hcz12_2
         try clear hcz12_3
         try clear hcz14_0
         try clear hcz14_1
         try clear hcz14_2
         try clear hcz14_3
         try clear hcz17_0
         try clear hcz17_1
         try clear hcz17_2
         try clear hcz17_3
         try clear hcz5_0
         try clear hcz5_1
         try clear hcz5_2
         try clear hcz5_3
         try clear hfz12_0
         try clear hfz12_1
         try clear hfz12_2
         try clear hfz12_3
         try clear hfz14_0
         try clear hfz14_1
         try clear hfz14_2
         try clear hfz14_3
         try clear hfz17_0
         try clear hfz17_1
         try clear hfz17_2
         try clear hfz17_3
         try clear hfz5_0
         try clear hfz5_1
         try clear hfz5_2
         try clear hfz5_3
         try clear p2
         try clear p24
         try clear q24
         obtain ⟨kq, x49_17, rfl, HA, HJ17, HO_5, BK169, HB⟩ := hcut
         cases kq with
         | zero => exact absurd HA.out (by simp [fascineref12_Read.j1])
         | succ kj17 =>
          have H := HA.out
          clear HA
          simp only [fascineref12_Read.j1] at H
          by_cases c25 : x49_17 = true
          ·subst c25
           have H1 : (some ((⟨#[]⟩ : ByteArray), (⟨#[]⟩ : ByteArray), (⟨#[]⟩ : ByteArray), false, 0, 400)) = some (r1, r2, r3, r4, r5, r6) := by rw [if_pos rfl] at H; exact H
           clear H
           have H := H1
           clear H1
           simp only [Option.some.injEq, Prod.mk.injEq] at H
           obtain ⟨rfl, rfl, rfl, rfl, rfl, rfl⟩ := H
           have hcz26_0 : wc.cell? ⟨gb169, 0, none⟩ = some (.string x170000_1) := (blk_cell BK169.out 0).trans rfl
           have hcz26_1 : wc.cell? ⟨gb169, 1, none⟩ = some (.string x170001_1) := (blk_cell BK169.out 1).trans rfl
           have hcz26_2 : wc.cell? ⟨gb169, 2, none⟩ = some (.string x170002_1) := (blk_cell BK169.out 2).trans rfl
           have hcz26_3 : wc.cell? ⟨gb169, 3, none⟩ = some (.bool x170003_1) := (blk_cell BK169.out 3).trans rfl
           have hfz26_0 := blk_frozen BK169.out 0
           have hfz26_1 := blk_frozen BK169.out 1
           have hfz26_2 := blk_frozen BK169.out 2
           have hfz26_3 := blk_frozen BK169.out 3
           go_wp2
           refine bodyPost_ret (results_ctt rfl _ _ gb169 24 #[.string (⟨#[]⟩ : ByteArray), .string (⟨#[]⟩ : ByteArray), .string (⟨#[]⟩ : ByteArray), .bool false] (0, 0) _ rfl (by (with_reducible repeat (first | refine blk_drewN ?_ _ | refine blk_drew ?_ | refine blk_alloc ?_ _)); refine blk_put (cs := #[.string (⟨#[]⟩ : ByteArray), .string (⟨#[]⟩ : ByteArray), .string (⟨#[]⟩ : ByteArray), .bool x170003_1]) ?_ 3 _ rfl; (with_reducible repeat (first | refine blk_drewN ?_ _ | refine blk_drew ?_ | refine blk_alloc ?_ _)); refine blk_put (cs := #[.string (⟨#[]⟩ : ByteArray), .string (⟨#[]⟩ : ByteArray), .string x170002_1, .bool x170003_1]) ?_ 2 _ rfl; (with_reducible repeat (first | refine blk_drewN ?_ _ | refine blk_drew ?_ | refine blk_alloc ?_ _)); refine blk_put (cs := #[.string (⟨#[]⟩ : ByteArray), .string x170001_1, .string x170002_1, .bool x170003_1]) ?_ 1 _ rfl; (with_reducible repeat (first | refine blk_drewN ?_ _ | refine blk_drew ?_ | refine blk_alloc ?_ _)); refine blk_put (cs := #[.string x170000_1, .string x170001_1, .string x170002_1, .bool x170003_1]) ?_ 0 _ rfl; (with_reducible repeat (first | refine blk_drewN ?_ _ | refine blk_drew ?_ | refine blk_alloc ?_ _)); exact BK169.out) Tryd.underlying24 rfl (by kernel_rfl)) rfl ?_
           exact ⟨by first | rfl | (simp [errW_none, errW_some] <;> rfl) | (simp [*, errW_none, errW_some] <;> rfl), by repeat (first | (with_reducible first | exact HB.out | apply below_alloc | apply pw_below_drewN | apply below_drew1 | refine below_set ?_ GE169.out) | exact HB.out)⟩
          ·replace c25 := Bool.eq_false_iff.mpr c25
           subst c25
           have H1 : (if 0 ≤ x6_1 then (if x6_1 ≤ (wrap64 ((wrap64 (x6_1 + t170)) - 1)) then (if (wrap64 ((wrap64 (x6_1 + t170)) - 1)) ≤ (a0.size : Int) then (if (a0.extract (x6_1 : Int).toNat ((wrap64 ((wrap64 (x6_1 + t170)) - 1)) : Int).toNat).toList = ([] : List UInt8) then (if (x5_1.length : Int) > 0 then (if 0 < (x5_1.length : Int) then ((fascineref12_first.f kj17 (rdOf ByteArray.empty x5_1 0)).bind fun bt178 => (if bt178.2.2.2.2 = true then (fascineref12_Read.l1 kj17 a0 x5_1 (wrap64 (x6_1 + (wrap64 (t170 + 1)))) 0 0 0 1 bt178.1 bt178.2.1 bt178.2.2.1 bt178.2.2.2.1) else (some ((⟨#[]⟩ : ByteArray), (⟨#[]⟩ : ByteArray), (⟨#[]⟩ : ByteArray), false, 0, 400)))) else (none)) else (if x5_1.length < 8796093022208 then (fascineref12_Read.l0 kj17 a0 (x5_1 ++ [a0.extract (x6_1 : Int).toNat ((wrap64 ((wrap64 (x6_1 + t170)) - 1)) : Int).toNat]) (wrap64 (x6_1 + (wrap64 (t170 + 1))))) else (none))) else (if x5_1.length < 8796093022208 then (fascineref12_Read.l0 kj17 a0 (x5_1 ++ [a0.extract (x6_1 : Int).toNat ((wrap64 ((wrap64 (x6_1 + t170)) - 1)) : Int).toNat]) (wrap64 (x6_1 + (wrap64 (t170 + 1))))) else (none))) else (none)) else (none)) else (none)) = some (r1, r2, r3, r4, r5, r6) := by rw [if_neg (show ¬ (false = true) by decide)] at H; exact H
           clear H
           have H := H1
           clear H1
           by_cases c27 : 0 ≤ x6_1
           ·rw [if_pos c27] at H
            have c27b0 := eq_true c27
            have c27b1 : decide (0 ≤ x6_1) = true := decide_eq_true c27
            clear c27
            by_cases c28 : x6_1 ≤ (wrap64 ((wrap64 (x6_1 + t170)) - 1))
            ·rw [if_pos c28] at H
             have c28b0 := eq_true c28
             have c28b1 : decide (x6_1 ≤ (wrap64 ((wrap64 (x6_1 + t170)) - 1))) = true := decide_eq_true c28
             by_cases c29 : (wrap64 ((wrap64 (x6_1 + t170)) - 1)) ≤ (a0.size : Int)
             ·rw [if_pos c29] at H
              have c29b0 := eq_true c29
              have c29b1 : decide ((wrap64 ((wrap64 (x6_1 + t170)) - 1)) ≤ (a0.size : Int)) = true := decide_eq_true c29
              by_cases c30 : (a0.extract (x6_1 : Int).toNat ((wrap64 ((wrap64 (x6_1 + t170)) - 1)) : Int).toNat).toList = ([] : List UInt8)
              ·rw [if_pos c30] at H
               have c30b0 : ((a0.extract (x6_1 : Int).toNat ((wrap64 ((wrap64 (x6_1 + t170)) - 1)) : Int).toNat).toList == ([] : List UInt8)) = true := beq_iff_eq.mpr c30
               have c30b1 : ((a0.extract (x6_1 : Int).toNat ((wrap64 ((wrap64 (x6_1 + t170)) - 1)) : Int).toNat).toList != ([] : List UInt8)) = false := bne_eq_false_iff_eq.mpr c30
               clear c30
               by_cases c31 : (x5_1.length : Int) > 0
               ·rw [if_pos c31] at H
                have c31b0 : decide (0 < (x5_1.length : Int)) = true := decide_eq_true c31
                have c31b1 : decide (0 < x5_1.length) = true := decide_eq_true (by omega)
                clear c31
                by_cases c32 : 0 < (x5_1.length : Int)
                ·rw [if_pos c32] at H
                 have c32b0 : decide (0 < (x5_1.length : Int)) = true := decide_eq_true c32
                 have c32b1 : decide (0 < x5_1.length) = true := decide_eq_true (by omega)
                 clear c32
                 replace H := Option.bind_eq_some_iff.mp H
                 obtain ⟨⟨t178, t179, t180, t181, t182⟩, A330, H⟩ := H
                 replace H : (if t182 = true then (fascineref12_Read.l1 kj17 a0 x5_1 (wrap64 (x6_1 + (wrap64 (t170 + 1)))) 0 0 0 1 t178 t179 t180 t181) else (some ((⟨#[]⟩ : ByteArray), (⟨#[]⟩ : ByteArray), (⟨#[]⟩ : ByteArray), false, 0, 400))) = some (r1, r2, r3, r4, r5, r6) := H
                 have A33 := Aside0.mk A330
                 clear A330
                 by_cases c34 : t182 = true
                 ·subst c34
                  have H1 : (fascineref12_Read.l1 kj17 a0 x5_1 (wrap64 (x6_1 + (wrap64 (t170 + 1)))) 0 0 0 1 t178 t179 t180 t181) = some (r1, r2, r3, r4, r5, r6) := by rw [if_pos rfl] at H; exact H
                  clear H
                  have H := H1
                  clear H1
                  have H' := Aside0.mk H
                  clear H
                  have p177 : 0 ≤ (0 : Int) := (by omega)
                  have q177 : 0 < (x5_1.length : Int) := of_decide_eq_true (by first | (with_reducible assumption) | assumption)
                  obtain ⟨ad177, e177, hx177_0⟩ := Kd.at_string (Kd.R_reads' HO_5.out).2.2 0 p177 q177
                  cases e177
                  have qi177 : (0 < x5_1.length) = True := eq_true (by omega)
                  (try rw [show ((0 : Int)).toNat = 0 from rfl] at hx177_0)
                  (try rw [Addr.add_zero'] at hx177_0)
                  replace p177 := eq_true p177
                  replace q177 := eq_true q177
                  go_wp2_with (first | ((with_reducible refine gate_callee (f := 23) rfl ?_); refine goesL_ (some 77) rfl rfl Tryd.func23 (by kernel_rfl) rfl #[.string (rdOf ByteArray.empty x5_1 0)] rfl (by (try simp only [List.map_toArray, List.map_cons, List.map_nil]); first | done | rfl | (simp only [List.length_drop, List.length_take]; rfl)) ?_; (with_reducible refine (fascineref12_first.calls kj17 (rdOf ByteArray.empty x5_1 0) t178 t179 t180 t181 true _ A33.out).mono ?_); rintro e w35 ⟨rfl, hb⟩; refine ⟨_, rfl, ?_⟩; have n0_ := Aside0.mk (Kd.R_below (by (with_reducible repeat (first | apply Kd.R_alloc | apply Kd.R_drewN | apply Kd.R_drew)); exact HO_5.out) hb); have n1_ := Aside0.mk (blk_below (g := gb169) (o := .cells #[.string x170000_1, .string x170001_1, .string x170002_1, .bool x170003_1] 24 (0, 0)) (by (with_reducible repeat (first | refine blk_drewN ?_ _ | refine blk_drew ?_ | refine blk_alloc ?_ _)); exact BK169.out) hb); have n2_ := Aside0.mk (below_step (by repeat (first | (with_reducible first | exact HB.out | apply below_alloc | apply pw_below_drewN | apply below_drew1 | refine below_set ?_ GE169.out) | exact HB.out)) hb); clear HO_5; clear BK169; clear HB; have HO_5 := n0_; have BK169 := n1_; have HB := n2_; clear n0_ n1_ n2_; (try clear hb); (try clear hb2); (try clear hk); (try clear hi)) | ((with_reducible refine gate_dst (N := 9) rfl ?_); (try (refine gate_guard (by rfl) ?_; dsimp only)); refine box_event ?hg (N := 9) ?hd (cs := #[.string (⟨#[]⟩ : ByteArray), .string (⟨#[]⟩ : ByteArray), .string (⟨#[]⟩ : ByteArray), .bool false]) (t := 24) ?hr ?_; (case hd => rfl); (case hg => rfl); (case hr => first | (go_simp; done) | (go_simp; rfl)); intro gb183 hg w36 hbox hb; have n0_ := Aside0.mk (Kd.R_below (by (with_reducible repeat (first | apply Kd.R_alloc | apply Kd.R_drewN | apply Kd.R_drew)); exact HO_5.out) hb); have n1_ := Aside0.mk (blk_below (g := gb169) (o := .cells #[.string x170000_1, .string x170001_1, .string x170002_1, .bool x170003_1] 24 (0, 0)) (by (with_reducible repeat (first | refine blk_drewN ?_ _ | refine blk_drew ?_ | refine blk_alloc ?_ _)); exact BK169.out) hb); have n2_ := Aside0.mk (below_step (by repeat (first | (with_reducible first | exact HB.out | apply below_alloc | apply pw_below_drewN | apply below_drew1 | refine below_set ?_ GE169.out) | exact HB.out)) hb); have n3_ := Aside0.mk (hbox); have n4_ := Aside0.mk ((by rw [hg]; exact (below_size (by repeat (first | (with_reducible first | exact HB.out | apply below_alloc | apply pw_below_drewN | apply below_drew1 | refine below_set ?_ GE169.out) | exact HB.out))) : w.heap.size ≤ gb183)); have n5_ := Aside0.mk ((by rw [hg]; exact (below_size (by repeat (first | (with_reducible first | exact HB.out | apply below_alloc | apply pw_below_drewN | apply below_drew1 | refine below_set ?_ GE169.out) | exact HB.out))) : w.heap.size ≤ gb183)); have n6_ := Aside0.mk ((by rw [hg]; exact Nat.ne_of_lt (blk_lt (g := gb169) (o := .cells #[.string x170000_1, .string x170001_1, .string x170002_1, .bool x170003_1] 24 (0, 0)) (by (with_reducible repeat (first | refine blk_drewN ?_ _ | refine blk_drew ?_ | refine blk_alloc ?_ _)); exact BK169.out)) : gb169 ≠ gb183)); have n7_ := Aside0.mk ((by rw [hg]; exact Nat.ne_of_gt (blk_lt (g := gb169) (o := .cells #[.string x170000_1, .string x170001_1, .string x170002_1, .bool x170003_1] 24 (0, 0)) (by (with_reducible repeat (first | refine blk_drewN ?_ _ | refine blk_drew ?_ | refine blk_alloc ?_ _)); exact BK169.out)) : gb183 ≠ gb169)); clear HO_5; clear BK169; clear HB; have HO_5 := n0_; have BK169 := n1_; have HB := n2_; have BK183 := n3_; have GW183 := n4_; have GE183 := n5_; have NB169_183 := n6_; have NB183_169 := n7_; clear n0_ n1_ n2_ n3_ n4_ n5_ n6_ n7_; clear hb hbox hg; have hnb37 := NB183_169.out; have hnc37 := NB169_183.out; have hcz38_0 : w36.cell? ⟨gb183, 0, none⟩ = some (.string (⟨#[]⟩ : ByteArray)) := (blk_cell BK183.out 0).trans rfl; have hcz38_1 : w36.cell? ⟨gb183, 1, none⟩ = some (.string (⟨#[]⟩ : ByteArray)) := (blk_cell BK183.out 1).trans rfl; have hcz38_2 : w36.cell? ⟨gb183, 2, none⟩ = some (.string (⟨#[]⟩ : ByteArray)) := (blk_cell BK183.out 2).trans rfl; have hcz38_3 : w36.cell? ⟨gb183, 3, none⟩ = some (.bool false) := (blk_cell BK183.out 3).trans rfl; have hfz38_0 := blk_frozen BK183.out 0; have hfz38_1 := blk_frozen BK183.out 1; have hfz38_2 := blk_frozen BK183.out 2; have hfz38_3 := blk_frozen BK183.out 3))
                  go_loopg [11, 12, 13, 14] kj17 (fun kq v11 v12 v13 v14 w' => ∃ (x11_3 : Int) (x12_3 : Int) (x13_3 : Int) (x14_3 : Int) (x170000_3 : ByteArray) (x170001_3 : ByteArray) (x170002_3 : ByteArray) (x170003_3 : Bool) (x184003_3 : Bool), v11 = .int .i64 x11_3 ∧ v12 = .int .i64 x12_3 ∧ v13 = .int .i64 x13_3 ∧ v14 = .int .i64 x14_3 ∧ Aside0 (fascineref12_Read.l1 kq a0 x5_1 (wrap64 (x6_1 + (wrap64 (t170 + 1)))) x11_3 x12_3 x13_3 x14_3 t178 t179 t180 x184003_3 = some (r1, r2, r3, r4, r5, r6)) ∧ Aside0 (kq ≤ kj17) ∧ Aside0 (Kd.R Kd.string 9 w' w.heap.size (fun _ => True) (.slice (some ad177) x5_1.length co19) x5_1) ∧ Aside0 (w'.heap[gb169]? = some (.cells #[.string x170000_3, .string x170001_3, .string x170002_3, .bool x170003_3] 24 (0, 0))) ∧ Aside0 (w'.heap[gb183]? = some (.cells #[.string t178, .string t179, .string t180, .bool x184003_3] 24 (0, 0))) ∧ Aside0 (Below w.heap.size w w'))
                  case atStart => exact ⟨(0), (0), (0), (1), (x170000_1), (x170001_1), (x170002_1), (x170003_1), (t181), (by first | rfl | (simp; done) | (simp [*]; done)), (by first | rfl | (simp; done) | (simp [*]; done)), (by first | rfl | (simp; done) | (simp [*]; done)), (by first | rfl | (simp; done) | (simp [*]; done)), H', ⟨Nat.le_refl _⟩, ⟨by (with_reducible repeat (first | apply Kd.R_alloc | apply Kd.R_drewN | apply Kd.R_drew)); exact Kd.R_mono (Kd.R_far (p := ⟨gb183, 3, none⟩) (Kd.R_far (p := ⟨gb183, 2, none⟩) (Kd.R_far (p := ⟨gb183, 1, none⟩) (Kd.R_far (p := ⟨gb183, 0, none⟩) (Kd.R_types HO_5.out BK183.out (by decide)) (fun _ hk => hk.2) (.string t178)) (fun _ hk => hk.2) (.string t179)) (fun _ hk => hk.2) (.string t180)) (fun _ hk => hk.2) (.bool t181)) (fun _ hk => trivial)⟩, ⟨by (with_reducible repeat (first | refine blk_drewN ?_ _ | refine blk_drew ?_ | refine blk_alloc ?_ _)); refine blk_far ?_ NB169_183.out _; (with_reducible repeat (first | refine blk_drewN ?_ _ | refine blk_drew ?_ | refine blk_alloc ?_ _)); refine blk_far ?_ NB169_183.out _; (with_reducible repeat (first | refine blk_drewN ?_ _ | refine blk_drew ?_ | refine blk_alloc ?_ _)); refine blk_far ?_ NB169_183.out _; (with_reducible repeat (first | refine blk_drewN ?_ _ | refine blk_drew ?_ | refine blk_alloc ?_ _)); refine blk_far ?_ NB169_183.out _; (with_reducible repeat (first | refine blk_drewN ?_ _ | refine blk_drew ?_ | refine blk_alloc ?_ _)); exact BK169.out⟩, ⟨by (with_reducible repeat (first | refine blk_drewN ?_ _ | refine blk_drew ?_ | refine blk_alloc ?_ _)); refine blk_put (cs := #[.string t178, .string t179, .string t180, .bool false]) ?_ 3 _ rfl; (with_reducible repeat (first | refine blk_drewN ?_ _ | refine blk_drew ?_ | refine blk_alloc ?_ _)); refine blk_put (cs := #[.string t178, .string t179, .string (⟨#[]⟩ : ByteArray), .bool false]) ?_ 2 _ rfl; (with_reducible repeat (first | refine blk_drewN ?_ _ | refine blk_drew ?_ | refine blk_alloc ?_ _)); refine blk_put (cs := #[.string t178, .string (⟨#[]⟩ : ByteArray), .string (⟨#[]⟩ : ByteArray), .bool false]) ?_ 1 _ rfl; (with_reducible repeat (first | refine blk_drewN ?_ _ | refine blk_drew ?_ | refine blk_alloc ?_ _)); refine blk_put (cs := #[.string (⟨#[]⟩ : ByteArray), .string (⟨#[]⟩ : ByteArray), .string (⟨#[]⟩ : ByteArray), .bool false]) ?_ 0 _ rfl; (with_reducible repeat (first | refine blk_drewN ?_ _ | refine blk_drew ?_ | refine blk_alloc ?_ _)); exact BK183.out⟩, ⟨by repeat (first | (with_reducible first | exact HB.out | apply below_alloc | apply pw_below_drewN | apply below_drew1 | refine below_set ?_ GE169.out | refine below_set ?_ GE183.out) | exact HB.out)⟩⟩
                  case round =>
                   clear H'
                   try clear c1
                   try clear p1
                   try clear q1
                   try clear hx1
                   try clear qi1
                   try clear c2
                   try clear p2
                   try clear q2
                   try clear hx2
                   try clear c3
                   try clear c3b0
                   try clear c3b1
                   try clear c6
                   try clear c6b0
                   try clear c6b1
                   try clear p6
                   try clear c7
                   try clear c7b0
                   try clear c7b1
                   try clear c9
                   try clear c9b0
                   try clear c10
                   try clear c10b0
                   try clear c10b1
                   try clear c11
                   try clear c15
                   try clear c15b0
                   try clear p17
                   try clear q17
                   try clear hx17
                   try clear qi17
                   try clear c20
                   try clear c20b0
                   try clear c20b1
                   try clear c22
                   try clear c22b0
                   try clear c23
                   try clear c23b0
                   try clear p24
                   try clear q24
                   try clear hx24
                   try clear c25
                   try clear c27
                   try clear c27b0
                   try clear c27b1
                   try clear c28
                   try clear c28b0
                   try clear c28b1
                   try clear c29
                   try clear c29b0
                   try clear c29b1
                   try clear c30
                   try clear c30b0
                   try clear c30b1
                   try clear c31
                   try clear c31b0
                   try clear c31b1
                   try clear c32
                   try clear c32b0
                   try clear c32b1
                   try clear c34
                   try clear c37
                   try clear hcz12_0
                   try clear hcz12_1
                   try clear hcz12_2
                   try clear hcz12_3
                   try clear hcz14_0
                   try clear hcz14_1
                   try clear hcz14_2
                   try clear hcz14_3
                   try clear hcz17_0
                   try clear hcz17_1
                   try clear hcz17_2
                   try clear hcz17_3
                   try clear hcz26_0
                   try clear hcz26_1
                   try clear hcz26_2
                   try clear hcz26_3
                   try clear hcz38_0
                   try clear hcz38_1
                   try clear hcz38_2
                   try clear hcz38_3
                   try clear hcz5_0
                   try clear hcz5_1
                   try clear hcz5_2
                   try clear hcz5_3
                   try clear hfz12_0
                   try clear hfz12_1
                   try clear hfz12_2
                   try clear hfz12_3
                   try clear hfz14_0
                   try clear hfz14_1
                   try clear hfz14_2
                   try clear hfz14_3
                   try clear hfz17_0
                   try clear hfz17_1
                   try clear hfz17_2
                   try clear hfz17_3
                   try clear hfz26_0
                   try clear hfz26_1
                   try clear hfz26_2
                   try clear hfz26_3
                   try clear hfz38_0
                   try clear hfz38_1
                   try clear hfz38_2
                   try clear hfz38_3
                   try clear hfz5_0
                   try clear hfz5_1
                   try clear hfz5_2
                   try clear hfz5_3
                   try clear hx177_0
                   try clear p177
                   try clear p2
                   try clear p24
                   try clear p6
                   try clear q177
                   try clear q2
                   try clear q24
                   obtain ⟨x11_3, x12_3, x13_3, x14_3, x170000_3, x170001_3, x170002_3, x170003_3, x184003_3, rfl, rfl, rfl, rfl, HA, HK3, HO_5, BK169, BK183, HB⟩ := hrel
                   cases gk with
                   | zero => exact absurd HA.out (by simp [fascineref12_Read.l1])
                   | succ k3 =>
                    have H := HA.out
                    clear HA
                    simp only [fascineref12_Read.l1] at H
                    by_cases c39 : x14_3 < (x5_1.length : Int)
                    ·rw [if_pos c39] at H
                     have c39b0 : decide (x14_3 < (x5_1.length : Int)) = true := decide_eq_true c39
                     clear c39
                     by_cases c40 : 0 ≤ x14_3
                     ·rw [if_pos c40] at H
                      have c40b0 : decide (0 ≤ x14_3) = true := decide_eq_true c40
                      clear c40
                      replace H := Option.bind_eq_some_iff.mp H
                      obtain ⟨t185, A410, H⟩ := H
                      replace H : (if t185 < 0 then (fascineref12_Read.j3 k3 a0 x5_1 (wrap64 (x6_1 + (wrap64 (t170 + 1)))) x11_3 x12_3 x13_3 x14_3 t185 true t178 t179 t180 x184003_3) else (if 0 ≤ t185 then (if t185 ≤ ((rdOf ByteArray.empty x5_1 x14_3).size : Int) then ((fascineref12_name.f k3 ((rdOf ByteArray.empty x5_1 x14_3).extract 0 (t185 : Int).toNat)).bind fun t187 => (fascineref12_Read.j3 k3 a0 x5_1 (wrap64 (x6_1 + (wrap64 (t170 + 1)))) x11_3 x12_3 x13_3 x14_3 t185 (!t187) t178 t179 t180 x184003_3)) else (none)) else (none))) = some (r1, r2, r3, r4, r5, r6) := H
                      have A41 := Aside0.mk A410
                      clear A410
                      have HC42 := Aside0.mk H
                      clear H
                      have p184 : 0 ≤ (x14_3 : Int) := of_decide_eq_true (by first | (with_reducible assumption) | assumption)
                      have q184 : x14_3 < (x5_1.length : Int) := of_decide_eq_true (by first | (with_reducible assumption) | assumption)
                      obtain ⟨ad184, e184, hx184_0⟩ := Kd.at_string (Kd.R_reads' HO_5.out).2.2 x14_3 p184 q184
                      obtain rfl : ad177 = ad184 := (by injection e184)
                      replace p184 := eq_true p184
                      replace q184 := eq_true q184
                      go_upto_region 28 with (first | ((with_reducible refine gate_callee (f := 22) rfl ?_); refine goesL_ (some 93) rfl rfl Tryd.func22 (by kernel_rfl) rfl #[.string (rdOf ByteArray.empty x5_1 x14_3), .int .u8 58] rfl (by (try simp only [List.map_toArray, List.map_cons, List.map_nil]); first | done | rfl | (simp only [List.length_drop, List.length_take]; rfl)) ?_; (with_reducible refine (fascineref12_find.calls k3 (rdOf ByteArray.empty x5_1 x14_3) 58 t185 _ A41.out).mono ?_); rintro e w' ⟨rfl, ⟨nd, rfl⟩⟩; refine ⟨_, rfl, ?_⟩))
                      (try simp only [Act.put, List.setIfInBounds_toArray, List.set_cons_zero, List.set_cons_succ])
                      go_cut [105] (fun v105 wc => ∃ (kq : Nat) (x105_41 : Bool), v105 = .bool x105_41 ∧ Aside0 (fascineref12_Read.j3 kq a0 x5_1 (wrap64 (x6_1 + (wrap64 (t170 + 1)))) x11_3 x12_3 x13_3 x14_3 t185 x105_41 t178 t179 t180 x184003_3 = some (r1, r2, r3, r4, r5, r6)) ∧ Aside0 (kq ≤ k3) ∧ Aside0 (Kd.R Kd.string 9 wc w.heap.size (fun _ => True) (.slice (some ad177) x5_1.length co19) x5_1) ∧ Aside0 (wc.heap[gb169]? = some (.cells #[.string x170000_3, .string x170001_3, .string x170002_3, .bool x170003_3] 24 (0, 0))) ∧ Aside0 (wc.heap[gb183]? = some (.cells #[.string t178, .string t179, .string t180, .bool x184003_3] 24 (0, 0))) ∧ Aside0 (Below w.heap.size w wc))
                      case first =>
                       have H := HC42.out
                       clear HC42
                       by_cases c43 : t185 < 0
                       ·rw [if_pos c43] at H
                        have c43b0 : decide (t185 < 0) = true := decide_eq_true c43
                        clear c43
                        (first | rw [c43b0] | (simp only [i64_w, i32_w]; rw [c43b0]) | skip)
                        have H' := Aside0.mk H
                        clear H
                        go_wp2
                        go_meet
                        case rel => exact ⟨_, (true), (by first | rfl | (simp; done) | (simp [*]; done)), H', ⟨by have := HK1.out; have := HJ17.out; have := HK3.out; first | omega | exact Nat.le_refl _⟩, ⟨by (with_reducible repeat (first | apply Kd.R_alloc | apply Kd.R_drewN | apply Kd.R_drew)); exact HO_5.out⟩, ⟨by (with_reducible repeat (first | refine blk_drewN ?_ _ | refine blk_drew ?_ | refine blk_alloc ?_ _)); exact BK169.out⟩, ⟨by (with_reducible repeat (first | refine blk_drewN ?_ _ | refine blk_drew ?_ | refine blk_alloc ?_ _)); exact BK183.out⟩, ⟨by repeat (first | (with_reducible first | exact HB.out | apply below_alloc | apply pw_below_drewN | apply below_drew1 | refine below_set ?_ GE169.out | refine below_set ?_ GE183.out) | exact HB.out)⟩⟩
                       ·rw [if_neg c43] at H
                        have c43b0 : decide (t185 < 0) = false := decide_eq_false c43
                        clear c43
                        (first | rw [c43b0] | (simp only [i64_w, i32_w]; rw [c43b0]) | skip)
                        by_cases c44 : 0 ≤ t185
                        ·rw [if_pos c44] at H
                         have c44b0 := eq_true c44
                         have c44b1 : decide (0 ≤ t185) = true := decide_eq_true c44
                         clear c44
                         by_cases c45 : t185 ≤ ((rdOf ByteArray.empty x5_1 x14_3).size : Int)
                         ·rw [if_pos c45] at H
                          have c45b0 := eq_true c45
                          have c45b1 : decide (t185 ≤ ((rdOf ByteArray.empty x5_1 x14_3).size : Int)) = true := decide_eq_true c45
                          clear c45
                          replace H := Option.bind_eq_some_iff.mp H
                          obtain ⟨t187, A460, H⟩ := H
                          replace H : (fascineref12_Read.j3 k3 a0 x5_1 (wrap64 (x6_1 + (wrap64 (t170 + 1)))) x11_3 x12_3 x13_3 x14_3 t185 (!t187) t178 t179 t180 x184003_3) = some (r1, r2, r3, r4, r5, r6) := H
                          have A46 := Aside0.mk A460
                          clear A460
                          have H' := Aside0.mk H
                          clear H
                          have p186 : 0 ≤ (x14_3 : Int) := of_decide_eq_true (by first | (with_reducible assumption) | assumption)
                          have q186 : x14_3 < (x5_1.length : Int) := of_decide_eq_true (by first | (with_reducible assumption) | assumption)
                          obtain ⟨ad186, e186, hx186_0⟩ := Kd.at_string (Kd.R_reads' HO_5.out).2.2 x14_3 p186 q186
                          obtain rfl : ad177 = ad186 := (by injection e186)
                          replace p186 := eq_true p186
                          replace q186 := eq_true q186
                          go_wp2_with (first | (go_at_call 24; (with_reducible refine (fascineref12_name.calls k3 ((rdOf ByteArray.empty x5_1 x14_3).extract 0 (t185 : Int).toNat) t187 _ A46.out).mono ?_); rintro e w' ⟨rfl, ⟨nd, rfl⟩⟩))
                          go_meet
                          case rel => exact ⟨_, (!t187), (by first | rfl | (simp; done) | (simp [*]; done)), H', ⟨by have := HK1.out; have := HJ17.out; have := HK3.out; first | omega | exact Nat.le_refl _⟩, ⟨by (with_reducible repeat (first | apply Kd.R_alloc | apply Kd.R_drewN | apply Kd.R_drew)); exact HO_5.out⟩, ⟨by (with_reducible repeat (first | refine blk_drewN ?_ _ | refine blk_drew ?_ | refine blk_alloc ?_ _)); exact BK169.out⟩, ⟨by (with_reducible repeat (first | refine blk_drewN ?_ _ | refine blk_drew ?_ | refine blk_alloc ?_ _)); exact BK183.out⟩, ⟨by repeat (first | (with_reducible first | exact HB.out | apply below_alloc | apply pw_below_drewN | apply below_drew1 | refine below_set ?_ GE169.out | refine below_set ?_ GE183.out) | exact HB.out)⟩⟩
                         ·rw [if_neg c45] at H
                          exact absurd H (by simp)
                        ·rw [if_neg c44] at H
                         exact absurd H (by simp)
                      case rest =>
                       clear HC42
                       try clear c1
                       try clear p1
                       try clear q1
                       try clear hx1
                       try clear qi1
                       try clear c2
                       try clear p2
                       try clear q2
                       try clear hx2
                       try clear c3
                       try clear c3b0
                       try clear c3b1
                       try clear c4
                       try clear c6
                       try clear c6b0
                       try clear c6b1
                       try clear p6
                       try clear c7
                       try clear c7b0
                       try clear c7b1
                       try clear c9
                       try clear c9b0
                       try clear c10
                       try clear c10b0
                       try clear c10b1
                       try clear c11
                       try clear c15
                       try clear c15b0
                       try clear p17
                       try clear q17
                       try clear hx17
                       try clear qi17
                       try clear p18
                       try clear q18
                       try clear hx18
                       try clear c20
                       try clear c20b0
                       try clear c20b1
                       try clear c22
                       try clear c22b0
                       try clear c23
                       try clear c23b0
                       try clear p24
                       try clear q24
                       try clear hx24
                       try clear c25
                       try clear c27
                       try clear c27b0
                       try clear c27b1
                       try clear c28
                       try clear c28b0
                       try clear c28b1
                       try clear c29
                       try clear c29b0
                       try clear c29b1
                       try clear c30
                       try clear c30b0
                       try clear c30b1
                       try clear c31
                       try clear c31b0
                       try clear c31b1
                       try clear c32
                       try clear c32b0
                       try clear c32b1
                       try clear c34
                       try clear c37
                       try clear c39
                       try clear c39b0
                       try clear c40
                       try clear c40b0
                       try clear c43
                       try clear c43b0
                       try clear c44
                       try clear c44b0
                       try clear c44b1
                       try clear c45
                       try clear c45b0
                       try clear c45b1
                       try clear hcz12_0
                       try clear hcz12_1
                       try clear hcz12_2
                       try clear hcz12_3
                       try clear hcz14_0
                       try clear hcz14_1
                       try clear hcz14_2
                       try clear hcz14_3
                       try clear hcz17_0
                       try clear hcz17_1
                       try clear hcz17_2
                       try clear hcz17_3
                       try clear hcz26_0
                       try clear hcz26_1
                       try clear hcz26_2
                       try clear hcz26_3
                       try clear hcz38_0
                       try clear hcz38_1
                       try clear hcz38_2
                       try clear hcz38_3
                       try clear hcz5_0
                       try clear hcz5_1
                       try clear hcz5_2
                       try clear hcz5_3
                       try clear hfz12_0
                       try clear hfz12_1
                       try clear hfz12_2
                       try clear hfz12_3
                       try clear hfz14_0
                       try clear hfz14_1
                       try clear hfz14_2
                       try clear hfz14_3
                       try clear hfz17_0
                       try clear hfz17_1
                       try clear hfz17_2
                       try clear hfz17_3
                       try clear hfz26_0
                       try clear hfz26_1
                       try clear hfz26_2
                       try clear hfz26_3
                       try clear hfz38_0
                       try clear hfz38_1
                       try clear hfz38_2
                       try clear hfz38_3
                       try clear hfz5_0
                       try clear hfz5_1
                       try clear hfz5_2
                       try clear hfz5_3
                       try clear hx177_0
                       try clear hx184_0
                       try clear hx186_0
                       try clear p1
                       try clear p17
                       try clear p177
                       try clear p184
                       try clear p186
                       try clear p2
                       try clear p24
                       try clear p6
                       try clear q1
                       try clear q17
                       try clear q177
                       try clear q184
                       try clear q186
                       try clear q2
                       try clear q24
                       obtain ⟨kq, x105_41, rfl, HA, HJ41, HO_5, BK169, BK183, HB⟩ := hcut
                       cases kq with
                       | zero => exact absurd HA.out (by simp [fascineref12_Read.j3])
                       | succ kj41 =>
                        have H := HA.out
                        clear HA
                        simp only [fascineref12_Read.j3] at H
                        by_cases c47 : x105_41 = true
                        ·subst c47
                         have H1 : (some ((⟨#[]⟩ : ByteArray), (⟨#[]⟩ : ByteArray), (⟨#[]⟩ : ByteArray), false, 0, 400)) = some (r1, r2, r3, r4, r5, r6) := by rw [if_pos rfl] at H; exact H
                         clear H
                         have H := H1
                         clear H1
                         simp only [Option.some.injEq, Prod.mk.injEq] at H
                         obtain ⟨rfl, rfl, rfl, rfl, rfl, rfl⟩ := H
                         have hnb48 := NB169_183.out
                         have hnc48 := NB183_169.out
                         have hcz49_0 : wc.cell? ⟨gb169, 0, none⟩ = some (.string x170000_3) := (blk_cell BK169.out 0).trans rfl
                         have hcz49_1 : wc.cell? ⟨gb169, 1, none⟩ = some (.string x170001_3) := (blk_cell BK169.out 1).trans rfl
                         have hcz49_2 : wc.cell? ⟨gb169, 2, none⟩ = some (.string x170002_3) := (blk_cell BK169.out 2).trans rfl
                         have hcz49_3 : wc.cell? ⟨gb169, 3, none⟩ = some (.bool x170003_3) := (blk_cell BK169.out 3).trans rfl
                         have hfz49_0 := blk_frozen BK169.out 0
                         have hfz49_1 := blk_frozen BK169.out 1
                         have hfz49_2 := blk_frozen BK169.out 2
                         have hfz49_3 := blk_frozen BK169.out 3
                         go_wp2
                         refine bodyPost_ret (results_ctt rfl _ _ gb169 24 #[.string (⟨#[]⟩ : ByteArray), .string (⟨#[]⟩ : ByteArray), .string (⟨#[]⟩ : ByteArray), .bool false] (0, 0) _ rfl (by (with_reducible repeat (first | refine blk_drewN ?_ _ | refine blk_drew ?_ | refine blk_alloc ?_ _)); refine blk_put (cs := #[.string (⟨#[]⟩ : ByteArray), .string (⟨#[]⟩ : ByteArray), .string (⟨#[]⟩ : ByteArray), .bool x170003_3]) ?_ 3 _ rfl; (with_reducible repeat (first | refine blk_drewN ?_ _ | refine blk_drew ?_ | refine blk_alloc ?_ _)); refine blk_put (cs := #[.string (⟨#[]⟩ : ByteArray), .string (⟨#[]⟩ : ByteArray), .string x170002_3, .bool x170003_3]) ?_ 2 _ rfl; (with_reducible repeat (first | refine blk_drewN ?_ _ | refine blk_drew ?_ | refine blk_alloc ?_ _)); refine blk_put (cs := #[.string (⟨#[]⟩ : ByteArray), .string x170001_3, .string x170002_3, .bool x170003_3]) ?_ 1 _ rfl; (with_reducible repeat (first | refine blk_drewN ?_ _ | refine blk_drew ?_ | refine blk_alloc ?_ _)); refine blk_put (cs := #[.string x170000_3, .string x170001_3, .string x170002_3, .bool x170003_3]) ?_ 0 _ rfl; (with_reducible repeat (first | refine blk_drewN ?_ _ | refine blk_drew ?_ | refine blk_alloc ?_ _)); exact BK169.out) Tryd.underlying24 rfl (by kernel_rfl)) rfl ?_
                         exact ⟨by first | rfl | (simp [errW_none, errW_some] <;> rfl) | (simp [*, errW_none, errW_some] <;> rfl), by repeat (first | (with_reducible first | exact HB.out | apply below_alloc | apply pw_below_drewN | apply below_drew1 | refine below_set ?_ GE169.out | refine below_set ?_ GE183.out) | exact HB.out)⟩
                        ·replace c47 := Bool.eq_false_iff.mpr c47
                         subst c47
                         have H1 : (if 0 ≤ x14_3 then (if x14_3 < (x5_1.length : Int) then (if 0 ≤ (wrap64 (t185 + 1)) then (if (wrap64 (t185 + 1)) ≤ ((rdOf ByteArray.empty x5_1 x14_3).size : Int) then ((fascineref12_trim.f kj41 ((rdOf ByteArray.empty x5_1 x14_3).extract ((wrap64 (t185 + 1)) : Int).toNat (rdOf ByteArray.empty x5_1 x14_3).size)).bind fun t189 => (fascineref12_Read.l2 kj41 a0 x5_1 (wrap64 (x6_1 + (wrap64 (t170 + 1)))) x11_3 x12_3 x13_3 x14_3 t185 t189 0 t178 t179 t180 x184003_3)) else (none)) else (none)) else (none)) else (none)) = some (r1, r2, r3, r4, r5, r6) := by rw [if_neg (show ¬ (false = true) by decide)] at H; exact H
                         clear H
                         have H := H1
                         clear H1
                         by_cases c50 : 0 ≤ x14_3
                         ·rw [if_pos c50] at H
                          have c50b0 : decide (0 ≤ x14_3) = true := decide_eq_true c50
                          clear c50
                          by_cases c51 : x14_3 < (x5_1.length : Int)
                          ·rw [if_pos c51] at H
                           have c51b0 : decide (x14_3 < (x5_1.length : Int)) = true := decide_eq_true c51
                           clear c51
                           obtain ⟨ji52, hji52⟩ : ∃ j_ : Int, (wrap64 (t185 + 1)) = j_ := ⟨_, rfl⟩
                           replace H : (if 0 ≤ (ji52) then (if (ji52) ≤ ((rdOf ByteArray.empty x5_1 x14_3).size : Int) then ((fascineref12_trim.f kj41 ((rdOf ByteArray.empty x5_1 x14_3).extract ((ji52) : Int).toNat (rdOf ByteArray.empty x5_1 x14_3).size)).bind fun t189 => (fascineref12_Read.l2 kj41 a0 x5_1 (wrap64 (x6_1 + (wrap64 (t170 + 1)))) x11_3 x12_3 x13_3 x14_3 t185 t189 0 t178 t179 t180 x184003_3)) else (none)) else (none)) = some (r1, r2, r3, r4, r5, r6) := by first | (rw [hji52] at H; exact H) | (simp only [hji52] at H ⊢; exact H)
                           have hji52w : (IntKind.i64.wrap (t185 + 1)) = ji52 := (i64_w _).trans hji52
                           by_cases c53 : 0 ≤ (ji52)
                           ·rw [if_pos c53] at H
                            have c53b0 := eq_true c53
                            have c53b1 : decide (0 ≤ (ji52)) = true := decide_eq_true c53
                            clear c53
                            by_cases c54 : (ji52) ≤ ((rdOf ByteArray.empty x5_1 x14_3).size : Int)
                            ·rw [if_pos c54] at H
                             have c54b0 := eq_true c54
                             have c54b1 : decide ((ji52) ≤ ((rdOf ByteArray.empty x5_1 x14_3).size : Int)) = true := decide_eq_true c54
                             clear c54
                             replace H := Option.bind_eq_some_iff.mp H
                             obtain ⟨t189, A550, H⟩ := H
                             replace H : (fascineref12_Read.l2 kj41 a0 x5_1 (wrap64 (x6_1 + (wrap64 (t170 + 1)))) x11_3 x12_3 x13_3 x14_3 t185 t189 0 t178 t179 t180 x184003_3) = some (r1, r2, r3, r4, r5, r6) := H
                             have A55 := Aside0.mk A550
                             clear A550
                             have H' := Aside0.mk H
                             clear H
                             have p188 : 0 ≤ (x14_3 : Int) := of_decide_eq_true (by first | (with_reducible assumption) | assumption)
                             have q188 : x14_3 < (x5_1.length : Int) := of_decide_eq_true (by first | (with_reducible assumption) | assumption)
                             obtain ⟨ad188, e188, hx188_0⟩ := Kd.at_string (Kd.R_reads' HO_5.out).2.2 x14_3 p188 q188
                             obtain rfl : ad177 = ad188 := (by injection e188)
                             replace p188 := eq_true p188
                             replace q188 := eq_true q188
                             go_wp2_with (first | ((with_reducible refine gate_callee (f := 25) rfl ?_); refine goesL_ (some 114) rfl rfl Tryd.func25 (by kernel_rfl) rfl #[.string ((rdOf ByteArray.empty x5_1 x14_3).extract ((ji52) : Int).toNat (rdOf ByteArray.empty x5_1 x14_3).size)] rfl (by (try simp only [List.map_toArray, List.map_cons, List.map_nil]); first | done | (simp only [hji52]; rfl) | rfl | (simp only [List.length_drop, List.length_take]; rfl)) ?_; (with_reducible refine (fascineref12_trim.calls kj41 ((rdOf ByteArray.empty x5_1 x14_3).extract ((ji52) : Int).toNat (rdOf ByteArray.empty x5_1 x14_3).size) t189 _ A55.out).mono ?_); rintro e w' ⟨rfl, ⟨nd, rfl⟩⟩; refine ⟨_, rfl, ?_⟩))
                             go_loopg [17] kj41 (fun kq v17 w' => ∃ (x17_5 : Int) (x170000_5 : ByteArray) (x170001_5 : ByteArray) (x170002_5 : ByteArray) (x170003_5 : Bool), v17 = .int .i64 x17_5 ∧ Aside0 (fascineref12_Read.l2 kq a0 x5_1 (wrap64 (x6_1 + (wrap64 (t170 + 1)))) x11_3 x12_3 x13_3 x14_3 t185 t189 x17_5 t178 t179 t180 x184003_3 = some (r1, r2, r3, r4, r5, r6)) ∧ Aside0 (kq ≤ kj41) ∧ Aside0 (Kd.R Kd.string 9 w' w.heap.size (fun _ => True) (.slice (some ad177) x5_1.length co19) x5_1) ∧ Aside0 (w'.heap[gb169]? = some (.cells #[.string x170000_5, .string x170001_5, .string x170002_5, .bool x170003_5] 24 (0, 0))) ∧ Aside0 (w'.heap[gb183]? = some (.cells #[.string t178, .string t179, .string t180, .bool x184003_3] 24 (0, 0))) ∧ Aside0 (Below w.heap.size w w'))
                             case atStart => exact ⟨(0), (x170000_3), (x170001_3), (x170002_3), (x170003_3), (by first | rfl | (simp; done) | (simp [*]; done)), H', ⟨Nat.le_refl _⟩, ⟨by (with_reducible repeat (first | apply Kd.R_alloc | apply Kd.R_drewN | apply Kd.R_drew)); exact HO_5.out⟩, ⟨by (with_reducible repeat (first | refine blk_drewN ?_ _ | refine blk_drew ?_ | refine blk_alloc ?_ _)); exact BK169.out⟩, ⟨by (with_reducible repeat (first | refine blk_drewN ?_ _ | refine blk_drew ?_ | refine blk_alloc ?_ _)); exact BK183.out⟩, ⟨by repeat (first | (with_reducible first | exact HB.out | apply below_alloc | apply pw_below_drewN | apply below_drew1 | refine below_set ?_ GE169.out | refine below_set ?_ GE183.out) | exact HB.out)⟩⟩
                             case round =>
                              clear H'
                              try clear c1
                              try clear p1
                              try clear q1
                              try clear hx1
                              try clear qi1
                              try clear c2
                              try clear p2
                              try clear q2
                              try clear hx2
                              try clear c3
                              try clear c3b0
                              try clear c3b1
                              try clear c4
                              try clear c5
                              try clear c6
                              try clear c6b0
                              try clear c6b1
                              try clear p6
                              try clear c7
                              try clear c7b0
                              try clear c7b1
                              try clear c9
                              try clear c9b0
                              try clear c10
                              try clear c10b0
                              try clear c10b1
                              try clear c11
                              try clear c15
                              try clear c15b0
                              try clear p17
                              try clear q17
                              try clear hx17
                              try clear qi17
                              try clear p18
                              try clear q18
                              try clear hx18
                              try clear c20
                              try clear c20b0
                              try clear c20b1
                              try clear c22
                              try clear c22b0
                              try clear c23
                              try clear c23b0
                              try clear p24
                              try clear q24
                              try clear hx24
                              try clear c25
                              try clear c27
                              try clear c27b0
                              try clear c27b1
                              try clear c28
                              try clear c28b0
                              try clear c28b1
                              try clear c29
                              try clear c29b0
                              try clear c29b1
                              try clear c30
                              try clear c30b0
                              try clear c30b1
                              try clear c31
                              try clear c31b0
                              try clear c31b1
                              try clear c32
                              try clear c32b0
                              try clear c32b1
                              try clear c34
                              try clear c37
                              try clear c39
                              try clear c39b0
                              try clear c40
                              try clear c40b0
                              try clear c43
                              try clear c43b0
                              try clear c44
                              try clear c44b0
                              try clear c44b1
                              try clear c45
                              try clear c45b0
                              try clear c45b1
                              try clear c47
                              try clear c48
                              try clear c50
                              try clear c50b0
                              try clear c51
                              try clear c51b0
                              try clear c53
                              try clear c53b0
                              try clear c53b1
                              try clear c54
                              try clear c54b0
                              try clear c54b1
                              try clear hcz12_0
                              try clear hcz12_1
                              try clear hcz12_2
                              try clear hcz12_3
                              try clear hcz14_0
                              try clear hcz14_1
                              try clear hcz14_2
                              try clear hcz14_3
                              try clear hcz17_0
                              try clear hcz17_1
                              try clear hcz17_2
                              try clear hcz17_3
                              try clear hcz26_0
                              try clear hcz26_1
                              try clear hcz26_2
                              try clear hcz26_3
                              try clear hcz38_0
                              try clear hcz38_1
                              try clear hcz38_2
                              try clear hcz38_3
                              try clear hcz49_0
                              try clear hcz49_1
                              try clear hcz49_2
                              try clear hcz49_3
                              try clear hcz5_0
                              try clear hcz5_1
                              try clear hcz5_2
                              try clear hcz5_3
                              try clear hfz12_0
                              try clear hfz12_1
                              try clear hfz12_2
                              try clear hfz12_3
                              try clear hfz14_0
                              try clear hfz14_1
                              try clear hfz14_2
                              try clear hfz14_3
                              try clear hfz17_0
                              try clear hfz17_1
                              try clear hfz17_2
                              try clear hfz17_3
                              try clear hfz26_0
                              try clear hfz26_1
                              try clear hfz26_2
                              try clear hfz26_3
                              try clear hfz38_0
                              try clear hfz38_1
                              try clear hfz38_2
                              try clear hfz38_3
                              try clear hfz49_0
                              try clear hfz49_1
                              try clear hfz49_2
                              try clear hfz49_3
                              try clear hfz5_0
                              try clear hfz5_1
                              try clear hfz5_2
                              try clear hfz5_3
                              try clear hx177_0
                              try clear hx184_0
                              try clear hx186_0
                              try clear hx188_0
                              try clear p1
                              try clear p17
                              try clear p177
                              try clear p18
                              try clear p184
                              try clear p186
                              try clear p188
                              try clear p2
                              try clear p24
                              try clear p6
                              try clear q1
                              try clear q17
                              try clear q177
                              try clear q18
                              try clear q184
                              try clear q186
                              try clear q188
                              try clear q2
                              try clear q24
                              obtain ⟨x17_5, x170000_5, x170001_5, x170002_5, x170003_5, rfl, HA, HK5, HO_5, BK169, BK183, HB⟩ := hrel
                              cases gk with
                              | zero => exact absurd HA.out (by simp [fascineref12_Read.l2])
                              | succ k5 =>
                               have H := HA.out
                               clear HA
                               simp only [fascineref12_Read.l2] at H
                               by_cases c56 : x17_5 < (t189.size : Int)
                               ·rw [if_pos c56] at H
                                have c56b0 : decide (x17_5 < (t189.size : Int)) = true := decide_eq_true c56
                                clear c56
                                by_cases c57 : 0 ≤ x17_5
                                ·rw [if_pos c57] at H
                                 have c57b0 : decide (0 ≤ x17_5) = true := decide_eq_true c57
                                 clear c57
                                 by_cases c59 : (bt t189 x17_5) < 32
                                 ·rw [if_pos c59] at H
                                  have c59b0 : decide ((bt t189 x17_5) < 32) = true := decide_eq_true c59
                                  clear c59
                                  by_cases c61 : (bt t189 x17_5) = 9
                                  ·rw [if_pos c61] at H
                                   have c61b0 : ((bt t189 x17_5) == 9) = true := beq_iff_eq.mpr c61
                                   have c61b1 : ((bt t189 x17_5) != 9) = false := bne_eq_false_iff_eq.mpr c61
                                   clear c61
                                   by_cases c63 : (bt t189 x17_5) = 127
                                   ·rw [if_pos c63] at H
                                    have c63b0 : ((bt t189 x17_5) == 127) = true := beq_iff_eq.mpr c63
                                    have c63b1 : ((bt t189 x17_5) != 127) = false := bne_eq_false_iff_eq.mpr c63
                                    clear c63
                                    simp only [Option.some.injEq, Prod.mk.injEq] at H
                                    obtain ⟨rfl, rfl, rfl, rfl, rfl, rfl⟩ := H
                                    have p58 : 0 ≤ (x17_5 : Int) := of_decide_eq_true (by first | (with_reducible assumption) | assumption)
                                    have q58 : x17_5 < (t189.size : Int) := of_decide_eq_true (by first | (with_reducible assumption) | assumption)
                                    have hx58 := bt_at t189 x17_5
                                    replace p58 := eq_true p58
                                    replace q58 := eq_true q58
                                    have p60 : 0 ≤ (x17_5 : Int) := of_decide_eq_true (by first | (with_reducible assumption) | assumption)
                                    have q60 : x17_5 < (t189.size : Int) := of_decide_eq_true (by first | (with_reducible assumption) | assumption)
                                    have hx60 := bt_at t189 x17_5
                                    replace p60 := eq_true p60
                                    replace q60 := eq_true q60
                                    have p62 : 0 ≤ (x17_5 : Int) := of_decide_eq_true (by first | (with_reducible assumption) | assumption)
                                    have q62 : x17_5 < (t189.size : Int) := of_decide_eq_true (by first | (with_reducible assumption) | assumption)
                                    have hx62 := bt_at t189 x17_5
                                    replace p62 := eq_true p62
                                    replace q62 := eq_true q62
                                    have hnb64 := NB169_183.out
                                    have hnc64 := NB183_169.out
                                    have hcz65_0 : wr.cell? ⟨gb169, 0, none⟩ = some (.string x170000_5) := (blk_cell BK169.out 0).trans rfl
                                    have hcz65_1 : wr.cell? ⟨gb169, 1, none⟩ = some (.string x170001_5) := (blk_cell BK169.out 1).trans rfl
                                    have hcz65_2 : wr.cell? ⟨gb169, 2, none⟩ = some (.string x170002_5) := (blk_cell BK169.out 2).trans rfl
                                    have hcz65_3 : wr.cell? ⟨gb169, 3, none⟩ = some (.bool x170003_5) := (blk_cell BK169.out 3).trans rfl
                                    have hfz65_0 := blk_frozen BK169.out 0
                                    have hfz65_1 := blk_frozen BK169.out 1
                                    have hfz65_2 := blk_frozen BK169.out 2
                                    have hfz65_3 := blk_frozen BK169.out 3
                                    go_wp2
                                    refine bodyPost_ret (results_ctt rfl _ _ gb169 24 #[.string (⟨#[]⟩ : ByteArray), .string (⟨#[]⟩ : ByteArray), .string (⟨#[]⟩ : ByteArray), .bool false] (0, 0) _ rfl (by (with_reducible repeat (first | refine blk_drewN ?_ _ | refine blk_drew ?_ | refine blk_alloc ?_ _)); refine blk_put (cs := #[.string (⟨#[]⟩ : ByteArray), .string (⟨#[]⟩ : ByteArray), .string (⟨#[]⟩ : ByteArray), .bool x170003_5]) ?_ 3 _ rfl; (with_reducible repeat (first | refine blk_drewN ?_ _ | refine blk_drew ?_ | refine blk_alloc ?_ _)); refine blk_put (cs := #[.string (⟨#[]⟩ : ByteArray), .string (⟨#[]⟩ : ByteArray), .string x170002_5, .bool x170003_5]) ?_ 2 _ rfl; (with_reducible repeat (first | refine blk_drewN ?_ _ | refine blk_drew ?_ | refine blk_alloc ?_ _)); refine blk_put (cs := #[.string (⟨#[]⟩ : ByteArray), .string x170001_5, .string x170002_5, .bool x170003_5]) ?_ 1 _ rfl; (with_reducible repeat (first | refine blk_drewN ?_ _ | refine blk_drew ?_ | refine blk_alloc ?_ _)); refine blk_put (cs := #[.string x170000_5, .string x170001_5, .string x170002_5, .bool x170003_5]) ?_ 0 _ rfl; (with_reducible repeat (first | refine blk_drewN ?_ _ | refine blk_drew ?_ | refine blk_alloc ?_ _)); exact BK169.out) Tryd.underlying24 rfl (by kernel_rfl)) rfl ?_
                                    exact ⟨by first | rfl | (simp [errW_none, errW_some] <;> rfl) | (simp only [← hji52]; first | rfl | (simp [errW_none, errW_some] <;> rfl)) | (simp [*, errW_none, errW_some] <;> rfl), by repeat (first | (with_reducible first | exact HB.out | apply below_alloc | apply pw_below_drewN | apply below_drew1 | refine below_set ?_ GE169.out | refine below_set ?_ GE183.out) | exact HB.out)⟩
                                   ·rw [if_neg c63] at H
                                    have c63b0 : ((bt t189 x17_5) == 127) = false := beq_eq_false_iff_ne.mpr c63
                                    have c63b1 : ((bt t189 x17_5) != 127) = true := bne_iff_ne.mpr c63
                                    have H' := Aside0.mk H
                                    clear H
                                    have p58 : 0 ≤ (x17_5 : Int) := of_decide_eq_true (by first | (with_reducible assumption) | assumption)
                                    have q58 : x17_5 < (t189.size : Int) := of_decide_eq_true (by first | (with_reducible assumption) | assumption)
                                    have hx58 := bt_at t189 x17_5
                                    replace p58 := eq_true p58
                                    replace q58 := eq_true q58
                                    have p60 : 0 ≤ (x17_5 : Int) := of_decide_eq_true (by first | (with_reducible assumption) | assumption)
                                    have q60 : x17_5 < (t189.size : Int) := of_decide_eq_true (by first | (with_reducible assumption) | assumption)
                                    have hx60 := bt_at t189 x17_5
                                    replace p60 := eq_true p60
                                    replace q60 := eq_true q60
                                    have p62 : 0 ≤ (x17_5 : Int) := of_decide_eq_true (by first | (with_reducible assumption) | assumption)
                                    have q62 : x17_5 < (t189.size : Int) := of_decide_eq_true (by first | (with_reducible assumption) | assumption)
                                    have hx62 := bt_at t189 x17_5
                                    replace p62 := eq_true p62
                                    replace q62 := eq_true q62
                                    go_wp2
                                    go_roundg k5
                                    case measure => have := HK1.out; have := HJ17.out; have := HK3.out; have := HJ41.out; have := HK5.out; omega
                                    case rel => exact ⟨(wrap64 (x17_5 + 1)), (x170000_5), (x170001_5), (x170002_5), (x170003_5), (by first | rfl | (simp; done) | (simp [*]; done)), H', ⟨by have := HK1.out; have := HJ17.out; have := HK3.out; have := HJ41.out; have := HK5.out; omega⟩, ⟨by (with_reducible repeat (first | apply Kd.R_alloc | apply Kd.R_drewN | apply Kd.R_drew)); exact HO_5.out⟩, ⟨by (with_reducible repeat (first | refine blk_drewN ?_ _ | refine blk_drew ?_ | refine blk_alloc ?_ _)); exact BK169.out⟩, ⟨by (with_reducible repeat (first | refine blk_drewN ?_ _ | refine blk_drew ?_ | refine blk_alloc ?_ _)); exact BK183.out⟩, ⟨by repeat (first | (with_reducible first | exact HB.out | apply below_alloc | apply pw_below_drewN | apply below_drew1 | refine below_set ?_ GE169.out | refine below_set ?_ GE183.out) | exact HB.out)⟩⟩
                                  ·rw [if_neg c61] at H
                                   have c61b0 : ((bt t189 x17_5) == 9) = false := beq_eq_false_iff_ne.mpr c61
                                   have c61b1 : ((bt t189 x17_5) != 9) = true := bne_iff_ne.mpr c61
                                   simp only [Option.some.injEq, Prod.mk.injEq] at H
                                   obtain ⟨rfl, rfl, rfl, rfl, rfl, rfl⟩ := H
                                   have p58 : 0 ≤ (x17_5 : Int) := of_decide_eq_true (by first | (with_reducible assumption) | assumption)
                                   have q58 : x17_5 < (t189.size : Int) := of_decide_eq_true (by first | (with_reducible assumption) | assumption)
                                   have hx58 := bt_at t189 x17_5
                                   replace p58 := eq_true p58
                                   replace q58 := eq_true q58
                                   have p60 : 0 ≤ (x17_5 : Int) := of_decide_eq_true (by first | (with_reducible assumption) | assumption)
                                   have q60 : x17_5 < (t189.size : Int) := of_decide_eq_true (by first | (with_reducible assumption) | assumption)
                                   have hx60 := bt_at t189 x17_5
                                   replace p60 := eq_true p60
                                   replace q60 := eq_true q60
                                   have hnb66 := NB169_183.out
                                   have hnc66 := NB183_169.out
                                   have hcz67_0 : wr.cell? ⟨gb169, 0, none⟩ = some (.string x170000_5) := (blk_cell BK169.out 0).trans rfl
                                   have hcz67_1 : wr.cell? ⟨gb169, 1, none⟩ = some (.string x170001_5) := (blk_cell BK169.out 1).trans rfl
                                   have hcz67_2 : wr.cell? ⟨gb169, 2, none⟩ = some (.string x170002_5) := (blk_cell BK169.out 2).trans rfl
                                   have hcz67_3 : wr.cell? ⟨gb169, 3, none⟩ = some (.bool x170003_5) := (blk_cell BK169.out 3).trans rfl
                                   have hfz67_0 := blk_frozen BK169.out 0
                                   have hfz67_1 := blk_frozen BK169.out 1
                                   have hfz67_2 := blk_frozen BK169.out 2
                                   have hfz67_3 := blk_frozen BK169.out 3
                                   go_wp2
                                   refine bodyPost_ret (results_ctt rfl _ _ gb169 24 #[.string (⟨#[]⟩ : ByteArray), .string (⟨#[]⟩ : ByteArray), .string (⟨#[]⟩ : ByteArray), .bool false] (0, 0) _ rfl (by (with_reducible repeat (first | refine blk_drewN ?_ _ | refine blk_drew ?_ | refine blk_alloc ?_ _)); refine blk_put (cs := #[.string (⟨#[]⟩ : ByteArray), .string (⟨#[]⟩ : ByteArray), .string (⟨#[]⟩ : ByteArray), .bool x170003_5]) ?_ 3 _ rfl; (with_reducible repeat (first | refine blk_drewN ?_ _ | refine blk_drew ?_ | refine blk_alloc ?_ _)); refine blk_put (cs := #[.string (⟨#[]⟩ : ByteArray), .string (⟨#[]⟩ : ByteArray), .string x170002_5, .bool x170003_5]) ?_ 2 _ rfl; (with_reducible repeat (first | refine blk_drewN ?_ _ | refine blk_drew ?_ | refine blk_alloc ?_ _)); refine blk_put (cs := #[.string (⟨#[]⟩ : ByteArray), .string x170001_5, .string x170002_5, .bool x170003_5]) ?_ 1 _ rfl; (with_reducible repeat (first | refine blk_drewN ?_ _ | refine blk_drew ?_ | refine blk_alloc ?_ _)); refine blk_put (cs := #[.string x170000_5, .string x170001_5, .string x170002_5, .bool x170003_5]) ?_ 0 _ rfl; (with_reducible repeat (first | refine blk_drewN ?_ _ | refine blk_drew ?_ | refine blk_alloc ?_ _)); exact BK169.out) Tryd.underlying24 rfl (by kernel_rfl)) rfl ?_
                                   exact ⟨by first | rfl | (simp [errW_none, errW_some] <;> rfl) | (simp only [← hji52]; first | rfl | (simp [errW_none, errW_some] <;> rfl)) | (simp [*, errW_none, errW_some] <;> rfl), by repeat (first | (with_reducible first | exact HB.out | apply below_alloc | apply pw_below_drewN | apply below_drew1 | refine below_set ?_ GE169.out | refine below_set ?_ GE183.out) | exact HB.out)⟩
                                 ·rw [if_neg c59] at H
                                  have c59b0 : decide ((bt t189 x17_5) < 32) = false := decide_eq_false c59
                                  clear c59
                                  by_cases c69 : (bt t189 x17_5) = 127
                                  ·rw [if_pos c69] at H
                                   have c69b0 : ((bt t189 x17_5) == 127) = true := beq_iff_eq.mpr c69
                                   have c69b1 : ((bt t189 x17_5) != 127) = false := bne_eq_false_iff_eq.mpr c69
                                   clear c69
                                   simp only [Option.some.injEq, Prod.mk.injEq] at H
                                   obtain ⟨rfl, rfl, rfl, rfl, rfl, rfl⟩ := H
                                   have p58 : 0 ≤ (x17_5 : Int) := of_decide_eq_true (by first | (with_reducible assumption) | assumption)
                                   have q58 : x17_5 < (t189.size : Int) := of_decide_eq_true (by first | (with_reducible assumption) | assumption)
                                   have hx58 := bt_at t189 x17_5
                                   replace p58 := eq_true p58
                                   replace q58 := eq_true q58
                                   have p68 : 0 ≤ (x17_5 : Int) := of_decide_eq_true (by first | (with_reducible assumption) | assumption)
                                   have q68 : x17_5 < (t189.size : Int) := of_decide_eq_true (by first | (with_reducible assumption) | assumption)
                                   have hx68 := bt_at t189 x17_5
                                   replace p68 := eq_true p68
                                   replace q68 := eq_true q68
                                   have hnb70 := NB169_183.out
                                   have hnc70 := NB183_169.out
                                   have hcz71_0 : wr.cell? ⟨gb169, 0, none⟩ = some (.string x170000_5) := (blk_cell BK169.out 0).trans rfl
                                   have hcz71_1 : wr.cell? ⟨gb169, 1, none⟩ = some (.string x170001_5) := (blk_cell BK169.out 1).trans rfl
                                   have hcz71_2 : wr.cell? ⟨gb169, 2, none⟩ = some (.string x170002_5) := (blk_cell BK169.out 2).trans rfl
                                   have hcz71_3 : wr.cell? ⟨gb169, 3, none⟩ = some (.bool x170003_5) := (blk_cell BK169.out 3).trans rfl
                                   have hfz71_0 := blk_frozen BK169.out 0
                                   have hfz71_1 := blk_frozen BK169.out 1
                                   have hfz71_2 := blk_frozen BK169.out 2
                                   have hfz71_3 := blk_frozen BK169.out 3
                                   go_wp2
                                   refine bodyPost_ret (results_ctt rfl _ _ gb169 24 #[.string (⟨#[]⟩ : ByteArray), .string (⟨#[]⟩ : ByteArray), .string (⟨#[]⟩ : ByteArray), .bool false] (0, 0) _ rfl (by (with_reducible repeat (first | refine blk_drewN ?_ _ | refine blk_drew ?_ | refine blk_alloc ?_ _)); refine blk_put (cs := #[.string (⟨#[]⟩ : ByteArray), .string (⟨#[]⟩ : ByteArray), .string (⟨#[]⟩ : ByteArray), .bool x170003_5]) ?_ 3 _ rfl; (with_reducible repeat (first | refine blk_drewN ?_ _ | refine blk_drew ?_ | refine blk_alloc ?_ _)); refine blk_put (cs := #[.string (⟨#[]⟩ : ByteArray), .string (⟨#[]⟩ : ByteArray), .string x170002_5, .bool x170003_5]) ?_ 2 _ rfl; (with_reducible repeat (first | refine blk_drewN ?_ _ | refine blk_drew ?_ | refine blk_alloc ?_ _)); refine blk_put (cs := #[.string (⟨#[]⟩ : ByteArray), .string x170001_5, .string x170002_5, .bool x170003_5]) ?_ 1 _ rfl; (with_reducible repeat (first | refine blk_drewN ?_ _ | refine blk_drew ?_ | refine blk_alloc ?_ _)); refine blk_put (cs := #[.string x170000_5, .string x170001_5, .string x170002_5, .bool x170003_5]) ?_ 0 _ rfl; (with_reducible repeat (first | refine blk_drewN ?_ _ | refine blk_drew ?_ | refine blk_alloc ?_ _)); exact BK169.out) Tryd.underlying24 rfl (by kernel_rfl)) rfl ?_
                                   exact ⟨by first | rfl | (simp [errW_none, errW_some] <;> rfl) | (simp only [← hji52]; first | rfl | (simp [errW_none, errW_some] <;> rfl)) | (simp [*, errW_none, errW_some] <;> rfl), by repeat (first | (with_reducible first | exact HB.out | apply below_alloc | apply pw_below_drewN | apply below_drew1 | refine below_set ?_ GE169.out | refine below_set ?_ GE183.out) | exact HB.out)⟩
                                  ·rw [if_neg c69] at H
                                   have c69b0 : ((bt t189 x17_5) == 127) = false := beq_eq_false_iff_ne.mpr c69
                                   have c69b1 : ((bt t189 x17_5) != 127) = true := bne_iff_ne.mpr c69
                                   have H' := Aside0.mk H
                                   clear H
                                   have p58 : 0 ≤ (x17_5 : Int) := of_decide_eq_true (by first | (with_reducible assumption) | assumption)
                                   have q58 : x17_5 < (t189.size : Int) := of_decide_eq_true (by first | (with_reducible assumption) | assumption)
                                   have hx58 := bt_at t189 x17_5
                                   replace p58 := eq_true p58
                                   replace q58 := eq_true q58
                                   have p68 : 0 ≤ (x17_5 : Int) := of_decide_eq_true (by first | (with_reducible assumption) | assumption)
                                   have q68 : x17_5 < (t189.size : Int) := of_decide_eq_true (by first | (with_reducible assumption) | assumption)
                                   have hx68 := bt_at t189 x17_5
                                   replace p68 := eq_true p68
                                   replace q68 := eq_true q68
                                   go_wp2
                                   go_roundg k5
                                   case measure => have := HK1.out; have := HJ17.out; have := HK3.out; have := HJ41.out; have := HK5.out; omega
                                   case rel => exact ⟨(wrap64 (x17_5 + 1)), (x170000_5), (x170001_5), (x170002_5), (x170003_5), (by first | rfl | (simp; done) | (simp [*]; done)), H', ⟨by have := HK1.out; have := HJ17.out; have := HK3.out; have := HJ41.out; have := HK5.out; omega⟩, ⟨by (with_reducible repeat (first | apply Kd.R_alloc | apply Kd.R_drewN | apply Kd.R_drew)); exact HO_5.out⟩, ⟨by (with_reducible repeat (first | refine blk_drewN ?_ _ | refine blk_drew ?_ | refine blk_alloc ?_ _)); exact BK169.out⟩, ⟨by (with_reducible repeat (first | refine blk_drewN ?_ _ | refine blk_drew ?_ | refine blk_alloc ?_ _)); exact BK183.out⟩, ⟨by repeat (first | (with_reducible first | exact HB.out | apply below_alloc | apply pw_below_drewN | apply below_drew1 | refine below_set ?_ GE169.out | refine below_set ?_ GE183.out) | exact HB.out)⟩⟩
                                ·rw [if_neg c57] at H
                                 exact absurd H (by simp)
                               ·rw [if_neg c56] at H
                                have c56b0 : decide (x17_5 < (t189.size : Int)) = false := decide_eq_false c56
                                clear c56
                                by_cases c72 : 0 ≤ x14_3
                                ·rw [if_pos c72] at H
                                 have c72b0 : decide (0 ≤ x14_3) = true := decide_eq_true c72
                                 clear c72
                                 by_cases c73 : x14_3 < (x5_1.length : Int)
                                 ·rw [if_pos c73] at H
                                  have c73b0 : decide (x14_3 < (x5_1.length : Int)) = true := decide_eq_true c73
                                  clear c73
                                  by_cases c74 : 0 ≤ t185
                                  ·rw [if_pos c74] at H
                                   have c74b0 := eq_true c74
                                   have c74b1 : decide (0 ≤ t185) = true := decide_eq_true c74
                                   clear c74
                                   by_cases c75 : t185 ≤ ((rdOf ByteArray.empty x5_1 x14_3).size : Int)
                                   ·rw [if_pos c75] at H
                                    have c75b0 := eq_true c75
                                    have c75b1 : decide (t185 ≤ ((rdOf ByteArray.empty x5_1 x14_3).size : Int)) = true := decide_eq_true c75
                                    clear c75
                                    replace H := Option.bind_eq_some_iff.mp H
                                    obtain ⟨t191, A760, H⟩ := H
                                    replace H : (if t191.toList = ([104, 111, 115, 116] : List UInt8) then (fascineref12_Read.l1 k5 a0 x5_1 (wrap64 (x6_1 + (wrap64 (t170 + 1)))) x11_3 (wrap64 (x12_3 + 1)) x13_3 (wrap64 (x14_3 + 1)) t178 t179 t180 x184003_3) else (if t191.toList = ([99, 111, 110, 116, 101, 110, 116, 45, 108, 101, 110, 103, 116, 104] : List UInt8) then ((fascineref12_length.f k5 t189).bind fun t192 => (if t192 < 0 then (some ((⟨#[]⟩ : ByteArray), (⟨#[]⟩ : ByteArray), (⟨#[]⟩ : ByteArray), false, 0, 400)) else (fascineref12_Read.l1 k5 a0 x5_1 (wrap64 (x6_1 + (wrap64 (t170 + 1)))) t192 x12_3 (wrap64 (x13_3 + 1)) (wrap64 (x14_3 + 1)) t178 t179 t180 x184003_3))) else (if t191.toList = ([116, 114, 97, 110, 115, 102, 101, 114, 45, 101, 110, 99, 111, 100, 105, 110, 103] : List UInt8) then (some ((⟨#[]⟩ : ByteArray), (⟨#[]⟩ : ByteArray), (⟨#[]⟩ : ByteArray), false, 0, 400)) else (if t191.toList = ([99, 111, 110, 110, 101, 99, 116, 105, 111, 110] : List UInt8) then ((fascineref12_low.f t189).bind fun t193 => (if t193.toList = ([99, 108, 111, 115, 101] : List UInt8) then (fascineref12_Read.l1 k5 a0 x5_1 (wrap64 (x6_1 + (wrap64 (t170 + 1)))) x11_3 x12_3 x13_3 (wrap64 (x14_3 + 1)) t178 t179 t180 true) else (fascineref12_Read.l1 k5 a0 x5_1 (wrap64 (x6_1 + (wrap64 (t170 + 1)))) x11_3 x12_3 x13_3 (wrap64 (x14_3 + 1)) t178 t179 t180 x184003_3))) else (fascineref12_Read.l1 k5 a0 x5_1 (wrap64 (x6_1 + (wrap64 (t170 + 1)))) x11_3 x12_3 x13_3 (wrap64 (x14_3 + 1)) t178 t179 t180 x184003_3))))) = some (r1, r2, r3, r4, r5, r6) := H
                                    have A76 := Aside0.mk A760
                                    clear A760
                                    by_cases c77 : t191.toList = ([104, 111, 115, 116] : List UInt8)
                                    ·rw [if_pos c77] at H
                                     have c77b0 : (t191.toList == ([104, 111, 115, 116] : List UInt8)) = true := beq_iff_eq.mpr c77
                                     have c77b1 : (t191.toList != ([104, 111, 115, 116] : List UInt8)) = false := bne_eq_false_iff_eq.mpr c77
                                     clear c77
                                     have H' := Aside0.mk H
                                     clear H
                                     have p190 : 0 ≤ (x14_3 : Int) := of_decide_eq_true (by first | (with_reducible assumption) | assumption)
                                     have q190 : x14_3 < (x5_1.length : Int) := of_decide_eq_true (by first | (with_reducible assumption) | assumption)
                                     obtain ⟨ad190, e190, hx190_0⟩ := Kd.at_string (Kd.R_reads' HO_5.out).2.2 x14_3 p190 q190
                                     obtain rfl : ad177 = ad190 := (by injection e190)
                                     replace p190 := eq_true p190
                                     replace q190 := eq_true q190
                                     go_wp2_with (first | ((with_reducible refine gate_callee (f := 26) rfl ?_); refine goesL_ (some 144) rfl rfl Tryd.func26 (by kernel_rfl) rfl #[.string ((rdOf ByteArray.empty x5_1 x14_3).extract 0 (t185 : Int).toNat)] rfl (by (try simp only [List.map_toArray, List.map_cons, List.map_nil]); first | done | rfl | (simp only [List.length_drop, List.length_take]; rfl)) ?_; (with_reducible refine (fascineref12_low.calls ((rdOf ByteArray.empty x5_1 x14_3).extract 0 (t185 : Int).toNat) t191 _ A76.out).mono ?_); rintro e w78 ⟨rfl, hb⟩; refine ⟨_, rfl, ?_⟩; have n0_ := Aside0.mk (Kd.R_below (by (with_reducible repeat (first | apply Kd.R_alloc | apply Kd.R_drewN | apply Kd.R_drew)); exact HO_5.out) hb); have n1_ := Aside0.mk (blk_below (g := gb169) (o := .cells #[.string x170000_5, .string x170001_5, .string x170002_5, .bool x170003_5] 24 (0, 0)) (by (with_reducible repeat (first | refine blk_drewN ?_ _ | refine blk_drew ?_ | refine blk_alloc ?_ _)); exact BK169.out) hb); have n2_ := Aside0.mk (blk_below (g := gb183) (o := .cells #[.string t178, .string t179, .string t180, .bool x184003_3] 24 (0, 0)) (by (with_reducible repeat (first | refine blk_drewN ?_ _ | refine blk_drew ?_ | refine blk_alloc ?_ _)); exact BK183.out) hb); have n3_ := Aside0.mk (below_step (by repeat (first | (with_reducible first | exact HB.out | apply below_alloc | apply pw_below_drewN | apply below_drew1 | refine below_set ?_ GE169.out | refine below_set ?_ GE183.out) | exact HB.out)) hb); clear HO_5; clear BK169; clear BK183; clear HB; have HO_5 := n0_; have BK169 := n1_; have BK183 := n2_; have HB := n3_; clear n0_ n1_ n2_ n3_; (try clear hb); (try clear hb2); (try clear hk); (try clear hi)))
                                     go_roundg k5
                                     case measure => have := HK1.out; have := HJ17.out; have := HK3.out; have := HJ41.out; have := HK5.out; omega
                                     case rel => exact ⟨(x11_3), (wrap64 (x12_3 + 1)), (x13_3), (wrap64 (x14_3 + 1)), (x170000_5), (x170001_5), (x170002_5), (x170003_5), (x184003_3), (by first | rfl | (simp; done) | (simp [*]; done)), (by first | rfl | (simp; done) | (simp [*]; done)), (by first | rfl | (simp; done) | (simp [*]; done)), (by first | rfl | (simp; done) | (simp [*]; done)), H', ⟨by have := HK1.out; have := HJ17.out; have := HK3.out; have := HJ41.out; have := HK5.out; omega⟩, ⟨by (with_reducible repeat (first | apply Kd.R_alloc | apply Kd.R_drewN | apply Kd.R_drew)); exact HO_5.out⟩, ⟨by (with_reducible repeat (first | refine blk_drewN ?_ _ | refine blk_drew ?_ | refine blk_alloc ?_ _)); exact BK169.out⟩, ⟨by (with_reducible repeat (first | refine blk_drewN ?_ _ | refine blk_drew ?_ | refine blk_alloc ?_ _)); exact BK183.out⟩, ⟨by repeat (first | (with_reducible first | exact HB.out | apply below_alloc | apply pw_below_drewN | apply below_drew1 | refine below_set ?_ GE169.out | refine below_set ?_ GE183.out) | exact HB.out)⟩⟩
                                    ·rw [if_neg c77] at H
                                     have c77b0 : (t191.toList == ([104, 111, 115, 116] : List UInt8)) = false := beq_eq_false_iff_ne.mpr c77
                                     have c77b1 : (t191.toList != ([104, 111, 115, 116] : List UInt8)) = true := bne_iff_ne.mpr c77
                                     by_cases c79 : t191.toList = ([99, 111, 110, 116, 101, 110, 116, 45, 108, 101, 110, 103, 116, 104] : List UInt8)
                                     ·rw [if_pos c79] at H
                                      have c79b0 : (t191.toList == ([99, 111, 110, 116, 101, 110, 116, 45, 108, 101, 110, 103, 116, 104] : List UInt8)) = true := beq_iff_eq.mpr c79
                                      have c79b1 : (t191.toList != ([99, 111, 110, 116, 101, 110, 116, 45, 108, 101, 110, 103, 116, 104] : List UInt8)) = false := bne_eq_false_iff_eq.mpr c79
                                      clear c79
                                      replace H := Option.bind_eq_some_iff.mp H
                                      obtain ⟨t192, A800, H⟩ := H
                                      replace H : (if t192 < 0 then (some ((⟨#[]⟩ : ByteArray), (⟨#[]⟩ : ByteArray), (⟨#[]⟩ : ByteArray), false, 0, 400)) else (fascineref12_Read.l1 k5 a0 x5_1 (wrap64 (x6_1 + (wrap64 (t170 + 1)))) t192 x12_3 (wrap64 (x13_3 + 1)) (wrap64 (x14_3 + 1)) t178 t179 t180 x184003_3)) = some (r1, r2, r3, r4, r5, r6) := H
                                      have A80 := Aside0.mk A800
                                      clear A800
                                      by_cases c81 : t192 < 0
                                      ·rw [if_pos c81] at H
                                       have c81b0 : decide (t192 < 0) = true := decide_eq_true c81
                                       clear c81
                                       simp only [Option.some.injEq, Prod.mk.injEq] at H
                                       obtain ⟨rfl, rfl, rfl, rfl, rfl, rfl⟩ := H
                                       have p190 : 0 ≤ (x14_3 : Int) := of_decide_eq_true (by first | (with_reducible assumption) | assumption)
                                       have q190 : x14_3 < (x5_1.length : Int) := of_decide_eq_true (by first | (with_reducible assumption) | assumption)
                                       obtain ⟨ad190, e190, hx190_0⟩ := Kd.at_string (Kd.R_reads' HO_5.out).2.2 x14_3 p190 q190
                                       obtain rfl : ad177 = ad190 := (by injection e190)
                                       replace p190 := eq_true p190
                                       replace q190 := eq_true q190
                                       go_wp2_with (first | ((with_reducible refine gate_callee (f := 26) rfl ?_); refine goesL_ (some 144) rfl rfl Tryd.func26 (by kernel_rfl) rfl #[.string ((rdOf ByteArray.empty x5_1 x14_3).extract 0 (t185 : Int).toNat)] rfl (by (try simp only [List.map_toArray, List.map_cons, List.map_nil]); first | done | rfl | (simp only [List.length_drop, List.length_take]; rfl)) ?_; (with_reducible refine (fascineref12_low.calls ((rdOf ByteArray.empty x5_1 x14_3).extract 0 (t185 : Int).toNat) t191 _ A76.out).mono ?_); rintro e w82 ⟨rfl, hb⟩; refine ⟨_, rfl, ?_⟩; have n0_ := Aside0.mk (Kd.R_below (by (with_reducible repeat (first | apply Kd.R_alloc | apply Kd.R_drewN | apply Kd.R_drew)); exact HO_5.out) hb); have n1_ := Aside0.mk (blk_below (g := gb169) (o := .cells #[.string x170000_5, .string x170001_5, .string x170002_5, .bool x170003_5] 24 (0, 0)) (by (with_reducible repeat (first | refine blk_drewN ?_ _ | refine blk_drew ?_ | refine blk_alloc ?_ _)); exact BK169.out) hb); have n2_ := Aside0.mk (blk_below (g := gb183) (o := .cells #[.string t178, .string t179, .string t180, .bool x184003_3] 24 (0, 0)) (by (with_reducible repeat (first | refine blk_drewN ?_ _ | refine blk_drew ?_ | refine blk_alloc ?_ _)); exact BK183.out) hb); have n3_ := Aside0.mk (below_step (by repeat (first | (with_reducible first | exact HB.out | apply below_alloc | apply pw_below_drewN | apply below_drew1 | refine below_set ?_ GE169.out | refine below_set ?_ GE183.out) | exact HB.out)) hb); clear HO_5; clear BK169; clear BK183; clear HB; have HO_5 := n0_; have BK169 := n1_; have BK183 := n2_; have HB := n3_; clear n0_ n1_ n2_ n3_; (try clear hb); (try clear hb2); (try clear hk); (try clear hi)) | ((with_reducible refine gate_callee (f := 27) rfl ?_); refine goesL_ (some 152) rfl rfl Tryd.func27 (by kernel_rfl) rfl #[.string t189] rfl (by (try simp only [List.map_toArray, List.map_cons, List.map_nil]); first | done | rfl | (simp only [List.length_drop, List.length_take]; rfl)) ?_; (with_reducible refine (fascineref12_length.calls k5 t189 t192 _ A80.out).mono ?_); rintro e w' ⟨rfl, ⟨nd, rfl⟩⟩; refine ⟨_, rfl, ?_⟩; (try (rw [drewN_self w82]; generalize hq_ : World.drewN w82 _ = w82; have n0_ : Aside0 (Kd.R Kd.string 9 w82 w.heap.size (fun _ => True) (.slice (some ad177) x5_1.length co19) x5_1) := ⟨by rw [← hq_]; exact (by (with_reducible repeat (first | apply Kd.R_alloc | apply Kd.R_drewN | apply Kd.R_drew)); exact HO_5.out)⟩; have n1_ : Aside0 (w82.heap[gb169]? = some (.cells #[.string x170000_5, .string x170001_5, .string x170002_5, .bool x170003_5] 24 (0, 0))) := ⟨by rw [← hq_]; exact (by (with_reducible repeat (first | refine blk_drewN ?_ _ | refine blk_drew ?_ | refine blk_alloc ?_ _)); exact BK169.out)⟩; have n2_ : Aside0 (w82.heap[gb183]? = some (.cells #[.string t178, .string t179, .string t180, .bool x184003_3] 24 (0, 0))) := ⟨by rw [← hq_]; exact (by (with_reducible repeat (first | refine blk_drewN ?_ _ | refine blk_drew ?_ | refine blk_alloc ?_ _)); exact BK183.out)⟩; have n3_ : Aside0 (Below w.heap.size w w82) := ⟨by rw [← hq_]; exact (by repeat (first | (with_reducible first | exact HB.out | apply below_alloc | apply pw_below_drewN | apply below_drew1 | refine below_set ?_ GE169.out | refine below_set ?_ GE183.out) | exact HB.out))⟩; clear HO_5 BK169 BK183 HB hq_; have HO_5 := n0_; have BK169 := n1_; have BK183 := n2_; have HB := n3_; clear n0_ n1_ n2_ n3_)); have hnb83 := NB169_183.out; have hnc83 := NB183_169.out; have hcz84_0 : w82.cell? ⟨gb169, 0, none⟩ = some (.string x170000_5) := (blk_cell BK169.out 0).trans rfl; have hcz84_1 : w82.cell? ⟨gb169, 1, none⟩ = some (.string x170001_5) := (blk_cell BK169.out 1).trans rfl; have hcz84_2 : w82.cell? ⟨gb169, 2, none⟩ = some (.string x170002_5) := (blk_cell BK169.out 2).trans rfl; have hcz84_3 : w82.cell? ⟨gb169, 3, none⟩ = some (.bool x170003_5) := (blk_cell BK169.out 3).trans rfl; have hfz84_0 := blk_frozen BK169.out 0; have hfz84_1 := blk_frozen BK169.out 1; have hfz84_2 := blk_frozen BK169.out 2; have hfz84_3 := blk_frozen BK169.out 3))
                                       refine bodyPost_ret (results_ctt rfl _ _ gb169 24 #[.string (⟨#[]⟩ : ByteArray), .string (⟨#[]⟩ : ByteArray), .string (⟨#[]⟩ : ByteArray), .bool false] (0, 0) _ rfl (by (with_reducible repeat (first | refine blk_drewN ?_ _ | refine blk_drew ?_ | refine blk_alloc ?_ _)); refine blk_put (cs := #[.string (⟨#[]⟩ : ByteArray), .string (⟨#[]⟩ : ByteArray), .string (⟨#[]⟩ : ByteArray), .bool x170003_5]) ?_ 3 _ rfl; (with_reducible repeat (first | refine blk_drewN ?_ _ | refine blk_drew ?_ | refine blk_alloc ?_ _)); refine blk_put (cs := #[.string (⟨#[]⟩ : ByteArray), .string (⟨#[]⟩ : ByteArray), .string x170002_5, .bool x170003_5]) ?_ 2 _ rfl; (with_reducible repeat (first | refine blk_drewN ?_ _ | refine blk_drew ?_ | refine blk_alloc ?_ _)); refine blk_put (cs := #[.string (⟨#[]⟩ : ByteArray), .string x170001_5, .string x170002_5, .bool x170003_5]) ?_ 1 _ rfl; (with_reducible repeat (first | refine blk_drewN ?_ _ | refine blk_drew ?_ | refine blk_alloc ?_ _)); refine blk_put (cs := #[.string x170000_5, .string x170001_5, .string x170002_5, .bool x170003_5]) ?_ 0 _ rfl; (with_reducible repeat (first | refine blk_drewN ?_ _ | refine blk_drew ?_ | refine blk_alloc ?_ _)); exact BK169.out) Tryd.underlying24 rfl (by kernel_rfl)) rfl ?_
                                       exact ⟨by first | rfl | (simp [errW_none, errW_some] <;> rfl) | (simp only [← hji52]; first | rfl | (simp [errW_none, errW_some] <;> rfl)) | (simp [*, errW_none, errW_some] <;> rfl), by repeat (first | (with_reducible first | exact HB.out | apply below_alloc | apply pw_below_drewN | apply below_drew1 | refine below_set ?_ GE169.out | refine below_set ?_ GE183.out) | exact HB.out)⟩
                                      ·rw [if_neg c81] at H
                                       have c81b0 : decide (t192 < 0) = false := decide_eq_false c81
                                       clear c81
                                       have H' := Aside0.mk H
                                       clear H
                                       have p190 : 0 ≤ (x14_3 : Int) := of_decide_eq_true (by first | (with_reducible assumption) | assumption)
                                       have q190 : x14_3 < (x5_1.length : Int) := of_decide_eq_true (by first | (with_reducible assumption) | assumption)
                                       obtain ⟨ad190, e190, hx190_0⟩ := Kd.at_string (Kd.R_reads' HO_5.out).2.2 x14_3 p190 q190
                                       obtain rfl : ad177 = ad190 := (by injection e190)
                                       replace p190 := eq_true p190
                                       replace q190 := eq_true q190
                                       go_wp2_with (first | ((with_reducible refine gate_callee (f := 26) rfl ?_); refine goesL_ (some 144) rfl rfl Tryd.func26 (by kernel_rfl) rfl #[.string ((rdOf ByteArray.empty x5_1 x14_3).extract 0 (t185 : Int).toNat)] rfl (by (try simp only [List.map_toArray, List.map_cons, List.map_nil]); first | done | rfl | (simp only [List.length_drop, List.length_take]; rfl)) ?_; (with_reducible refine (fascineref12_low.calls ((rdOf ByteArray.empty x5_1 x14_3).extract 0 (t185 : Int).toNat) t191 _ A76.out).mono ?_); rintro e w85 ⟨rfl, hb⟩; refine ⟨_, rfl, ?_⟩; have n0_ := Aside0.mk (Kd.R_below (by (with_reducible repeat (first | apply Kd.R_alloc | apply Kd.R_drewN | apply Kd.R_drew)); exact HO_5.out) hb); have n1_ := Aside0.mk (blk_below (g := gb169) (o := .cells #[.string x170000_5, .string x170001_5, .string x170002_5, .bool x170003_5] 24 (0, 0)) (by (with_reducible repeat (first | refine blk_drewN ?_ _ | refine blk_drew ?_ | refine blk_alloc ?_ _)); exact BK169.out) hb); have n2_ := Aside0.mk (blk_below (g := gb183) (o := .cells #[.string t178, .string t179, .string t180, .bool x184003_3] 24 (0, 0)) (by (with_reducible repeat (first | refine blk_drewN ?_ _ | refine blk_drew ?_ | refine blk_alloc ?_ _)); exact BK183.out) hb); have n3_ := Aside0.mk (below_step (by repeat (first | (with_reducible first | exact HB.out | apply below_alloc | apply pw_below_drewN | apply below_drew1 | refine below_set ?_ GE169.out | refine below_set ?_ GE183.out) | exact HB.out)) hb); clear HO_5; clear BK169; clear BK183; clear HB; have HO_5 := n0_; have BK169 := n1_; have BK183 := n2_; have HB := n3_; clear n0_ n1_ n2_ n3_; (try clear hb); (try clear hb2); (try clear hk); (try clear hi)) | ((with_reducible refine gate_callee (f := 27) rfl ?_); refine goesL_ (some 152) rfl rfl Tryd.func27 (by kernel_rfl) rfl #[.string t189] rfl (by (try simp only [List.map_toArray, List.map_cons, List.map_nil]); first | done | rfl | (simp only [List.length_drop, List.length_take]; rfl)) ?_; (with_reducible refine (fascineref12_length.calls k5 t189 t192 _ A80.out).mono ?_); rintro e w' ⟨rfl, ⟨nd, rfl⟩⟩; refine ⟨_, rfl, ?_⟩))
                                       go_roundg k5
                                       case measure => have := HK1.out; have := HJ17.out; have := HK3.out; have := HJ41.out; have := HK5.out; omega
                                       case rel => exact ⟨(t192), (x12_3), (wrap64 (x13_3 + 1)), (wrap64 (x14_3 + 1)), (x170000_5), (x170001_5), (x170002_5), (x170003_5), (x184003_3), (by first | rfl | (simp; done) | (simp [*]; done)), (by first | rfl | (simp; done) | (simp [*]; done)), (by first | rfl | (simp; done) | (simp [*]; done)), (by first | rfl | (simp; done) | (simp [*]; done)), H', ⟨by have := HK1.out; have := HJ17.out; have := HK3.out; have := HJ41.out; have := HK5.out; omega⟩, ⟨by (with_reducible repeat (first | apply Kd.R_alloc | apply Kd.R_drewN | apply Kd.R_drew)); exact HO_5.out⟩, ⟨by (with_reducible repeat (first | refine blk_drewN ?_ _ | refine blk_drew ?_ | refine blk_alloc ?_ _)); exact BK169.out⟩, ⟨by (with_reducible repeat (first | refine blk_drewN ?_ _ | refine blk_drew ?_ | refine blk_alloc ?_ _)); exact BK183.out⟩, ⟨by repeat (first | (with_reducible first | exact HB.out | apply below_alloc | apply pw_below_drewN | apply below_drew1 | refine below_set ?_ GE169.out | refine below_set ?_ GE183.out) | exact HB.out)⟩⟩
                                     ·rw [if_neg c79] at H
                                      have c79b0 : (t191.toList == ([99, 111, 110, 116, 101, 110, 116, 45, 108, 101, 110, 103, 116, 104] : List UInt8)) = false := beq_eq_false_iff_ne.mpr c79
                                      have c79b1 : (t191.toList != ([99, 111, 110, 116, 101, 110, 116, 45, 108, 101, 110, 103, 116, 104] : List UInt8)) = true := bne_iff_ne.mpr c79
                                      by_cases c86 : t191.toList = ([116, 114, 97, 110, 115, 102, 101, 114, 45, 101, 110, 99, 111, 100, 105, 110, 103] : List UInt8)
                                      ·rw [if_pos c86] at H
                                       have c86b0 : (t191.toList == ([116, 114, 97, 110, 115, 102, 101, 114, 45, 101, 110, 99, 111, 100, 105, 110, 103] : List UInt8)) = true := beq_iff_eq.mpr c86
                                       have c86b1 : (t191.toList != ([116, 114, 97, 110, 115, 102, 101, 114, 45, 101, 110, 99, 111, 100, 105, 110, 103] : List UInt8)) = false := bne_eq_false_iff_eq.mpr c86
                                       clear c86
                                       simp only [Option.some.injEq, Prod.mk.injEq] at H
                                       obtain ⟨rfl, rfl, rfl, rfl, rfl, rfl⟩ := H
                                       have p190 : 0 ≤ (x14_3 : Int) := of_decide_eq_true (by first | (with_reducible assumption) | assumption)
                                       have q190 : x14_3 < (x5_1.length : Int) := of_decide_eq_true (by first | (with_reducible assumption) | assumption)
                                       obtain ⟨ad190, e190, hx190_0⟩ := Kd.at_string (Kd.R_reads' HO_5.out).2.2 x14_3 p190 q190
                                       obtain rfl : ad177 = ad190 := (by injection e190)
                                       replace p190 := eq_true p190
                                       replace q190 := eq_true q190
                                       go_wp2_with (first | ((with_reducible refine gate_callee (f := 26) rfl ?_); refine goesL_ (some 144) rfl rfl Tryd.func26 (by kernel_rfl) rfl #[.string ((rdOf ByteArray.empty x5_1 x14_3).extract 0 (t185 : Int).toNat)] rfl (by (try simp only [List.map_toArray, List.map_cons, List.map_nil]); first | done | rfl | (simp only [List.length_drop, List.length_take]; rfl)) ?_; (with_reducible refine (fascineref12_low.calls ((rdOf ByteArray.empty x5_1 x14_3).extract 0 (t185 : Int).toNat) t191 _ A76.out).mono ?_); rintro e w87 ⟨rfl, hb⟩; refine ⟨_, rfl, ?_⟩; have n0_ := Aside0.mk (Kd.R_below (by (with_reducible repeat (first | apply Kd.R_alloc | apply Kd.R_drewN | apply Kd.R_drew)); exact HO_5.out) hb); have n1_ := Aside0.mk (blk_below (g := gb169) (o := .cells #[.string x170000_5, .string x170001_5, .string x170002_5, .bool x170003_5] 24 (0, 0)) (by (with_reducible repeat (first | refine blk_drewN ?_ _ | refine blk_drew ?_ | refine blk_alloc ?_ _)); exact BK169.out) hb); have n2_ := Aside0.mk (blk_below (g := gb183) (o := .cells #[.string t178, .string t179, .string t180, .bool x184003_3] 24 (0, 0)) (by (with_reducible repeat (first | refine blk_drewN ?_ _ | refine blk_drew ?_ | refine blk_alloc ?_ _)); exact BK183.out) hb); have n3_ := Aside0.mk (below_step (by repeat (first | (with_reducible first | exact HB.out | apply below_alloc | apply pw_below_drewN | apply below_drew1 | refine below_set ?_ GE169.out | refine below_set ?_ GE183.out) | exact HB.out)) hb); clear HO_5; clear BK169; clear BK183; clear HB; have HO_5 := n0_; have BK169 := n1_; have BK183 := n2_; have HB := n3_; clear n0_ n1_ n2_ n3_; (try clear hb); (try clear hb2); (try clear hk); (try clear hi); have hnb88 := NB169_183.out; have hnc88 := NB183_169.out; have hcz89_0 : w87.cell? ⟨gb169, 0, none⟩ = some (.string x170000_5) := (blk_cell BK169.out 0).trans rfl; have hcz89_1 : w87.cell? ⟨gb169, 1, none⟩ = some (.string x170001_5) := (blk_cell BK169.out 1).trans rfl; have hcz89_2 : w87.cell? ⟨gb169, 2, none⟩ = some (.string x170002_5) := (blk_cell BK169.out 2).trans rfl; have hcz89_3 : w87.cell? ⟨gb169, 3, none⟩ = some (.bool x170003_5) := (blk_cell BK169.out 3).trans rfl; have hfz89_0 := blk_frozen BK169.out 0; have hfz89_1 := blk_frozen BK169.out 1; have hfz89_2 := blk_frozen BK169.out 2; have hfz89_3 := blk_frozen BK169.out 3))
                                       refine bodyPost_ret (results_ctt rfl _ _ gb169 24 #[.string (⟨#[]⟩ : ByteArray), .string (⟨#[]⟩ : ByteArray), .string (⟨#[]⟩ : ByteArray), .bool false] (0, 0) _ rfl (by (with_reducible repeat (first | refine blk_drewN ?_ _ | refine blk_drew ?_ | refine blk_alloc ?_ _)); refine blk_put (cs := #[.string (⟨#[]⟩ : ByteArray), .string (⟨#[]⟩ : ByteArray), .string (⟨#[]⟩ : ByteArray), .bool x170003_5]) ?_ 3 _ rfl; (with_reducible repeat (first | refine blk_drewN ?_ _ | refine blk_drew ?_ | refine blk_alloc ?_ _)); refine blk_put (cs := #[.string (⟨#[]⟩ : ByteArray), .string (⟨#[]⟩ : ByteArray), .string x170002_5, .bool x170003_5]) ?_ 2 _ rfl; (with_reducible repeat (first | refine blk_drewN ?_ _ | refine blk_drew ?_ | refine blk_alloc ?_ _)); refine blk_put (cs := #[.string (⟨#[]⟩ : ByteArray), .string x170001_5, .string x170002_5, .bool x170003_5]) ?_ 1 _ rfl; (with_reducible repeat (first | refine blk_drewN ?_ _ | refine blk_drew ?_ | refine blk_alloc ?_ _)); refine blk_put (cs := #[.string x170000_5, .string x170001_5, .string x170002_5, .bool x170003_5]) ?_ 0 _ rfl; (with_reducible repeat (first | refine blk_drewN ?_ _ | refine blk_drew ?_ | refine blk_alloc ?_ _)); exact BK169.out) Tryd.underlying24 rfl (by kernel_rfl)) rfl ?_
                                       exact ⟨by first | rfl | (simp [errW_none, errW_some] <;> rfl) | (simp only [← hji52]; first | rfl | (simp [errW_none, errW_some] <;> rfl)) | (simp [*, errW_none, errW_some] <;> rfl), by repeat (first | (with_reducible first | exact HB.out | apply below_alloc | apply pw_below_drewN | apply below_drew1 | refine below_set ?_ GE169.out | refine below_set ?_ GE183.out) | exact HB.out)⟩
                                      ·rw [if_neg c86] at H
                                       have c86b0 : (t191.toList == ([116, 114, 97, 110, 115, 102, 101, 114, 45, 101, 110, 99, 111, 100, 105, 110, 103] : List UInt8)) = false := beq_eq_false_iff_ne.mpr c86
                                       have c86b1 : (t191.toList != ([116, 114, 97, 110, 115, 102, 101, 114, 45, 101, 110, 99, 111, 100, 105, 110, 103] : List UInt8)) = true := bne_iff_ne.mpr c86
                                       by_cases c90 : t191.toList = ([99, 111, 110, 110, 101, 99, 116, 105, 111, 110] : List UInt8)
                                       ·rw [if_pos c90] at H
                                        have c90b0 : (t191.toList == ([99, 111, 110, 110, 101, 99, 116, 105, 111, 110] : List UInt8)) = true := beq_iff_eq.mpr c90
                                        have c90b1 : (t191.toList != ([99, 111, 110, 110, 101, 99, 116, 105, 111, 110] : List UInt8)) = false := bne_eq_false_iff_eq.mpr c90
                                        clear c90
                                        replace H := Option.bind_eq_some_iff.mp H
                                        obtain ⟨t193, A910, H⟩ := H
                                        replace H : (if t193.toList = ([99, 108, 111, 115, 101] : List UInt8) then (fascineref12_Read.l1 k5 a0 x5_1 (wrap64 (x6_1 + (wrap64 (t170 + 1)))) x11_3 x12_3 x13_3 (wrap64 (x14_3 + 1)) t178 t179 t180 true) else (fascineref12_Read.l1 k5 a0 x5_1 (wrap64 (x6_1 + (wrap64 (t170 + 1)))) x11_3 x12_3 x13_3 (wrap64 (x14_3 + 1)) t178 t179 t180 x184003_3)) = some (r1, r2, r3, r4, r5, r6) := H
                                        have A91 := Aside0.mk A910
                                        clear A910
                                        by_cases c92 : t193.toList = ([99, 108, 111, 115, 101] : List UInt8)
                                        ·rw [if_pos c92] at H
                                         have c92b0 : (t193.toList == ([99, 108, 111, 115, 101] : List UInt8)) = true := beq_iff_eq.mpr c92
                                         have c92b1 : (t193.toList != ([99, 108, 111, 115, 101] : List UInt8)) = false := bne_eq_false_iff_eq.mpr c92
                                         clear c92
                                         have H' := Aside0.mk H
                                         clear H
                                         have p190 : 0 ≤ (x14_3 : Int) := of_decide_eq_true (by first | (with_reducible assumption) | assumption)
                                         have q190 : x14_3 < (x5_1.length : Int) := of_decide_eq_true (by first | (with_reducible assumption) | assumption)
                                         obtain ⟨ad190, e190, hx190_0⟩ := Kd.at_string (Kd.R_reads' HO_5.out).2.2 x14_3 p190 q190
                                         obtain rfl : ad177 = ad190 := (by injection e190)
                                         replace p190 := eq_true p190
                                         replace q190 := eq_true q190
                                         go_wp2_with (first | ((with_reducible refine gate_callee (f := 26) rfl ?_); refine goesL_ (some 144) rfl rfl Tryd.func26 (by kernel_rfl) rfl #[.string ((rdOf ByteArray.empty x5_1 x14_3).extract 0 (t185 : Int).toNat)] rfl (by (try simp only [List.map_toArray, List.map_cons, List.map_nil]); first | done | rfl | (simp only [List.length_drop, List.length_take]; rfl)) ?_; (with_reducible refine (fascineref12_low.calls ((rdOf ByteArray.empty x5_1 x14_3).extract 0 (t185 : Int).toNat) t191 _ A76.out).mono ?_); rintro e w93 ⟨rfl, hb⟩; refine ⟨_, rfl, ?_⟩; have n0_ := Aside0.mk (Kd.R_below (by (with_reducible repeat (first | apply Kd.R_alloc | apply Kd.R_drewN | apply Kd.R_drew)); exact HO_5.out) hb); have n1_ := Aside0.mk (blk_below (g := gb169) (o := .cells #[.string x170000_5, .string x170001_5, .string x170002_5, .bool x170003_5] 24 (0, 0)) (by (with_reducible repeat (first | refine blk_drewN ?_ _ | refine blk_drew ?_ | refine blk_alloc ?_ _)); exact BK169.out) hb); have n2_ := Aside0.mk (blk_below (g := gb183) (o := .cells #[.string t178, .string t179, .string t180, .bool x184003_3] 24 (0, 0)) (by (with_reducible repeat (first | refine blk_drewN ?_ _ | refine blk_drew ?_ | refine blk_alloc ?_ _)); exact BK183.out) hb); have n3_ := Aside0.mk (below_step (by repeat (first | (with_reducible first | exact HB.out | apply below_alloc | apply pw_below_drewN | apply below_drew1 | refine below_set ?_ GE169.out | refine below_set ?_ GE183.out) | exact HB.out)) hb); clear HO_5; clear BK169; clear BK183; clear HB; have HO_5 := n0_; have BK169 := n1_; have BK183 := n2_; have HB := n3_; clear n0_ n1_ n2_ n3_; (try clear hb); (try clear hb2); (try clear hk); (try clear hi)) | ((with_reducible refine gate_callee (f := 26) rfl ?_); refine goesL_ (some 164) rfl rfl Tryd.func26 (by kernel_rfl) rfl #[.string t189] rfl (by (try simp only [List.map_toArray, List.map_cons, List.map_nil]); first | done | rfl | (simp only [List.length_drop, List.length_take]; rfl)) ?_; (with_reducible refine (fascineref12_low.calls t189 t193 _ A91.out).mono ?_); rintro e w94 ⟨rfl, hb⟩; refine ⟨_, rfl, ?_⟩; have n0_ := Aside0.mk (Kd.R_below (by (with_reducible repeat (first | apply Kd.R_alloc | apply Kd.R_drewN | apply Kd.R_drew)); exact HO_5.out) hb); have n1_ := Aside0.mk (blk_below (g := gb169) (o := .cells #[.string x170000_5, .string x170001_5, .string x170002_5, .bool x170003_5] 24 (0, 0)) (by (with_reducible repeat (first | refine blk_drewN ?_ _ | refine blk_drew ?_ | refine blk_alloc ?_ _)); exact BK169.out) hb); have n2_ := Aside0.mk (blk_below (g := gb183) (o := .cells #[.string t178, .string t179, .string t180, .bool x184003_3] 24 (0, 0)) (by (with_reducible repeat (first | refine blk_drewN ?_ _ | refine blk_drew ?_ | refine blk_alloc ?_ _)); exact BK183.out) hb); have n3_ := Aside0.mk (below_step (by repeat (first | (with_reducible first | exact HB.out | apply below_alloc | apply pw_below_drewN | apply below_drew1 | refine below_set ?_ GE169.out | refine below_set ?_ GE183.out) | exact HB.out)) hb); clear HO_5; clear BK169; clear BK183; clear HB; have HO_5 := n0_; have BK169 := n1_; have BK183 := n2_; have HB := n3_; clear n0_ n1_ n2_ n3_; (try clear hb); (try clear hb2); (try clear hk); (try clear hi); have hnb95 := NB183_169.out; have hnc95 := NB169_183.out; have hcz96_0 : w94.cell? ⟨gb183, 0, none⟩ = some (.string t178) := (blk_cell BK183.out 0).trans rfl; have hcz96_1 : w94.cell? ⟨gb183, 1, none⟩ = some (.string t179) := (blk_cell BK183.out 1).trans rfl; have hcz96_2 : w94.cell? ⟨gb183, 2, none⟩ = some (.string t180) := (blk_cell BK183.out 2).trans rfl; have hcz96_3 : w94.cell? ⟨gb183, 3, none⟩ = some (.bool x184003_3) := (blk_cell BK183.out 3).trans rfl; have hfz96_0 := blk_frozen BK183.out 0; have hfz96_1 := blk_frozen BK183.out 1; have hfz96_2 := blk_frozen BK183.out 2; have hfz96_3 := blk_frozen BK183.out 3))
                                         go_roundg k5
                                         case measure => have := HK1.out; have := HJ17.out; have := HK3.out; have := HJ41.out; have := HK5.out; omega
                                         case rel => exact ⟨(x11_3), (x12_3), (x13_3), (wrap64 (x14_3 + 1)), (x170000_5), (x170001_5), (x170002_5), (x170003_5), (true), (by first | rfl | (simp; done) | (simp [*]; done)), (by first | rfl | (simp; done) | (simp [*]; done)), (by first | rfl | (simp; done) | (simp [*]; done)), (by first | rfl | (simp; done) | (simp [*]; done)), H', ⟨by have := HK1.out; have := HJ17.out; have := HK3.out; have := HJ41.out; have := HK5.out; omega⟩, ⟨by (with_reducible repeat (first | apply Kd.R_alloc | apply Kd.R_drewN | apply Kd.R_drew)); exact Kd.R_mono (Kd.R_far (p := ⟨gb183, 3, none⟩) (Kd.R_types HO_5.out BK183.out (by decide)) (fun _ hk => hk.2) (.bool true)) (fun _ hk => trivial)⟩, ⟨by (with_reducible repeat (first | refine blk_drewN ?_ _ | refine blk_drew ?_ | refine blk_alloc ?_ _)); refine blk_far ?_ NB169_183.out _; (with_reducible repeat (first | refine blk_drewN ?_ _ | refine blk_drew ?_ | refine blk_alloc ?_ _)); exact BK169.out⟩, ⟨by (with_reducible repeat (first | refine blk_drewN ?_ _ | refine blk_drew ?_ | refine blk_alloc ?_ _)); refine blk_put (cs := #[.string t178, .string t179, .string t180, .bool x184003_3]) ?_ 3 _ rfl; (with_reducible repeat (first | refine blk_drewN ?_ _ | refine blk_drew ?_ | refine blk_alloc ?_ _)); exact BK183.out⟩, ⟨by repeat (first | (with_reducible first | exact HB.out | apply below_alloc | apply pw_below_drewN | apply below_drew1 | refine below_set ?_ GE169.out | refine below_set ?_ GE183.out) | exact HB.out)⟩⟩
                                        ·rw [if_neg c92] at H
                                         have c92b0 : (t193.toList == ([99, 108, 111, 115, 101] : List UInt8)) = false := beq_eq_false_iff_ne.mpr c92
                                         have c92b1 : (t193.toList != ([99, 108, 111, 115, 101] : List UInt8)) = true := bne_iff_ne.mpr c92
                                         have H' := Aside0.mk H
                                         clear H
                                         have p190 : 0 ≤ (x14_3 : Int) := of_decide_eq_true (by first | (with_reducible assumption) | assumption)
                                         have q190 : x14_3 < (x5_1.length : Int) := of_decide_eq_true (by first | (with_reducible assumption) | assumption)
                                         obtain ⟨ad190, e190, hx190_0⟩ := Kd.at_string (Kd.R_reads' HO_5.out).2.2 x14_3 p190 q190
                                         obtain rfl : ad177 = ad190 := (by injection e190)
                                         replace p190 := eq_true p190
                                         replace q190 := eq_true q190
                                         go_wp2_with (first | ((with_reducible refine gate_callee (f := 26) rfl ?_); refine goesL_ (some 144) rfl rfl Tryd.func26 (by kernel_rfl) rfl #[.string ((rdOf ByteArray.empty x5_1 x14_3).extract 0 (t185 : Int).toNat)] rfl (by (try simp only [List.map_toArray, List.map_cons, List.map_nil]); first | done | rfl | (simp only [List.length_drop, List.length_take]; rfl)) ?_; (with_reducible refine (fascineref12_low.calls ((rdOf ByteArray.empty x5_1 x14_3).extract 0 (t185 : Int).toNat) t191 _ A76.out).mono ?_); rintro e w97 ⟨rfl, hb⟩; refine ⟨_, rfl, ?_⟩; have n0_ := Aside0.mk (Kd.R_below (by (with_reducible repeat (first | apply Kd.R_alloc | apply Kd.R_drewN | apply Kd.R_drew)); exact HO_5.out) hb); have n1_ := Aside0.mk (blk_below (g := gb169) (o := .cells #[.string x170000_5, .string x170001_5, .string x170002_5, .bool x170003_5] 24 (0, 0)) (by (with_reducible repeat (first | refine blk_drewN ?_ _ | refine blk_drew ?_ | refine blk_alloc ?_ _)); exact BK169.out) hb); have n2_ := Aside0.mk (blk_below (g := gb183) (o := .cells #[.string t178, .string t179, .string t180, .bool x184003_3] 24 (0, 0)) (by (with_reducible repeat (first | refine blk_drewN ?_ _ | refine blk_drew ?_ | refine blk_alloc ?_ _)); exact BK183.out) hb); have n3_ := Aside0.mk (below_step (by repeat (first | (with_reducible first | exact HB.out | apply below_alloc | apply pw_below_drewN | apply below_drew1 | refine below_set ?_ GE169.out | refine below_set ?_ GE183.out) | exact HB.out)) hb); clear HO_5; clear BK169; clear BK183; clear HB; have HO_5 := n0_; have BK169 := n1_; have BK183 := n2_; have HB := n3_; clear n0_ n1_ n2_ n3_; (try clear hb); (try clear hb2); (try clear hk); (try clear hi)) | ((with_reducible refine gate_callee (f := 26) rfl ?_); refine goesL_ (some 164) rfl rfl Tryd.func26 (by kernel_rfl) rfl #[.string t189] rfl (by (try simp only [List.map_toArray, List.map_cons, List.map_nil]); first | done | rfl | (simp only [List.length_drop, List.length_take]; rfl)) ?_; (with_reducible refine (fascineref12_low.calls t189 t193 _ A91.out).mono ?_); rintro e w98 ⟨rfl, hb⟩; refine ⟨_, rfl, ?_⟩; have n0_ := Aside0.mk (Kd.R_below (by (with_reducible repeat (first | apply Kd.R_alloc | apply Kd.R_drewN | apply Kd.R_drew)); exact HO_5.out) hb); have n1_ := Aside0.mk (blk_below (g := gb169) (o := .cells #[.string x170000_5, .string x170001_5, .string x170002_5, .bool x170003_5] 24 (0, 0)) (by (with_reducible repeat (first | refine blk_drewN ?_ _ | refine blk_drew ?_ | refine blk_alloc ?_ _)); exact BK169.out) hb); have n2_ := Aside0.mk (blk_below (g := gb183) (o := .cells #[.string t178, .string t179, .string t180, .bool x184003_3] 24 (0, 0)) (by (with_reducible repeat (first | refine blk_drewN ?_ _ | refine blk_drew ?_ | refine blk_alloc ?_ _)); exact BK183.out) hb); have n3_ := Aside0.mk (below_step (by repeat (first | (with_reducible first | exact HB.out | apply below_alloc | apply pw_below_drewN | apply below_drew1 | refine below_set ?_ GE169.out | refine below_set ?_ GE183.out) | exact HB.out)) hb); clear HO_5; clear BK169; clear BK183; clear HB; have HO_5 := n0_; have BK169 := n1_; have BK183 := n2_; have HB := n3_; clear n0_ n1_ n2_ n3_; (try clear hb); (try clear hb2); (try clear hk); (try clear hi)))
                                         go_roundg k5
                                         case measure => have := HK1.out; have := HJ17.out; have := HK3.out; have := HJ41.out; have := HK5.out; omega
                                         case rel => exact ⟨(x11_3), (x12_3), (x13_3), (wrap64 (x14_3 + 1)), (x170000_5), (x170001_5), (x170002_5), (x170003_5), (x184003_3), (by first | rfl | (simp; done) | (simp [*]; done)), (by first | rfl | (simp; done) | (simp [*]; done)), (by first | rfl | (simp; done) | (simp [*]; done)), (by first | rfl | (simp; done) | (simp [*]; done)), H', ⟨by have := HK1.out; have := HJ17.out; have := HK3.out; have := HJ41.out; have := HK5.out; omega⟩, ⟨by (with_reducible repeat (first | apply Kd.R_alloc | apply Kd.R_drewN | apply Kd.R_drew)); exact HO_5.out⟩, ⟨by (with_reducible repeat (first | refine blk_drewN ?_ _ | refine blk_drew ?_ | refine blk_alloc ?_ _)); exact BK169.out⟩, ⟨by (with_reducible repeat (first | refine blk_drewN ?_ _ | refine blk_drew ?_ | refine blk_alloc ?_ _)); exact BK183.out⟩, ⟨by repeat (first | (with_reducible first | exact HB.out | apply below_alloc | apply pw_below_drewN | apply below_drew1 | refine below_set ?_ GE169.out | refine below_set ?_ GE183.out) | exact HB.out)⟩⟩
                                       ·rw [if_neg c90] at H
                                        have c90b0 : (t191.toList == ([99, 111, 110, 110, 101, 99, 116, 105, 111, 110] : List UInt8)) = false := beq_eq_false_iff_ne.mpr c90
                                        have c90b1 : (t191.toList != ([99, 111, 110, 110, 101, 99, 116, 105, 111, 110] : List UInt8)) = true := bne_iff_ne.mpr c90
                                        have H' := Aside0.mk H
                                        clear H
                                        have p190 : 0 ≤ (x14_3 : Int) := of_decide_eq_true (by first | (with_reducible assumption) | assumption)
                                        have q190 : x14_3 < (x5_1.length : Int) := of_decide_eq_true (by first | (with_reducible assumption) | assumption)
                                        obtain ⟨ad190, e190, hx190_0⟩ := Kd.at_string (Kd.R_reads' HO_5.out).2.2 x14_3 p190 q190
                                        obtain rfl : ad177 = ad190 := (by injection e190)
                                        replace p190 := eq_true p190
                                        replace q190 := eq_true q190
                                        go_wp2_with (first | ((with_reducible refine gate_callee (f := 26) rfl ?_); refine goesL_ (some 144) rfl rfl Tryd.func26 (by kernel_rfl) rfl #[.string ((rdOf ByteArray.empty x5_1 x14_3).extract 0 (t185 : Int).toNat)] rfl (by (try simp only [List.map_toArray, List.map_cons, List.map_nil]); first | done | rfl | (simp only [List.length_drop, List.length_take]; rfl)) ?_; (with_reducible refine (fascineref12_low.calls ((rdOf ByteArray.empty x5_1 x14_3).extract 0 (t185 : Int).toNat) t191 _ A76.out).mono ?_); rintro e w99 ⟨rfl, hb⟩; refine ⟨_, rfl, ?_⟩; have n0_ := Aside0.mk (Kd.R_below (by (with_reducible repeat (first | apply Kd.R_alloc | apply Kd.R_drewN | apply Kd.R_drew)); exact HO_5.out) hb); have n1_ := Aside0.mk (blk_below (g := gb169) (o := .cells #[.string x170000_5, .string x170001_5, .string x170002_5, .bool x170003_5] 24 (0, 0)) (by (with_reducible repeat (first | refine blk_drewN ?_ _ | refine blk_drew ?_ | refine blk_alloc ?_ _)); exact BK169.out) hb); have n2_ := Aside0.mk (blk_below (g := gb183) (o := .cells #[.string t178, .string t179, .string t180, .bool x184003_3] 24 (0, 0)) (by (with_reducible repeat (first | refine blk_drewN ?_ _ | refine blk_drew ?_ | refine blk_alloc ?_ _)); exact BK183.out) hb); have n3_ := Aside0.mk (below_step (by repeat (first | (with_reducible first | exact HB.out | apply below_alloc | apply pw_below_drewN | apply below_drew1 | refine below_set ?_ GE169.out | refine below_set ?_ GE183.out) | exact HB.out)) hb); clear HO_5; clear BK169; clear BK183; clear HB; have HO_5 := n0_; have BK169 := n1_; have BK183 := n2_; have HB := n3_; clear n0_ n1_ n2_ n3_; (try clear hb); (try clear hb2); (try clear hk); (try clear hi)))
                                        go_roundg k5
                                        case measure => have := HK1.out; have := HJ17.out; have := HK3.out; have := HJ41.out; have := HK5.out; omega
                                        case rel => exact ⟨(x11_3), (x12_3), (x13_3), (wrap64 (x14_3 + 1)), (x170000_5), (x170001_5), (x170002_5), (x170003_5), (x184003_3), (by first | rfl | (simp; done) | (simp [*]; done)), (by first | rfl | (simp; done) | (simp [*]; done)), (by first | rfl | (simp; done) | (simp [*]; done)), (by first | rfl | (simp; done) | (simp [*]; done)), H', ⟨by have := HK1.out; have := HJ17.out; have := HK3.out; have := HJ41.out; have := HK5.out; omega⟩, ⟨by (with_reducible repeat (first | apply Kd.R_alloc | apply Kd.R_drewN | apply Kd.R_drew)); exact HO_5.out⟩, ⟨by (with_reducible repeat (first | refine blk_drewN ?_ _ | refine blk_drew ?_ | refine blk_alloc ?_ _)); exact BK169.out⟩, ⟨by (with_reducible repeat (first | refine blk_drewN ?_ _ | refine blk_drew ?_ | refine blk_alloc ?_ _)); exact BK183.out⟩, ⟨by repeat (first | (with_reducible first | exact HB.out | apply below_alloc | apply pw_below_drewN | apply below_drew1 | refine below_set ?_ GE169.out | refine below_set ?_ GE183.out) | exact HB.out)⟩⟩
                                   ·rw [if_neg c75] at H
                                    exact absurd H (by simp)
                                  ·rw [if_neg c74] at H
                                   exact absurd H (by simp)
                                 ·rw [if_neg c73] at H
                                  exact absurd H (by simp)
                                ·rw [if_neg c72] at H
                                 exact absurd H (by simp)
                            ·rw [if_neg c54] at H
                             exact absurd H (by simp)
                           ·rw [if_neg c53] at H
                            exact absurd H (by simp)
                          ·rw [if_neg c51] at H
                           exact absurd H (by simp)
                         ·rw [if_neg c50] at H
                          exact absurd H (by simp)
                     ·rw [if_neg c40] at H
                      exact absurd H (by simp)
                    ·rw [if_neg c39] at H
                     have c39b0 : decide (x14_3 < (x5_1.length : Int)) = false := decide_eq_false c39
                     clear c39
                     have HC100 := Aside0.mk H
                     clear H
                     go_upto_region 49 with (fail)
                     go_cut [172] (fun v172 wc => ∃ (kq : Nat) (x172_99 : Bool), v172 = .bool x172_99 ∧ Aside0 (fascineref12_Read.j5 kq a0 (wrap64 (x6_1 + (wrap64 (t170 + 1)))) x11_3 x172_99 t178 t179 t180 x184003_3 = some (r1, r2, r3, r4, r5, r6)) ∧ Aside0 (kq ≤ k3) ∧ Aside0 (wc.heap[gb169]? = some (.cells #[.string x170000_3, .string x170001_3, .string x170002_3, .bool x170003_3] 24 (0, 0))) ∧ Aside0 (wc.heap[gb183]? = some (.cells #[.string t178, .string t179, .string t180, .bool x184003_3] 24 (0, 0))) ∧ Aside0 (Below w.heap.size w wc))
                     case first =>
                      have H := HC100.out
                      clear HC100
                      by_cases c101 : x12_3 = 1
                      ·rw [if_pos c101] at H
                       have c101b0 : (x12_3 == 1) = true := beq_iff_eq.mpr c101
                       have c101b1 : (x12_3 != 1) = false := bne_eq_false_iff_eq.mpr c101
                       clear c101
                       (first | rw [c101b0] | (simp only [i64_w, i32_w]; rw [c101b0]) | skip)
                       have H' := Aside0.mk H
                       clear H
                       go_wp2
                       go_meet
                       case rel => exact ⟨_, (decide (x13_3 > 1)), (by first | rfl | (simp; done) | (simp [*]; done)), H', ⟨by have := HK1.out; have := HJ17.out; have := HK3.out; first | omega | exact Nat.le_refl _⟩, ⟨by (with_reducible repeat (first | refine blk_drewN ?_ _ | refine blk_drew ?_ | refine blk_alloc ?_ _)); exact BK169.out⟩, ⟨by (with_reducible repeat (first | refine blk_drewN ?_ _ | refine blk_drew ?_ | refine blk_alloc ?_ _)); exact BK183.out⟩, ⟨by repeat (first | (with_reducible first | exact HB.out | apply below_alloc | apply pw_below_drewN | apply below_drew1 | refine below_set ?_ GE169.out | refine below_set ?_ GE183.out) | exact HB.out)⟩⟩
                      ·rw [if_neg c101] at H
                       have c101b0 : (x12_3 == 1) = false := beq_eq_false_iff_ne.mpr c101
                       have c101b1 : (x12_3 != 1) = true := bne_iff_ne.mpr c101
                       (first | rw [c101b0] | (simp only [i64_w, i32_w]; rw [c101b0]) | skip)
                       have H' := Aside0.mk H
                       clear H
                       go_wp2
                       go_meet
                       case rel => exact ⟨_, (true), (by first | rfl | (simp; done) | (simp [*]; done)), H', ⟨by have := HK1.out; have := HJ17.out; have := HK3.out; first | omega | exact Nat.le_refl _⟩, ⟨by (with_reducible repeat (first | refine blk_drewN ?_ _ | refine blk_drew ?_ | refine blk_alloc ?_ _)); exact BK169.out⟩, ⟨by (with_reducible repeat (first | refine blk_drewN ?_ _ | refine blk_drew ?_ | refine blk_alloc ?_ _)); exact BK183.out⟩, ⟨by repeat (first | (with_reducible first | exact HB.out | apply below_alloc | apply pw_below_drewN | apply below_drew1 | refine below_set ?_ GE169.out | refine below_set ?_ GE183.out) | exact HB.out)⟩⟩
                     case rest =>
                      clear HC100
                      try clear c1
                      try clear p1
                      try clear q1
                      try clear hx1
                      try clear qi1
                      try clear c2
                      try clear p2
                      try clear q2
                      try clear hx2
                      try clear c3
                      try clear c3b0
                      try clear c3b1
                      try clear c4
                      try clear c5
                      try clear p5
                      try clear q5
                      try clear hx5
                      try clear c6
                      try clear c6b0
                      try clear c6b1
                      try clear p6
                      try clear q6
                      try clear hx6
                      try clear c7
                      try clear c7b0
                      try clear c7b1
                      try clear c8
                      try clear c9
                      try clear c9b0
                      try clear c10
                      try clear c10b0
                      try clear c10b1
                      try clear c11
                      try clear c15
                      try clear c15b0
                      try clear p17
                      try clear q17
                      try clear hx17
                      try clear qi17
                      try clear p18
                      try clear q18
                      try clear hx18
                      try clear p19
                      try clear q19
                      try clear hx19
                      try clear c20
                      try clear c20b0
                      try clear c20b1
                      try clear c22
                      try clear c22b0
                      try clear c23
                      try clear c23b0
                      try clear p24
                      try clear q24
                      try clear hx24
                      try clear c25
                      try clear c26
                      try clear c27
                      try clear c27b0
                      try clear c27b1
                      try clear c28
                      try clear c28b0
                      try clear c28b1
                      try clear c29
                      try clear c29b0
                      try clear c29b1
                      try clear c30
                      try clear c30b0
                      try clear c30b1
                      try clear c31
                      try clear c31b0
                      try clear c31b1
                      try clear c32
                      try clear c32b0
                      try clear c32b1
                      try clear c34
                      try clear c37
                      try clear c39
                      try clear c39b0
                      try clear c40
                      try clear c40b0
                      try clear c43
                      try clear c43b0
                      try clear c44
                      try clear c44b0
                      try clear c44b1
                      try clear c45
                      try clear c45b0
                      try clear c45b1
                      try clear c47
                      try clear c48
                      try clear c50
                      try clear c50b0
                      try clear c51
                      try clear c51b0
                      try clear c53
                      try clear c53b0
                      try clear c53b1
                      try clear c54
                      try clear c54b0
                      try clear c54b1
                      try clear c56
                      try clear c56b0
                      try clear c57
                      try clear c57b0
                      try clear p58
                      try clear q58
                      try clear hx58
                      try clear c59
                      try clear c59b0
                      try clear p60
                      try clear q60
                      try clear hx60
                      try clear c61
                      try clear c61b0
                      try clear c61b1
                      try clear p62
                      try clear q62
                      try clear hx62
                      try clear c63
                      try clear c63b0
                      try clear c63b1
                      try clear c64
                      try clear p64
                      try clear c66
                      try clear p68
                      try clear q68
                      try clear hx68
                      try clear c69
                      try clear c69b0
                      try clear c69b1
                      try clear c70
                      try clear c72
                      try clear c72b0
                      try clear c73
                      try clear c73b0
                      try clear c74
                      try clear c74b0
                      try clear c74b1
                      try clear c75
                      try clear c75b0
                      try clear c75b1
                      try clear c77
                      try clear c77b0
                      try clear c77b1
                      try clear c79
                      try clear c79b0
                      try clear c79b1
                      try clear c81
                      try clear c81b0
                      try clear c83
                      try clear c86
                      try clear c86b0
                      try clear c86b1
                      try clear c88
                      try clear c90
                      try clear c90b0
                      try clear c90b1
                      try clear c92
                      try clear c92b0
                      try clear c92b1
                      try clear c95
                      try clear c101
                      try clear c101b0
                      try clear c101b1
                      try clear hcz12_0
                      try clear hcz12_1
                      try clear hcz12_2
                      try clear hcz12_3
                      try clear hcz14_0
                      try clear hcz14_1
                      try clear hcz14_2
                      try clear hcz14_3
                      try clear hcz17_0
                      try clear hcz17_1
                      try clear hcz17_2
                      try clear hcz17_3
                      try clear hcz26_0
                      try clear hcz26_1
                      try clear hcz26_2
                      try clear hcz26_3
                      try clear hcz38_0
                      try clear hcz38_1
                      try clear hcz38_2
                      try clear hcz38_3
                      try clear hcz49_0
                      try clear hcz49_1
                      try clear hcz49_2
                      try clear hcz49_3
                      try clear hcz5_0
                      try clear hcz5_1
                      try clear hcz5_2
                      try clear hcz5_3
                      try clear hcz65_0
                      try clear hcz65_1
                      try clear hcz65_2
                      try clear hcz65_3
                      try clear hcz67_0
                      try clear hcz67_1
                      try clear hcz67_2
                      try clear hcz67_3
                      try clear hcz71_0
                      try clear hcz71_1
                      try clear hcz71_2
                      try clear hcz71_3
                      try clear hcz84_0
                      try clear hcz84_1
                      try clear hcz84_2
                      try clear hcz84_3
                      try clear hcz89_0
                      try clear hcz89_1
                      try clear hcz89_2
                      try clear hcz89_3
                      try clear hcz96_0
                      try clear hcz96_1
                      try clear hcz96_2
                      try clear hcz96_3
                      try clear hfz12_0
                      try clear hfz12_1
                      try clear hfz12_2
                      try clear hfz12_3
                      try clear hfz14_0
                      try clear hfz14_1
                      try clear hfz14_2
                      try clear hfz14_3
                      try clear hfz17_0
                      try clear hfz17_1
                      try clear hfz17_2
                      try clear hfz17_3
                      try clear hfz26_0
                      try clear hfz26_1
                      try clear hfz26_2
                      try clear hfz26_3
                      try clear hfz38_0
                      try clear hfz38_1
                      try clear hfz38_2
                      try clear hfz38_3
                      try clear hfz49_0
                      try clear hfz49_1
                      try clear hfz49_2
                      try clear hfz49_3
                      try clear hfz5_0
                      try clear hfz5_1
                      try clear hfz5_2
                      try clear hfz5_3
                      try clear hfz65_0
                      try clear hfz65_1
                      try clear hfz65_2
                      try clear hfz65_3
                      try clear hfz67_0
                      try clear hfz67_1
                      try clear hfz67_2
                      try clear hfz67_3
                      try clear hfz71_0
                      try clear hfz71_1
                      try clear hfz71_2
                      try clear hfz71_3
                      try clear hfz84_0
                      try clear hfz84_1
                      try clear hfz84_2
                      try clear hfz84_3
                      try clear hfz89_0
                      try clear hfz89_1
                      try clear hfz89_2
                      try clear hfz89_3
                      try clear hfz96_0
                      try clear hfz96_1
                      try clear hfz96_2
                      try clear hfz96_3
                      try clear hx177_0
                      try clear hx184_0
                      try clear hx186_0
                      try clear hx188_0
                      try clear hx190_0
                      try clear p1
                      try clear p17
                      try clear p177
                      try clear p18
                      try clear p184
                      try clear p186
                      try clear p188
                      try clear p190
                      try clear p2
                      try clear p24
                      try clear p58
                      try clear p6
                      try clear p60
                      try clear p62
                      try clear p68
                      try clear q1
                      try clear q17
                      try clear q177
                      try clear q18
                      try clear q184
                      try clear q186
                      try clear q188
                      try clear q190
                      try clear q2
                      try clear q24
                      try clear q58
                      try clear q60
                      try clear q62
                      try clear q68
                      obtain ⟨kq, x172_99, rfl, HA, HJ99, BK169, BK183, HB⟩ := hcut
                      cases kq with
                      | zero => exact absurd HA.out (by simp [fascineref12_Read.j5])
                      | succ kj99 =>
                       have H := HA.out
                       clear HA
                       simp only [fascineref12_Read.j5] at H
                       by_cases c102 : x172_99 = true
                       ·subst c102
                        have H1 : (some ((⟨#[]⟩ : ByteArray), (⟨#[]⟩ : ByteArray), (⟨#[]⟩ : ByteArray), false, 0, 400)) = some (r1, r2, r3, r4, r5, r6) := by rw [if_pos rfl] at H; exact H
                        clear H
                        have H := H1
                        clear H1
                        simp only [Option.some.injEq, Prod.mk.injEq] at H
                        obtain ⟨rfl, rfl, rfl, rfl, rfl, rfl⟩ := H
                        have hnb103 := NB169_183.out
                        have hnc103 := NB183_169.out
                        have hcz104_0 : wc.cell? ⟨gb169, 0, none⟩ = some (.string x170000_3) := (blk_cell BK169.out 0).trans rfl
                        have hcz104_1 : wc.cell? ⟨gb169, 1, none⟩ = some (.string x170001_3) := (blk_cell BK169.out 1).trans rfl
                        have hcz104_2 : wc.cell? ⟨gb169, 2, none⟩ = some (.string x170002_3) := (blk_cell BK169.out 2).trans rfl
                        have hcz104_3 : wc.cell? ⟨gb169, 3, none⟩ = some (.bool x170003_3) := (blk_cell BK169.out 3).trans rfl
                        have hfz104_0 := blk_frozen BK169.out 0
                        have hfz104_1 := blk_frozen BK169.out 1
                        have hfz104_2 := blk_frozen BK169.out 2
                        have hfz104_3 := blk_frozen BK169.out 3
                        go_wp2
                        refine bodyPost_ret (results_ctt rfl _ _ gb169 24 #[.string (⟨#[]⟩ : ByteArray), .string (⟨#[]⟩ : ByteArray), .string (⟨#[]⟩ : ByteArray), .bool false] (0, 0) _ rfl (by (with_reducible repeat (first | refine blk_drewN ?_ _ | refine blk_drew ?_ | refine blk_alloc ?_ _)); refine blk_put (cs := #[.string (⟨#[]⟩ : ByteArray), .string (⟨#[]⟩ : ByteArray), .string (⟨#[]⟩ : ByteArray), .bool x170003_3]) ?_ 3 _ rfl; (with_reducible repeat (first | refine blk_drewN ?_ _ | refine blk_drew ?_ | refine blk_alloc ?_ _)); refine blk_put (cs := #[.string (⟨#[]⟩ : ByteArray), .string (⟨#[]⟩ : ByteArray), .string x170002_3, .bool x170003_3]) ?_ 2 _ rfl; (with_reducible repeat (first | refine blk_drewN ?_ _ | refine blk_drew ?_ | refine blk_alloc ?_ _)); refine blk_put (cs := #[.string (⟨#[]⟩ : ByteArray), .string x170001_3, .string x170002_3, .bool x170003_3]) ?_ 1 _ rfl; (with_reducible repeat (first | refine blk_drewN ?_ _ | refine blk_drew ?_ | refine blk_alloc ?_ _)); refine blk_put (cs := #[.string x170000_3, .string x170001_3, .string x170002_3, .bool x170003_3]) ?_ 0 _ rfl; (with_reducible repeat (first | refine blk_drewN ?_ _ | refine blk_drew ?_ | refine blk_alloc ?_ _)); exact BK169.out) Tryd.underlying24 rfl (by kernel_rfl)) rfl ?_
                        exact ⟨by first | rfl | (simp [errW_none, errW_some] <;> rfl) | (simp [*, errW_none, errW_some] <;> rfl), by repeat (first | (with_reducible first | exact HB.out | apply below_alloc | apply pw_below_drewN | apply below_drew1 | refine below_set ?_ GE169.out | refine below_set ?_ GE183.out) | exact HB.out)⟩
                       ·replace c102 := Bool.eq_false_iff.mpr c102
                        subst c102
                        have H1 : (if x11_3 > 8192 then (some ((⟨#[]⟩ : ByteArray), (⟨#[]⟩ : ByteArray), (⟨#[]⟩ : ByteArray), false, 0, 413)) else (if (wrap64 ((a0.size : Int) - (wrap64 (x6_1 + (wrap64 (t170 + 1)))))) < x11_3 then (some ((⟨#[]⟩ : ByteArray), (⟨#[]⟩ : ByteArray), (⟨#[]⟩ : ByteArray), false, 0, 0)) else (if 0 ≤ (wrap64 (x6_1 + (wrap64 (t170 + 1)))) then (if (wrap64 (x6_1 + (wrap64 (t170 + 1)))) ≤ (wrap64 ((wrap64 (x6_1 + (wrap64 (t170 + 1)))) + x11_3)) then (if (wrap64 ((wrap64 (x6_1 + (wrap64 (t170 + 1)))) + x11_3)) ≤ (a0.size : Int) then (some (t178, t179, a0.extract ((wrap64 (x6_1 + (wrap64 (t170 + 1)))) : Int).toNat ((wrap64 ((wrap64 (x6_1 + (wrap64 (t170 + 1)))) + x11_3)) : Int).toNat, x184003_3, wrap64 ((wrap64 (x6_1 + (wrap64 (t170 + 1)))) + x11_3), 0)) else (none)) else (none)) else (none)))) = some (r1, r2, r3, r4, r5, r6) := by rw [if_neg (show ¬ (false = true) by decide)] at H; exact H
                        clear H
                        have H := H1
                        clear H1
                        by_cases c105 : x11_3 > 8192
                        ·rw [if_pos c105] at H
                         have c105b0 : decide (8192 < x11_3) = true := decide_eq_true c105
                         clear c105
                         simp only [Option.some.injEq, Prod.mk.injEq] at H
                         obtain ⟨rfl, rfl, rfl, rfl, rfl, rfl⟩ := H
                         have hnb106 := NB169_183.out
                         have hnc106 := NB183_169.out
                         have hcz107_0 : wc.cell? ⟨gb169, 0, none⟩ = some (.string x170000_3) := (blk_cell BK169.out 0).trans rfl
                         have hcz107_1 : wc.cell? ⟨gb169, 1, none⟩ = some (.string x170001_3) := (blk_cell BK169.out 1).trans rfl
                         have hcz107_2 : wc.cell? ⟨gb169, 2, none⟩ = some (.string x170002_3) := (blk_cell BK169.out 2).trans rfl
                         have hcz107_3 : wc.cell? ⟨gb169, 3, none⟩ = some (.bool x170003_3) := (blk_cell BK169.out 3).trans rfl
                         have hfz107_0 := blk_frozen BK169.out 0
                         have hfz107_1 := blk_frozen BK169.out 1
                         have hfz107_2 := blk_frozen BK169.out 2
                         have hfz107_3 := blk_frozen BK169.out 3
                         go_wp2
                         refine bodyPost_ret (results_ctt rfl _ _ gb169 24 #[.string (⟨#[]⟩ : ByteArray), .string (⟨#[]⟩ : ByteArray), .string (⟨#[]⟩ : ByteArray), .bool false] (0, 0) _ rfl (by (with_reducible repeat (first | refine blk_drewN ?_ _ | refine blk_drew ?_ | refine blk_alloc ?_ _)); refine blk_put (cs := #[.string (⟨#[]⟩ : ByteArray), .string (⟨#[]⟩ : ByteArray), .string (⟨#[]⟩ : ByteArray), .bool x170003_3]) ?_ 3 _ rfl; (with_reducible repeat (first | refine blk_drewN ?_ _ | refine blk_drew ?_ | refine blk_alloc ?_ _)); refine blk_put (cs := #[.string (⟨#[]⟩ : ByteArray), .string (⟨#[]⟩ : ByteArray), .string x170002_3, .bool x170003_3]) ?_ 2 _ rfl; (with_reducible repeat (first | refine blk_drewN ?_ _ | refine blk_drew ?_ | refine blk_alloc ?_ _)); refine blk_put (cs := #[.string (⟨#[]⟩ : ByteArray), .string x170001_3, .string x170002_3, .bool x170003_3]) ?_ 1 _ rfl; (with_reducible repeat (first | refine blk_drewN ?_ _ | refine blk_drew ?_ | refine blk_alloc ?_ _)); refine blk_put (cs := #[.string x170000_3, .string x170001_3, .string x170002_3, .bool x170003_3]) ?_ 0 _ rfl; (with_reducible repeat (first | refine blk_drewN ?_ _ | refine blk_drew ?_ | refine blk_alloc ?_ _)); exact BK169.out) Tryd.underlying24 rfl (by kernel_rfl)) rfl ?_
                         exact ⟨by first | rfl | (simp [errW_none, errW_some] <;> rfl) | (simp [*, errW_none, errW_some] <;> rfl), by repeat (first | (with_reducible first | exact HB.out | apply below_alloc | apply pw_below_drewN | apply below_drew1 | refine below_set ?_ GE169.out | refine below_set ?_ GE183.out) | exact HB.out)⟩
                        ·rw [if_neg c105] at H
                         have c105b0 : decide (8192 < x11_3) = false := decide_eq_false c105
                         clear c105
                         by_cases c108 : (wrap64 ((a0.size : Int) - (wrap64 (x6_1 + (wrap64 (t170 + 1)))))) < x11_3
                         ·rw [if_pos c108] at H
                          have c108b0 : decide ((wrap64 ((a0.size : Int) - (wrap64 (x6_1 + (wrap64 (t170 + 1)))))) < x11_3) = true := decide_eq_true c108
                          clear c108
                          simp only [Option.some.injEq, Prod.mk.injEq] at H
                          obtain ⟨rfl, rfl, rfl, rfl, rfl, rfl⟩ := H
                          have hnb109 := NB169_183.out
                          have hnc109 := NB183_169.out
                          have hcz110_0 : wc.cell? ⟨gb169, 0, none⟩ = some (.string x170000_3) := (blk_cell BK169.out 0).trans rfl
                          have hcz110_1 : wc.cell? ⟨gb169, 1, none⟩ = some (.string x170001_3) := (blk_cell BK169.out 1).trans rfl
                          have hcz110_2 : wc.cell? ⟨gb169, 2, none⟩ = some (.string x170002_3) := (blk_cell BK169.out 2).trans rfl
                          have hcz110_3 : wc.cell? ⟨gb169, 3, none⟩ = some (.bool x170003_3) := (blk_cell BK169.out 3).trans rfl
                          have hfz110_0 := blk_frozen BK169.out 0
                          have hfz110_1 := blk_frozen BK169.out 1
                          have hfz110_2 := blk_frozen BK169.out 2
                          have hfz110_3 := blk_frozen BK169.out 3
                          go_wp2
                          refine bodyPost_ret (results_ctt rfl _ _ gb169 24 #[.string (⟨#[]⟩ : ByteArray), .string (⟨#[]⟩ : ByteArray), .string (⟨#[]⟩ : ByteArray), .bool false] (0, 0) _ rfl (by (with_reducible repeat (first | refine blk_drewN ?_ _ | refine blk_drew ?_ | refine blk_alloc ?_ _)); refine blk_put (cs := #[.string (⟨#[]⟩ : ByteArray), .string (⟨#[]⟩ : ByteArray), .string (⟨#[]⟩ : ByteArray), .bool x170003_3]) ?_ 3 _ rfl; (with_reducible repeat (first | refine blk_drewN ?_ _ | refine blk_drew ?_ | refine blk_alloc ?_ _)); refine blk_put (cs := #[.string (⟨#[]⟩ : ByteArray), .string (⟨#[]⟩ : ByteArray), .string x170002_3, .bool x170003_3]) ?_ 2 _ rfl; (with_reducible repeat (first | refine blk_drewN ?_ _ | refine blk_drew ?_ | refine blk_alloc ?_ _)); refine blk_put (cs := #[.string (⟨#[]⟩ : ByteArray), .string x170001_3, .string x170002_3, .bool x170003_3]) ?_ 1 _ rfl; (with_reducible repeat (first | refine blk_drewN ?_ _ | refine blk_drew ?_ | refine blk_alloc ?_ _)); refine blk_put (cs := #[.string x170000_3, .string x170001_3, .string x170002_3, .bool x170003_3]) ?_ 0 _ rfl; (with_reducible repeat (first | refine blk_drewN ?_ _ | refine blk_drew ?_ | refine blk_alloc ?_ _)); exact BK169.out) Tryd.underlying24 rfl (by kernel_rfl)) rfl ?_
                          exact ⟨by first | rfl | (simp [errW_none, errW_some] <;> rfl) | (simp [*, errW_none, errW_some] <;> rfl), by repeat (first | (with_reducible first | exact HB.out | apply below_alloc | apply pw_below_drewN | apply below_drew1 | refine below_set ?_ GE169.out | refine below_set ?_ GE183.out) | exact HB.out)⟩
                         ·rw [if_neg c108] at H
                          have c108b0 : decide ((wrap64 ((a0.size : Int) - (wrap64 (x6_1 + (wrap64 (t170 + 1)))))) < x11_3) = false := decide_eq_false c108
                          clear c108
                          obtain ⟨ji111, hji111⟩ : ∃ j_ : Int, (wrap64 (x6_1 + (wrap64 (t170 + 1)))) = j_ := ⟨_, rfl⟩
                          replace H : (if 0 ≤ (ji111) then (if (ji111) ≤ (wrap64 ((ji111) + x11_3)) then (if (wrap64 ((ji111) + x11_3)) ≤ (a0.size : Int) then (some (t178, t179, a0.extract ((ji111) : Int).toNat ((wrap64 ((ji111) + x11_3)) : Int).toNat, x184003_3, wrap64 ((ji111) + x11_3), 0)) else (none)) else (none)) else (none)) = some (r1, r2, r3, r4, r5, r6) := by first | (rw [hji111] at H; exact H) | (simp only [hji111] at H ⊢; exact H)
                          (try rw [hji111] at c108b0)
                          have hji111w : (IntKind.i64.wrap (x6_1 + (wrap64 (t170 + 1)))) = ji111 := (i64_w _).trans hji111
                          by_cases c112 : 0 ≤ (ji111)
                          ·rw [if_pos c112] at H
                           have c112b0 := eq_true c112
                           have c112b1 : decide (0 ≤ (ji111)) = true := decide_eq_true c112
                           clear c112
                           by_cases c113 : (ji111) ≤ (wrap64 ((ji111) + x11_3))
                           ·rw [if_pos c113] at H
                            have c113b0 := eq_true c113
                            have c113b1 : decide ((ji111) ≤ (wrap64 ((ji111) + x11_3))) = true := decide_eq_true c113
                            by_cases c114 : (wrap64 ((ji111) + x11_3)) ≤ (a0.size : Int)
                            ·rw [if_pos c114] at H
                             have c114b0 := eq_true c114
                             have c114b1 : decide ((wrap64 ((ji111) + x11_3)) ≤ (a0.size : Int)) = true := decide_eq_true c114
                             simp only [Option.some.injEq, Prod.mk.injEq] at H
                             obtain ⟨rfl, rfl, rfl, rfl, rfl, rfl⟩ := H
                             have hnb115 := NB183_169.out
                             have hnc115 := NB169_183.out
                             have hcz116_0 : wc.cell? ⟨gb183, 0, none⟩ = some (.string t178) := (blk_cell BK183.out 0).trans rfl
                             have hcz116_1 : wc.cell? ⟨gb183, 1, none⟩ = some (.string t179) := (blk_cell BK183.out 1).trans rfl
                             have hcz116_2 : wc.cell? ⟨gb183, 2, none⟩ = some (.string t180) := (blk_cell BK183.out 2).trans rfl
                             have hcz116_3 : wc.cell? ⟨gb183, 3, none⟩ = some (.bool x184003_3) := (blk_cell BK183.out 3).trans rfl
                             have hfz116_0 := blk_frozen BK183.out 0
                             have hfz116_1 := blk_frozen BK183.out 1
                             have hfz116_2 := blk_frozen BK183.out 2
                             have hfz116_3 := blk_frozen BK183.out 3
                             have hcz117_0 : wc.cell? ⟨gb169, 0, none⟩ = some (.string x170000_3) := (blk_cell BK169.out 0).trans rfl
                             have hcz117_1 : wc.cell? ⟨gb169, 1, none⟩ = some (.string x170001_3) := (blk_cell BK169.out 1).trans rfl
                             have hcz117_2 : wc.cell? ⟨gb169, 2, none⟩ = some (.string x170002_3) := (blk_cell BK169.out 2).trans rfl
                             have hcz117_3 : wc.cell? ⟨gb169, 3, none⟩ = some (.bool x170003_3) := (blk_cell BK169.out 3).trans rfl
                             have hfz117_0 := blk_frozen BK169.out 0
                             have hfz117_1 := blk_frozen BK169.out 1
                             have hfz117_2 := blk_frozen BK169.out 2
                             have hfz117_3 := blk_frozen BK169.out 3
                             go_wp2
                             refine bodyPost_ret (results_ctt rfl _ _ gb169 24 #[.string t178, .string t179, .string (a0.extract ((ji111) : Int).toNat ((wrap64 ((ji111) + x11_3)) : Int).toNat), .bool x184003_3] (0, 0) _ rfl (by (with_reducible repeat (first | refine blk_drewN ?_ _ | refine blk_drew ?_ | refine blk_alloc ?_ _)); refine blk_put (cs := #[.string t178, .string t179, .string (a0.extract ((ji111) : Int).toNat ((wrap64 ((ji111) + x11_3)) : Int).toNat), .bool x170003_3]) ?_ 3 _ rfl; (with_reducible repeat (first | refine blk_drewN ?_ _ | refine blk_drew ?_ | refine blk_alloc ?_ _)); refine blk_put (cs := #[.string t178, .string t179, .string x170002_3, .bool x170003_3]) ?_ 2 _ rfl; (with_reducible repeat (first | refine blk_drewN ?_ _ | refine blk_drew ?_ | refine blk_alloc ?_ _)); refine blk_put (cs := #[.string t178, .string x170001_3, .string x170002_3, .bool x170003_3]) ?_ 1 _ rfl; (with_reducible repeat (first | refine blk_drewN ?_ _ | refine blk_drew ?_ | refine blk_alloc ?_ _)); refine blk_put (cs := #[.string x170000_3, .string x170001_3, .string x170002_3, .bool x170003_3]) ?_ 0 _ rfl; (with_reducible repeat (first | refine blk_drewN ?_ _ | refine blk_drew ?_ | refine blk_alloc ?_ _)); refine blk_far ?_ NB169_183.out _; (with_reducible repeat (first | refine blk_drewN ?_ _ | refine blk_drew ?_ | refine blk_alloc ?_ _)); exact BK169.out) Tryd.underlying24 rfl (by kernel_rfl)) rfl ?_
                             exact ⟨by first | rfl | (simp [errW_none, errW_some] <;> rfl) | (simp only [← hji111]; first | rfl | (simp [errW_none, errW_some] <;> rfl)) | (simp [*, errW_none, errW_some] <;> rfl), by repeat (first | (with_reducible first | exact HB.out | apply below_alloc | apply pw_below_drewN | apply below_drew1 | refine below_set ?_ GE169.out | refine below_set ?_ GE183.out) | exact HB.out)⟩
                            ·rw [if_neg c114] at H
                             exact absurd H (by simp)
                           ·rw [if_neg c113] at H
                            exact absurd H (by simp)
                          ·rw [if_neg c112] at H
                           exact absurd H (by simp)
                 ·replace c34 := Bool.eq_false_iff.mpr c34
                  subst c34
                  have H1 : (some ((⟨#[]⟩ : ByteArray), (⟨#[]⟩ : ByteArray), (⟨#[]⟩ : ByteArray), false, 0, 400)) = some (r1, r2, r3, r4, r5, r6) := by rw [if_neg (show ¬ (false = true) by decide)] at H; exact H
                  clear H
                  have H := H1
                  clear H1
                  simp only [Option.some.injEq, Prod.mk.injEq] at H
                  obtain ⟨rfl, rfl, rfl, rfl, rfl, rfl⟩ := H
                  have p177 : 0 ≤ (0 : Int) := (by omega)
                  have q177 : 0 < (x5_1.length : Int) := of_decide_eq_true (by first | (with_reducible assumption) | assumption)
                  obtain ⟨ad177, e177, hx177_0⟩ := Kd.at_string (Kd.R_reads' HO_5.out).2.2 0 p177 q177
                  cases e177
                  have qi177 : (0 < x5_1.length) = True := eq_true (by omega)
                  (try rw [show ((0 : Int)).toNat = 0 from rfl] at hx177_0)
                  (try rw [Addr.add_zero'] at hx177_0)
                  replace p177 := eq_true p177
                  replace q177 := eq_true q177
                  go_wp2_with (first | ((with_reducible refine gate_callee (f := 23) rfl ?_); refine goesL_ (some 77) rfl rfl Tryd.func23 (by kernel_rfl) rfl #[.string (rdOf ByteArray.empty x5_1 0)] rfl (by (try simp only [List.map_toArray, List.map_cons, List.map_nil]); first | done | rfl | (simp only [List.length_drop, List.length_take]; rfl)) ?_; (with_reducible refine (fascineref12_first.calls kj17 (rdOf ByteArray.empty x5_1 0) t178 t179 t180 t181 false _ A33.out).mono ?_); rintro e w118 ⟨rfl, hb⟩; refine ⟨_, rfl, ?_⟩; have n0_ := Aside0.mk (Kd.R_below (by (with_reducible repeat (first | apply Kd.R_alloc | apply Kd.R_drewN | apply Kd.R_drew)); exact HO_5.out) hb); have n1_ := Aside0.mk (blk_below (g := gb169) (o := .cells #[.string x170000_1, .string x170001_1, .string x170002_1, .bool x170003_1] 24 (0, 0)) (by (with_reducible repeat (first | refine blk_drewN ?_ _ | refine blk_drew ?_ | refine blk_alloc ?_ _)); exact BK169.out) hb); have n2_ := Aside0.mk (below_step (by repeat (first | (with_reducible first | exact HB.out | apply below_alloc | apply pw_below_drewN | apply below_drew1 | refine below_set ?_ GE169.out) | exact HB.out)) hb); clear HO_5; clear BK169; clear HB; have HO_5 := n0_; have BK169 := n1_; have HB := n2_; clear n0_ n1_ n2_; (try clear hb); (try clear hb2); (try clear hk); (try clear hi)) | ((with_reducible refine gate_dst (N := 9) rfl ?_); (try (refine gate_guard (by rfl) ?_; dsimp only)); refine box_event ?hg (N := 9) ?hd (cs := #[.string (⟨#[]⟩ : ByteArray), .string (⟨#[]⟩ : ByteArray), .string (⟨#[]⟩ : ByteArray), .bool false]) (t := 24) ?hr ?_; (case hd => rfl); (case hg => rfl); (case hr => first | (go_simp; done) | (go_simp; rfl)); intro gb183 hg w119 hbox hb; have n0_ := Aside0.mk (Kd.R_below (by (with_reducible repeat (first | apply Kd.R_alloc | apply Kd.R_drewN | apply Kd.R_drew)); exact HO_5.out) hb); have n1_ := Aside0.mk (blk_below (g := gb169) (o := .cells #[.string x170000_1, .string x170001_1, .string x170002_1, .bool x170003_1] 24 (0, 0)) (by (with_reducible repeat (first | refine blk_drewN ?_ _ | refine blk_drew ?_ | refine blk_alloc ?_ _)); exact BK169.out) hb); have n2_ := Aside0.mk (below_step (by repeat (first | (with_reducible first | exact HB.out | apply below_alloc | apply pw_below_drewN | apply below_drew1 | refine below_set ?_ GE169.out) | exact HB.out)) hb); have n3_ := Aside0.mk (hbox); have n4_ := Aside0.mk ((by rw [hg]; exact (below_size (by repeat (first | (with_reducible first | exact HB.out | apply below_alloc | apply pw_below_drewN | apply below_drew1 | refine below_set ?_ GE169.out) | exact HB.out))) : w.heap.size ≤ gb183)); have n5_ := Aside0.mk ((by rw [hg]; exact (below_size (by repeat (first | (with_reducible first | exact HB.out | apply below_alloc | apply pw_below_drewN | apply below_drew1 | refine below_set ?_ GE169.out) | exact HB.out))) : w.heap.size ≤ gb183)); have n6_ := Aside0.mk ((by rw [hg]; exact Nat.ne_of_lt (blk_lt (g := gb169) (o := .cells #[.string x170000_1, .string x170001_1, .string x170002_1, .bool x170003_1] 24 (0, 0)) (by (with_reducible repeat (first | refine blk_drewN ?_ _ | refine blk_drew ?_ | refine blk_alloc ?_ _)); exact BK169.out)) : gb169 ≠ gb183)); have n7_ := Aside0.mk ((by rw [hg]; exact Nat.ne_of_gt (blk_lt (g := gb169) (o := .cells #[.string x170000_1, .string x170001_1, .string x170002_1, .bool x170003_1] 24 (0, 0)) (by (with_reducible repeat (first | refine blk_drewN ?_ _ | refine blk_drew ?_ | refine blk_alloc ?_ _)); exact BK169.out)) : gb183 ≠ gb169)); clear HO_5; clear BK169; clear HB; have HO_5 := n0_; have BK169 := n1_; have HB := n2_; have BK183 := n3_; have GW183 := n4_; have GE183 := n5_; have NB169_183 := n6_; have NB183_169 := n7_; clear n0_ n1_ n2_ n3_ n4_ n5_ n6_ n7_; clear hb hbox hg; have hnb120 := NB183_169.out; have hnc120 := NB169_183.out; have hcz121_0 : w119.cell? ⟨gb183, 0, none⟩ = some (.string (⟨#[]⟩ : ByteArray)) := (blk_cell BK183.out 0).trans rfl; have hcz121_1 : w119.cell? ⟨gb183, 1, none⟩ = some (.string (⟨#[]⟩ : ByteArray)) := (blk_cell BK183.out 1).trans rfl; have hcz121_2 : w119.cell? ⟨gb183, 2, none⟩ = some (.string (⟨#[]⟩ : ByteArray)) := (blk_cell BK183.out 2).trans rfl; have hcz121_3 : w119.cell? ⟨gb183, 3, none⟩ = some (.bool false) := (blk_cell BK183.out 3).trans rfl; have hfz121_0 := blk_frozen BK183.out 0; have hfz121_1 := blk_frozen BK183.out 1; have hfz121_2 := blk_frozen BK183.out 2; have hfz121_3 := blk_frozen BK183.out 3; have hcz122_0 : w119.cell? ⟨gb169, 0, none⟩ = some (.string x170000_1) := (blk_cell BK169.out 0).trans rfl; have hcz122_1 : w119.cell? ⟨gb169, 1, none⟩ = some (.string x170001_1) := (blk_cell BK169.out 1).trans rfl; have hcz122_2 : w119.cell? ⟨gb169, 2, none⟩ = some (.string x170002_1) := (blk_cell BK169.out 2).trans rfl; have hcz122_3 : w119.cell? ⟨gb169, 3, none⟩ = some (.bool x170003_1) := (blk_cell BK169.out 3).trans rfl; have hfz122_0 := blk_frozen BK169.out 0; have hfz122_1 := blk_frozen BK169.out 1; have hfz122_2 := blk_frozen BK169.out 2; have hfz122_3 := blk_frozen BK169.out 3))
                  refine bodyPost_ret (results_ctt rfl _ _ gb169 24 #[.string (⟨#[]⟩ : ByteArray), .string (⟨#[]⟩ : ByteArray), .string (⟨#[]⟩ : ByteArray), .bool false] (0, 0) _ rfl (by (with_reducible repeat (first | refine blk_drewN ?_ _ | refine blk_drew ?_ | refine blk_alloc ?_ _)); refine blk_put (cs := #[.string (⟨#[]⟩ : ByteArray), .string (⟨#[]⟩ : ByteArray), .string (⟨#[]⟩ : ByteArray), .bool x170003_1]) ?_ 3 _ rfl; (with_reducible repeat (first | refine blk_drewN ?_ _ | refine blk_drew ?_ | refine blk_alloc ?_ _)); refine blk_put (cs := #[.string (⟨#[]⟩ : ByteArray), .string (⟨#[]⟩ : ByteArray), .string x170002_1, .bool x170003_1]) ?_ 2 _ rfl; (with_reducible repeat (first | refine blk_drewN ?_ _ | refine blk_drew ?_ | refine blk_alloc ?_ _)); refine blk_put (cs := #[.string (⟨#[]⟩ : ByteArray), .string x170001_1, .string x170002_1, .bool x170003_1]) ?_ 1 _ rfl; (with_reducible repeat (first | refine blk_drewN ?_ _ | refine blk_drew ?_ | refine blk_alloc ?_ _)); refine blk_put (cs := #[.string x170000_1, .string x170001_1, .string x170002_1, .bool x170003_1]) ?_ 0 _ rfl; (with_reducible repeat (first | refine blk_drewN ?_ _ | refine blk_drew ?_ | refine blk_alloc ?_ _)); refine blk_far ?_ NB169_183.out _; (with_reducible repeat (first | refine blk_drewN ?_ _ | refine blk_drew ?_ | refine blk_alloc ?_ _)); refine blk_far ?_ NB169_183.out _; (with_reducible repeat (first | refine blk_drewN ?_ _ | refine blk_drew ?_ | refine blk_alloc ?_ _)); refine blk_far ?_ NB169_183.out _; (with_reducible repeat (first | refine blk_drewN ?_ _ | refine blk_drew ?_ | refine blk_alloc ?_ _)); refine blk_far ?_ NB169_183.out _; (with_reducible repeat (first | refine blk_drewN ?_ _ | refine blk_drew ?_ | refine blk_alloc ?_ _)); exact BK169.out) Tryd.underlying24 rfl (by kernel_rfl)) rfl ?_
                  exact ⟨by first | rfl | (simp [errW_none, errW_some] <;> rfl) | (simp [*, errW_none, errW_some] <;> rfl), by repeat (first | (with_reducible first | exact HB.out | apply below_alloc | apply pw_below_drewN | apply below_drew1 | refine below_set ?_ GE169.out | refine below_set ?_ GE183.out) | exact HB.out)⟩
                ·rw [if_neg c32] at H
                 exact absurd H (by simp)
               ·rw [if_neg c31] at H
                have c31b0 : decide (0 < (x5_1.length : Int)) = false := decide_eq_false c31
                have c31b1 : decide (0 < x5_1.length) = false := decide_eq_false (by omega)
                clear c31
                by_cases c123 : x5_1.length < 8796093022208
                ·rw [if_pos c123] at H
                 have LMc123 := Aside0.mk c123
                 clear c123
                 obtain ⟨y171, hy171⟩ : ∃ y_ : List ByteArray, y_ = (x5_1 ++ [a0.extract (x6_1 : Int).toNat ((wrap64 ((wrap64 (x6_1 + t170)) - 1)) : Int).toNat]) := ⟨_, rfl⟩
                 replace H : (fascineref12_Read.l0 kj17 a0 y171 (wrap64 (x6_1 + (wrap64 (t170 + 1))))) = some (r1, r2, r3, r4, r5, r6) := by first | (rw [hy171]; with_reducible exact H) | (have H2_ := (Option.bind_some _ _).symm.trans H; rw [hy171]; with_reducible exact H2_) | (have H2_ := (Option.bind_some _ _).symm.trans H; with_reducible exact H2_) | with_reducible exact H | (rw [hy171]; exact H) | exact H
                 have Ny171 := Aside0.mk hy171
                 clear hy171
                 have H' := Aside0.mk H
                 clear H
                 go_wp2_with (first | ((with_reducible refine gate_builtin (b := .append) (xs := #[.tmp 69, .tmp 71]) rfl ?_); (try (refine gate_guard (by rfl) ?_; dsimp only)); at_builtin; refine Kd.R_append Kd.string (w0 := w) w.heap.size rfl (.tmp 69) (.tmp 71) 42 9 (.string ⟨#[]⟩) 16 rfl Tryd.underlying42 info9 rfl (by decide) (by omega) (.slice Ao19 x5_1.length co19) x5_1 (a0.extract (x6_1 : Int).toNat ((wrap64 ((wrap64 (x6_1 + t170)) - 1)) : Int).toNat) [.string (a0.extract (x6_1 : Int).toNat ((wrap64 ((wrap64 (x6_1 + t170)) - 1)) : Int).toNat)] (fun _ => True) (fun _ => False) rfl rfl ?aP (fun _ hk => hk.elim) ?aF ?aO ?aB ?aS ?aL ?_; (case aP => exact rfl); (case aB => exact (by repeat (first | (with_reducible first | exact HB.out | apply below_alloc | apply pw_below_drewN | apply below_drew1 | refine below_set ?_ GE169.out) | exact HB.out))); (case aF => exact (fun _ _ => trivial)); (case aO => exact (by (with_reducible repeat (first | apply Kd.R_alloc | apply Kd.R_drewN | apply Kd.R_drew)); exact HO_5.out)); (case aS => exact (below_size (by repeat (first | (with_reducible first | exact HB.out | apply below_alloc | apply pw_below_drewN | apply below_drew1 | refine below_set ?_ GE169.out) | exact HB.out)))); (case aL => have := LMc123.out; omega); intro v172 w124 ho hb hg hat; rw [← Ny171.out] at ho; have n0_ := Aside0.mk (blk_grown (g := gb169) (o := .cells #[.string x170000_1, .string x170001_1, .string x170002_1, .bool x170003_1] 24 (0, 0)) (by (with_reducible repeat (first | refine blk_drewN ?_ _ | refine blk_drew ?_ | refine blk_alloc ?_ _)); exact BK169.out) hg (Kd.R_ne HO_5.out BK169.out (by decide))); have n1_ := Aside0.mk (hb); have n2_ := Aside0.mk (ho); clear BK169; clear HB; clear HO_5; have BK169 := n0_; have HB := n1_; have HO173 := n2_; clear n0_ n1_ n2_; clear ho hb hg hat))
                 go_roundg kj17
                 case measure => have := HK1.out; have := HJ17.out; omega
                 case rel => exact ⟨(y171), (wrap64 (x6_1 + (wrap64 (t170 + 1)))), (x170000_1), (x170001_1), (x170002_1), (x170003_1), (by first | rfl | (simp; done) | (simp [*]; done)), H', ⟨by have := HK1.out; have := HJ17.out; omega⟩, ⟨by (with_reducible repeat (first | apply Kd.R_alloc | apply Kd.R_drewN | apply Kd.R_drew)); exact HO173.out⟩, ⟨by (with_reducible repeat (first | refine blk_drewN ?_ _ | refine blk_drew ?_ | refine blk_alloc ?_ _)); exact BK169.out⟩, ⟨by repeat (first | (with_reducible first | exact HB.out | apply below_alloc | apply pw_below_drewN | apply below_drew1 | refine below_set ?_ GE169.out) | exact HB.out)⟩⟩
                ·rw [if_neg c123] at H
                 exact absurd H (by simp)
              ·rw [if_neg c30] at H
               have c30b0 : ((a0.extract (x6_1 : Int).toNat ((wrap64 ((wrap64 (x6_1 + t170)) - 1)) : Int).toNat).toList == ([] : List UInt8)) = false := beq_eq_false_iff_ne.mpr c30
               have c30b1 : ((a0.extract (x6_1 : Int).toNat ((wrap64 ((wrap64 (x6_1 + t170)) - 1)) : Int).toNat).toList != ([] : List UInt8)) = true := bne_iff_ne.mpr c30
               by_cases c125 : x5_1.length < 8796093022208
               ·rw [if_pos c125] at H
                have LMc125 := Aside0.mk c125
                clear c125
                obtain ⟨y174, hy174⟩ : ∃ y_ : List ByteArray, y_ = (x5_1 ++ [a0.extract (x6_1 : Int).toNat ((wrap64 ((wrap64 (x6_1 + t170)) - 1)) : Int).toNat]) := ⟨_, rfl⟩
                replace H : (fascineref12_Read.l0 kj17 a0 y174 (wrap64 (x6_1 + (wrap64 (t170 + 1))))) = some (r1, r2, r3, r4, r5, r6) := by first | (rw [hy174]; with_reducible exact H) | (have H2_ := (Option.bind_some _ _).symm.trans H; rw [hy174]; with_reducible exact H2_) | (have H2_ := (Option.bind_some _ _).symm.trans H; with_reducible exact H2_) | with_reducible exact H | (rw [hy174]; exact H) | exact H
                have Ny174 := Aside0.mk hy174
                clear hy174
                have H' := Aside0.mk H
                clear H
                go_wp2_with (first | ((with_reducible refine gate_builtin (b := .append) (xs := #[.tmp 69, .tmp 71]) rfl ?_); (try (refine gate_guard (by rfl) ?_; dsimp only)); at_builtin; refine Kd.R_append Kd.string (w0 := w) w.heap.size rfl (.tmp 69) (.tmp 71) 42 9 (.string ⟨#[]⟩) 16 rfl Tryd.underlying42 info9 rfl (by decide) (by omega) (.slice Ao19 x5_1.length co19) x5_1 (a0.extract (x6_1 : Int).toNat ((wrap64 ((wrap64 (x6_1 + t170)) - 1)) : Int).toNat) [.string (a0.extract (x6_1 : Int).toNat ((wrap64 ((wrap64 (x6_1 + t170)) - 1)) : Int).toNat)] (fun _ => True) (fun _ => False) rfl rfl ?aP (fun _ hk => hk.elim) ?aF ?aO ?aB ?aS ?aL ?_; (case aP => exact rfl); (case aB => exact (by repeat (first | (with_reducible first | exact HB.out | apply below_alloc | apply pw_below_drewN | apply below_drew1 | refine below_set ?_ GE169.out) | exact HB.out))); (case aF => exact (fun _ _ => trivial)); (case aO => exact (by (with_reducible repeat (first | apply Kd.R_alloc | apply Kd.R_drewN | apply Kd.R_drew)); exact HO_5.out)); (case aS => exact (below_size (by repeat (first | (with_reducible first | exact HB.out | apply below_alloc | apply pw_below_drewN | apply below_drew1 | refine below_set ?_ GE169.out) | exact HB.out)))); (case aL => have := LMc125.out; omega); intro v175 w126 ho hb hg hat; rw [← Ny174.out] at ho; have n0_ := Aside0.mk (blk_grown (g := gb169) (o := .cells #[.string x170000_1, .string x170001_1, .string x170002_1, .bool x170003_1] 24 (0, 0)) (by (with_reducible repeat (first | refine blk_drewN ?_ _ | refine blk_drew ?_ | refine blk_alloc ?_ _)); exact BK169.out) hg (Kd.R_ne HO_5.out BK169.out (by decide))); have n1_ := Aside0.mk (hb); have n2_ := Aside0.mk (ho); clear BK169; clear HB; clear HO_5; have BK169 := n0_; have HB := n1_; have HO176 := n2_; clear n0_ n1_ n2_; clear ho hb hg hat))
                go_roundg kj17
                case measure => have := HK1.out; have := HJ17.out; omega
                case rel => exact ⟨(y174), (wrap64 (x6_1 + (wrap64 (t170 + 1)))), (x170000_1), (x170001_1), (x170002_1), (x170003_1), (by first | rfl | (simp; done) | (simp [*]; done)), H', ⟨by have := HK1.out; have := HJ17.out; omega⟩, ⟨by (with_reducible repeat (first | apply Kd.R_alloc | apply Kd.R_drewN | apply Kd.R_drew)); exact HO176.out⟩, ⟨by (with_reducible repeat (first | refine blk_drewN ?_ _ | refine blk_drew ?_ | refine blk_alloc ?_ _)); exact BK169.out⟩, ⟨by repeat (first | (with_reducible first | exact HB.out | apply below_alloc | apply pw_below_drewN | apply below_drew1 | refine below_set ?_ GE169.out) | exact HB.out)⟩⟩
               ·rw [if_neg c125] at H
                exact absurd H (by simp)
             ·rw [if_neg c29] at H
              exact absurd H (by simp)
            ·rw [if_neg c28] at H
             exact absurd H (by simp)
           ·rw [if_neg c27] at H
            exact absurd H (by simp)
     ·rw [if_neg c7] at H
      exact absurd H (by simp)
    ·rw [if_neg c6] at H
     exact absurd H (by simp)

end Go.Proofs.YtpigloohccpfiaaDoor.PHttpReads
