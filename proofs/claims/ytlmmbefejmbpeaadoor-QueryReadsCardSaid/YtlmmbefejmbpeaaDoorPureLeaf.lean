/- Words, pairs and times by themselves, plainly. -/
import Derived.Lib.SpaceUEq
import Derived.Lib.ItoaNum
import Derived.Lib.ItoaMem
import Derived.Lib.ItoaLen
import Derived.Lib.AtoiAllCases
import Derived.Lib.ParseIntBTie
import Derived.Test.YtlmmbefejmbpeaaDoorMWords
import Derived.Test.YtlmmbefejmbpeaaDoorQryR
namespace Go.Proofs.YtlmmbefejmbpeaaDoor.M
open Go.RowKit Go.Lib Go.Proofs.YtlmmbefejmbpeaaDoor.G Go.Proofs.YtlmmbefejmbpeaaDoorW.PrintWords Go.Proofs.YtlmmbefejmbpeaaDoorW.PrintLast Go.Proofs.YtlmmbefejmbpeaaDoorW.PrintMore
set_option linter.unusedVariables false
set_option linter.unusedSimpArgs false

def sh (k : Nat) (w : Wd) : Wd := ⟨w.text, w.st + k, w.en + k⟩
/-- a text of characters that are letters, each as it stands in a word -/
def Solid (x : List UInt8) : Prop := ∃ L : List (List UInt8), x = L.flatten ∧ ∀ y ∈ L, y ≠ [] ∧ ∀ r, tok (y ++ r) = (y, y.length)
theorem Solid.nil : Solid [] := ⟨[], rfl, fun y h => by cases h⟩
theorem Solid.one {y : List UInt8} (h0 : y ≠ []) (h : ∀ r, tok (y ++ r) = (y, y.length)) : Solid y := ⟨[y], by simp, fun z hz => by rw [List.mem_singleton.1 hz]; exact ⟨h0, h⟩⟩
/-- The words of words parted by blanks. -/
def blanks : List Wd → List UInt8
  | [] => []
  | w :: r => w.text ++ 32 :: blanks r
/-! ### great letters for small ones -/
end Go.Proofs.YtlmmbefejmbpeaaDoor.M
namespace Go.Proofs.YtlmmbefejmbpeaaDoor.M
open Go
set_option linter.unusedVariables false
theorem dig_nat {d : Nat} (h : d < 10) : (UInt8.ofNat (48 + d)).toNat = 48 + d := by
  rw [UInt8.toNat_ofNat']
  omega
theorem p10_one {acc d : Nat} (hd : d < 10) (ha : acc < 1844674407370955162) (h : acc * 10 + d < 18446744073709551616) (r : List UInt8) :
    Lib.parseUint10 acc (UInt8.ofNat (48 + d) :: r) = Lib.parseUint10 (acc * 10 + d) r := by
  rw [Lib.parseUint10, dig_nat hd, if_pos (by omega), if_neg (by omega), if_neg (by omega)]
  congr 1
  omega
theorem p10_dec : ∀ (u : Nat), u < 18446744073709551616 → ∀ r, Lib.parseUint10 0 (Lib.decDigits u ++ r) = Lib.parseUint10 u r := by
  intro u
  induction u using Nat.strongRecOn with
  | ind u ih =>
    intro hu r
    rw [Lib.decDigits]
    by_cases h : u < 10
    · rw [dif_pos h]
      have := p10_one (acc := 0) h (by omega) (by omega) r
      simpa using this
    · rw [dif_neg h, List.append_assoc, ih (u / 10) (by omega) (by omega)]
      have := p10_one (acc := u / 10) (d := u % 10) (by omega) (by omega) (by omega) r
      rw [show u / 10 * 10 + u % 10 = u from by omega] at this
      simpa using this
theorem dec_ne (u : Nat) : Lib.decDigits u ≠ [] := by
  rw [Lib.decDigits]; split <;> simp
theorem mag_dec {u : Nat} (hu : u < 18446744073709551616) : Lib.parseMag (Lib.decDigits u) = .ok u := by
  unfold Lib.parseMag
  rw [if_neg (dec_ne u)]
  have := p10_dec u hu []
  rw [List.append_nil] at this
  rw [this, Lib.parseUint10]
theorem dec_digits : ∀ (u : Nat), ∀ c ∈ Lib.decDigits u, 48 ≤ c.toNat ∧ c.toNat ≤ 57 := by
  intro u
  induction u using Nat.strongRecOn with
  | ind u ih =>
    intro c hc
    rw [Lib.decDigits] at hc
    by_cases h : u < 10
    · rw [dif_pos h] at hc
      rw [List.mem_singleton] at hc
      rw [hc, dig_nat h]
      omega
    · rw [dif_neg h] at hc
      rcases List.mem_append.1 hc with hc | hc
      · exact ih (u / 10) (by omega) c hc
      · rw [List.mem_singleton] at hc
        rw [hc, dig_nat (by omega)]
        omega
theorem parse_itoa (n : Int) (h0 : -9223372036854775808 ≤ n) (h1 : n ≤ 9223372036854775807) : Lib.parseIntB 64 (Lib.itoa n) = .ok n := by
  rw [Lib.parseIntB_64]
  unfold Lib.itoa
  by_cases h : n < 0
  · rw [if_pos h]
    unfold Lib.atoiAll
    have e : (45 : UInt8).toNat = 45 := rfl
    simp only [e]
    rw [if_pos (by decide), mag_dec (by omega)]
    simp only
    rw [if_neg (by simp), if_neg (by simp; omega), if_pos trivial]
    congr 1
    omega
  · rw [if_neg h]
    obtain ⟨c, r, hcr⟩ := List.exists_cons_of_ne_nil (dec_ne n.toNat)
    have hc := dec_digits n.toNat c (by rw [hcr]; exact List.mem_cons_self)
    unfold Lib.atoiAll
    rw [hcr]
    simp only
    rw [if_neg (by omega), ← hcr, mag_dec (by omega)]
    simp only
    rw [if_neg (by omega), if_neg (by omega), if_neg (by omega)]
    congr 1
    omega
end Go.Proofs.YtlmmbefejmbpeaaDoor.M
namespace Go.Proofs.Qp
set_option linter.unusedVariables false
section
variable {Q : Type} {l : List UInt8} (mk : Int → List Q → Q) (leaf : List UInt8 → Option Q)
end
end Go.Proofs.Qp
namespace Go.Proofs.YtlmmbefejmbpeaaDoor.M
open Go.RowKit Go.Proofs.Qp Go.Proofs.YtlmmbefejmbpeaaDoor.PQry0
set_option linter.unusedVariables false
end Go.Proofs.YtlmmbefejmbpeaaDoor.M
