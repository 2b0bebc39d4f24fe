/- Plain facts on the check sum: one bit's step can be turned back, so unlike bytes have unlike sums. No program in sight. -/
import Derived.Test.YtifbpjkgckkalaaMPack
namespace Go.Proofs.Ytifbpjkgckkalaa.M
open Go.RowKit Go.Proofs.YtifbpjkgckkalaaW.PrintWords Go.Proofs.YtifbpjkgckkalaaW.PrintLast Go.Proofs.YtifbpjkgckkalaaW.PrintMore
set_option linter.unusedVariables false
set_option linter.unusedSimpArgs false

def poly : Nat := 3988292384
def crcStep (c : Nat) : Nat := if c % 2 = 1 then (c / 2) ^^^ 3988292384 else c / 2
def crcBits : Nat → Nat → Nat
  | 0, c => c
  | n + 1, c => crcBits n (crcStep c)
def crcByte (c b : Nat) : Nat := crcBits 8 (c ^^^ b)
def crc : List Int → Nat → Nat
  | [], c => c
  | b :: t, c => crc t (crcByte c b.toNat)
def sumOf (l : List Int) : Nat := 4294967295 ^^^ crc l 4294967295

theorem crcStep_lt {c : Nat} (h : c < 2 ^ 32) : crcStep c < 2 ^ 32 := by
  unfold crcStep
  split
  · exact Nat.xor_lt_two_pow (by omega) (by omega)
  · omega
theorem crcBits_lt : ∀ (n : Nat) {c : Nat}, c < 2 ^ 32 → crcBits n c < 2 ^ 32
  | 0, _, h => h
  | n + 1, _, h => crcBits_lt n (crcStep_lt h)
theorem crcByte_lt {c b : Nat} (h : c < 2 ^ 32) (hb : b < 256) : crcByte c b < 2 ^ 32 := crcBits_lt 8 (Nat.xor_lt_two_pow h (by omega))
theorem crc_lt : ∀ {l : List Int} {c : Nat}, By l → c < 2 ^ 32 → crc l c < 2 ^ 32
  | [], _, _, h => h
  | b :: t, c, hb, h => by
    show crc t (crcByte c b.toNat) < 2 ^ 32
    exact crc_lt hb.tail (crcByte_lt h (by have := hb.head; omega))
theorem sumOf_lt {l : List Int} (h : By l) : sumOf l < 2 ^ 32 := Nat.xor_lt_two_pow (by omega) (crc_lt h (by omega))

theorem crcStep_inj {a b : Nat} (ha : a < 2 ^ 32) (hb : b < 2 ^ 32) (h : crcStep a = crcStep b) : a = b := by
  have big : ∀ c : Nat, c < 2 ^ 32 → 2 ^ 31 ≤ (c / 2) ^^^ 3988292384 := by
    intro c hc
    apply Nat.ge_two_pow_of_testBit
    rw [Nat.testBit_xor, Nat.testBit_lt_two_pow (show c / 2 < 2 ^ 31 by omega)]
    decide
  unfold crcStep at h
  by_cases h1 : a % 2 = 1
  · rw [if_pos h1] at h
    by_cases h2 : b % 2 = 1
    · rw [if_pos h2] at h
      have := congrArg (· ^^^ 3988292384) h
      simp only [Nat.xor_assoc, Nat.xor_self, Nat.xor_zero] at this
      omega
    · rw [if_neg h2] at h
      have := big a ha
      omega
  · rw [if_neg h1] at h
    by_cases h2 : b % 2 = 1
    · rw [if_pos h2] at h
      have := big b hb
      omega
    · rw [if_neg h2] at h
      omega
theorem crcBits_inj : ∀ (n : Nat) {a b : Nat}, a < 2 ^ 32 → b < 2 ^ 32 → crcBits n a = crcBits n b → a = b
  | 0, _, _, _, _, h => h
  | n + 1, _, _, ha, hb, h => crcStep_inj ha hb (crcBits_inj n (crcStep_lt ha) (crcStep_lt hb) h)
theorem xor_left_inj {a b c : Nat} (h : c ^^^ a = c ^^^ b) : a = b := by
  have := congrArg (c ^^^ ·) h
  simp only [← Nat.xor_assoc, Nat.xor_self, Nat.zero_xor] at this
  exact this
theorem xor_right_inj {a b c : Nat} (h : a ^^^ c = b ^^^ c) : a = b := by
  have := congrArg (· ^^^ c) h
  simp only [Nat.xor_assoc, Nat.xor_self, Nat.xor_zero] at this
  exact this
theorem crc_inj : ∀ {l : List Int} {a b : Nat}, By l → a < 2 ^ 32 → b < 2 ^ 32 → crc l a = crc l b → a = b
  | [], _, _, _, _, _, h => h
  | x :: t, a, b, hl, ha, hb, h => by
    have hx : x.toNat < 256 := by have := hl.head; omega
    have := crc_inj hl.tail (crcByte_lt ha hx) (crcByte_lt hb hx) h
    exact xor_right_inj (crcBits_inj 8 (Nat.xor_lt_two_pow ha (by omega)) (Nat.xor_lt_two_pow hb (by omega)) this)
theorem crc_append : ∀ (a b : List Int) (c : Nat), crc (a ++ b) c = crc b (crc a c)
  | [], _, _ => rfl
  | x :: t, b, c => crc_append t b _
/-- one byte turned: another sum -/
theorem sumOf_set {l : List Int} {i : Nat} {x y : Int} (hl : By l) (hi : l[i]? = some x) (hy : 0 ≤ y ∧ y ≤ 255) (hxy : x ≠ y) : sumOf (l.set i y) ≠ sumOf l := by
  intro h
  have h := xor_left_inj h
  have hlt : i < l.length := by
    rcases Nat.lt_or_ge i l.length with h1 | h1
    · exact h1
    · rw [List.getElem?_eq_none h1] at hi; cases hi
  have e1 : l = l.take i ++ x :: l.drop (i + 1) := by
    rw [List.getElem?_eq_getElem hlt] at hi
    rw [← Option.some.inj hi, ← List.drop_eq_getElem_cons hlt, List.take_append_drop]
  have e2 : l.set i y = l.take i ++ y :: l.drop (i + 1) := by
    rw [List.set_eq_take_append_cons_drop, if_pos hlt]
  rw [e2] at h
  have h' : crc (l.take i ++ y :: l.drop (i + 1)) 4294967295 = crc (l.take i ++ x :: l.drop (i + 1)) 4294967295 := by rw [← e1]; exact h
  rw [crc_append, crc_append] at h'
  have hx := hl x (by rw [e1]; simp)
  have hc := crc_lt (hl.take i) (show 4294967295 < 2 ^ 32 by omega)
  have := crc_inj (hl.drop (i + 1)) (crcByte_lt hc (show y.toNat < 256 by omega)) (crcByte_lt hc (show x.toNat < 256 by omega)) h'
  have := xor_left_inj (crcBits_inj 8 (Nat.xor_lt_two_pow hc (by omega)) (Nat.xor_lt_two_pow hc (by omega)) this)
  omega

theorem bits_xor (k : IntKind) (j : Nat) (hj : j ≤ k.bits) (hk : ∀ n : Int, 0 ≤ n → n < 2 ^ j → k.wrap n = n) (a b : Nat) (ha : a < 2 ^ j) (hb : b < 2 ^ j) :
    Go.bits .xor k a b = ((a ^^^ b : Nat) : Int) := by
  have hp : 2 ^ j ≤ 2 ^ k.bits := Nat.pow_le_pow_right (by decide) hj
  have ha' : a % 2 ^ k.bits = a := Nat.mod_eq_of_lt (Nat.lt_of_lt_of_le ha hp)
  have hb' : b % 2 ^ k.bits = b := Nat.mod_eq_of_lt (Nat.lt_of_lt_of_le hb hp)
  have cast : ∀ n : Nat, n < 2 ^ j → ((n : Nat) : Int) < 2 ^ j := fun n h => by exact_mod_cast h
  simp only [Go.bits, BitVec.ofInt_natCast, BitVec.toNat_xor, BitVec.toNat_ofNat, ha', hb']
  exact hk _ (Int.natCast_nonneg _) (cast _ (Nat.xor_lt_two_pow ha hb))
theorem wraps_u32 (n : Int) (h₀ : 0 ≤ n) (h₁ : n < 2 ^ 32) : IntKind.u32.wrap n = n := by rw [IntKind.wrap_u32]; omega
theorem xor_u32 {a b : Nat} (ha : a < 2 ^ 32) (hb : b < 2 ^ 32) : Go.bits .xor .u32 (a : Int) (b : Int) = ((a ^^^ b : Nat) : Int) := bits_xor .u32 32 (by decide) wraps_u32 a b ha hb
theorem xor_u8 {a b : Nat} (ha : a < 2 ^ 8) (hb : b < 2 ^ 8) : Go.bits .xor .u8 (a : Int) (b : Int) = ((a ^^^ b : Nat) : Int) := bits_xor .u8 8 (by decide) wraps_u8 a b ha hb
theorem and1_u32 {x : Int} (h0 : 0 ≤ x) (h1 : x < 2 ^ 32) : Go.bits .and .u32 x 1 = x % 2 := bits_mask .u32 32 (by decide) wraps_u32 1 (by omega) x h0 h1

theorem crc_awake : sumOf [49, 50, 51, 52, 53, 54, 55, 56, 57] = 3421780262 := by decide +kernel
end Go.Proofs.Ytifbpjkgckkalaa.M
