/- Plain facts on the bytes of numbers: 'uv' is a number's bytes, 'ru' reads one. No program in sight. -/
import Derived.Laws.BitsLemmas
import Derived.RowKit
import Derived.Test.YtkoaeiiaagipeaaWMore
namespace Go.Proofs.Ytkoaeiiaagipeaa.M
open Go.RowKit Go.Proofs.YtkoaeiiaagipeaaW.PrintWords Go.Proofs.YtkoaeiiaagipeaaW.PrintLast Go.Proofs.YtkoaeiiaagipeaaW.PrintMore
set_option linter.unusedVariables false
set_option linter.unusedSimpArgs false

theorem w64 {x : Int} (h0 : -9223372036854775808 ≤ x) (h1 : x ≤ 9223372036854775807) : wrap64 x = x := by unfold wrap64; omega
theorem wu64 {x : Int} (h0 : 0 ≤ x) (h1 : x ≤ 18446744073709551615) : IntKind.u64.wrap x = x := by
  simp [IntKind.wrap, IntKind.bits, IntKind.signed]; omega
theorem wu64_def (x : Int) : IntKind.u64.wrap x = x % 18446744073709551616 := by simp [IntKind.wrap, IntKind.bits, IntKind.signed]
theorem wrap64_def (x : Int) : wrap64 x = (x + 9223372036854775808) % 18446744073709551616 - 9223372036854775808 := by unfold wrap64; omega

theorem wsucc {i : Nat} (h : i ≤ 9223372036854775806) : wrap64 ((i : Int) + 1) = ((i + 1 : Nat) : Int) := by rw [w64 (by omega) (by omega)]; omega
theorem wpred {i : Nat} (h : i ≤ 9223372036854775806) (h0 : 0 < i) : wrap64 ((i : Int) - 1) = ((i - 1 : Nat) : Int) := by rw [w64 (by omega) (by omega)]; omega
theorem wf_i64 {x : Int} (h : (Lit.int .i64 x).wf = true) : -9223372036854775808 ≤ x ∧ x ≤ 9223372036854775807 := by
  simpa [Lit.wf, IntKind.min, IntKind.max, IntKind.signed, IntKind.bits] using h
theorem wf_u64 {x : Int} (h : (Lit.int .u64 x).wf = true) : 0 ≤ x ∧ x ≤ 18446744073709551615 := by
  simpa [Lit.wf, IntKind.min, IntKind.max, IntKind.signed, IntKind.bits] using h
theorem wf_u32 {x : Int} (h : (Lit.int .u32 x).wf = true) : 0 ≤ x ∧ x ≤ 4294967295 := by
  simpa [Lit.wf, IntKind.min, IntKind.max, IntKind.signed, IntKind.bits] using h
theorem wf_u16 {x : Int} (h : (Lit.int .u16 x).wf = true) : 0 ≤ x ∧ x ≤ 65535 := by
  simpa [Lit.wf, IntKind.min, IntKind.max, IntKind.signed, IntKind.bits] using h
theorem wf_u8 {x : Int} (h : (Lit.int .u8 x).wf = true) : 0 ≤ x ∧ x ≤ 255 := by
  simpa [Lit.wf, IntKind.min, IntKind.max, IntKind.signed, IntKind.bits] using h

/-- bytes -/
def By (l : List Int) : Prop := ∀ x ∈ l, 0 ≤ x ∧ x ≤ 255
theorem By.of_wf {l : List Int} (h : ∀ x ∈ l, (Lit.int .u8 x).wf = true) : By l := fun x hx => wf_u8 (h x hx)
theorem By.append {a b : List Int} (ha : By a) (hb : By b) : By (a ++ b) := fun x hx => (List.mem_append.1 hx).elim (ha x) (hb x)
theorem By.left {a b : List Int} (h : By (a ++ b)) : By a := fun x hx => h x (List.mem_append_left _ hx)
theorem By.right {a b : List Int} (h : By (a ++ b)) : By b := fun x hx => h x (List.mem_append_right _ hx)
theorem By.tail {a : Int} {b : List Int} (h : By (a :: b)) : By b := fun x hx => h x (List.mem_cons_of_mem _ hx)
theorem By.head {a : Int} {b : List Int} (h : By (a :: b)) : 0 ≤ a ∧ a ≤ 255 := h a List.mem_cons_self
theorem By.drop {a : List Int} (h : By a) (n : Nat) : By (a.drop n) := fun x hx => h x (List.mem_of_mem_drop hx)
theorem By.take {a : List Int} (h : By a) (n : Nat) : By (a.take n) := fun x hx => h x (List.mem_of_mem_take hx)

theorem rd_cons {l t : List Int} {b : Int} {i : Nat} (h : l.drop i = b :: t) : rd l (i : Int) = b := by
  unfold rd
  have : l[i]? = some b := by rw [← List.head?_drop, h]; rfl
  rw [Int.toNat_natCast, List.getD_eq_getElem?_getD, this]; rfl
theorem drop_succ_of {l t : List Int} {b : Int} {i : Nat} (h : l.drop i = b :: t) : l.drop (i + 1) = t := by
  rw [← List.drop_drop, h]; rfl
theorem lt_of_drop {l t : List Int} {b : Int} {i : Nat} (h : l.drop i = b :: t) : i < l.length := by
  have := congrArg List.length h; simp at this; omega
theorem drop_cons_of {l : List Int} {i : Nat} (h : i < l.length) : ∃ b t, l.drop i = b :: t := ⟨_, _, List.drop_eq_getElem_cons h⟩

theorem drop_append_eq {p a b : List Int} {i : Nat} (h : p.drop i = a ++ b) : p.drop (i + a.length) = b := by
  rw [← List.drop_drop, h, List.drop_left]
theorem le_of_drop_append {p a b : List Int} {i : Nat} (h : p.drop i = a ++ b) (hi : i ≤ p.length) : i + a.length + b.length = p.length := by
  have := congrArg List.length h
  simp at this; omega

/-! ### a number as bytes -/
def uv (n : Nat) : List Int := if h : n < 128 then [(n : Int)] else ((n % 128 + 128 : Nat) : Int) :: uv (n / 128)
termination_by n
decreasing_by omega
theorem uv_lt {n : Nat} (h : n < 128) : uv n = [(n : Int)] := by rw [uv, dif_pos h]
theorem uv_ge {n : Nat} (h : ¬ n < 128) : uv n = ((n % 128 + 128 : Nat) : Int) :: uv (n / 128) := by rw [uv, dif_neg h]
theorem uv_pos (n : Nat) : 1 ≤ (uv n).length := by
  by_cases h : n < 128
  · rw [uv_lt h]; simp
  · rw [uv_ge h]; simp
theorem uv_ne (n : Nat) : uv n ≠ [] := fun h => by have := uv_pos n; rw [h] at this; simp at this
theorem uv_len : ∀ (j n : Nat), n < 128 ^ (j + 1) → (uv n).length ≤ j + 1
  | 0, n, h => by rw [uv_lt (by simpa using h)]; simp
  | j + 1, n, h => by
    by_cases c : n < 128
    · rw [uv_lt c]; simp
    · rw [uv_ge c]
      have h2 : n / 128 < 128 ^ (j + 1) := by
        rw [Nat.pow_succ] at h
        exact Nat.div_lt_of_lt_mul (by rw [Nat.mul_comm]; exact h)
      have := uv_len j (n / 128) h2
      simp; omega
theorem uv_len64 {n : Nat} (h : n < 18446744073709551616) : (uv n).length ≤ 10 :=
  uv_len 9 n (Nat.lt_of_lt_of_le h (by decide))
theorem uv_by (n : Nat) : By (uv n) := by
  induction n using Nat.strongRecOn with
  | _ n ih =>
    by_cases h : n < 128
    · rw [uv_lt h]; intro x hx; simp at hx; omega
    · rw [uv_ge h]; intro x hx
      rcases List.mem_cons.1 hx with h1 | h1
      · omega
      · exact ih (n / 128) (by omega) x h1

/-! ### reading one: the number, and how many bytes it took -/
def ru : List Int → Nat → Option (Nat × Nat)
  | [], _ => none
  | b :: t, n => if n = 9 ∧ b > 1 ∨ b = 0 ∧ n > 0 then none else if b < 128 then some (b.toNat, 1) else
      match ru t (n + 1) with
      | none => none
      | some (v, c) => some ((b - 128).toNat + 128 * v, c + 1)

/-- what is left of the 64 bits behind n bytes -/
def lim (n : Nat) : Nat := 2 ^ (64 - 7 * n)
theorem lim_succ : ∀ n : Nat, n < 9 → lim n = 128 * lim (n + 1) := by
  intro n h
  have : ∀ n : Fin 9, lim n.1 = 128 * lim (n.1 + 1) := by decide
  exact this ⟨n, h⟩
theorem lim_nine : lim 9 = 2 := by decide
theorem lim_zero : lim 0 = 18446744073709551616 := by decide
theorem lim_ge : ∀ n : Nat, n < 9 → 256 ≤ lim n := by
  intro n h
  have : ∀ n : Fin 9, 256 ≤ lim n.1 := by decide
  exact this ⟨n, h⟩

theorem ru_uv (r : List Int) (v : Nat) : ∀ n, n ≤ 9 → v < lim n → (n = 0 ∨ 0 < v) → ru (uv v ++ r) n = some (v, (uv v).length) := by
  induction v using Nat.strongRecOn with
  | _ v ih =>
    intro n hn hv h0
    by_cases h : v < 128
    · rw [uv_lt h]
      have hc : ¬ (n = 9 ∧ (v : Int) > 1 ∨ (v : Int) = 0 ∧ n > 0) := by
        intro hc
        rcases hc with ⟨h1, h2⟩ | ⟨h1, h2⟩
        · subst h1; rw [lim_nine] at hv; omega
        · omega
      simp only [List.cons_append, List.nil_append, ru]
      rw [if_neg hc, if_pos (by omega)]
      simp
    · rw [uv_ge h]
      have hn9 : n < 9 := by
        rcases Nat.lt_or_ge n 9 with h1 | h1
        · exact h1
        · have : n = 9 := by omega
          subst this; rw [lim_nine] at hv; omega
      have hc : ¬ (n = 9 ∧ ((v % 128 + 128 : Nat) : Int) > 1 ∨ ((v % 128 + 128 : Nat) : Int) = 0 ∧ n > 0) := by omega
      have hl := lim_succ n hn9
      have e := ih (v / 128) (by omega) (n + 1) (by omega) (by omega) (Or.inr (by omega))
      simp only [List.cons_append, ru]
      rw [if_neg hc, if_neg (by omega), e]
      simp only [List.length_cons, Option.some.injEq, Prod.mk.injEq, and_true]
      omega

theorem ru_some : ∀ (l : List Int) (n v c : Nat), By l → n ≤ 9 → ru l n = some (v, c) → (∃ r, l = uv v ++ r) ∧ c = (uv v).length ∧ v < lim n ∧ (n = 0 ∨ 0 < v)
  | [], n, v, c, _, _, h => by simp [ru] at h
  | b :: t, n, v, c, hb, hn, h => by
    have hb0 := hb.head
    simp only [ru] at h
    by_cases hc : n = 9 ∧ b > 1 ∨ b = 0 ∧ n > 0
    · rw [if_pos hc] at h; cases h
    · rw [if_neg hc] at h
      by_cases h1 : b < 128
      · rw [if_pos h1] at h
        simp only [Option.some.injEq, Prod.mk.injEq] at h
        obtain ⟨rfl, rfl⟩ := h
        have e : uv b.toNat = [b] := by rw [uv_lt (by omega)]; congr 1; omega
        refine ⟨⟨t, by rw [e]; rfl⟩, by rw [e]; rfl, ?_, by omega⟩
        rcases Nat.lt_or_ge n 9 with h9 | h9
        · have := lim_ge n h9; omega
        · have : n = 9 := by omega
          subst this; rw [lim_nine]; omega
      · rw [if_neg h1] at h
        have hn9 : n < 9 := by omega
        cases e : ru t (n + 1) with
        | none => rw [e] at h; cases h
        | some q =>
          obtain ⟨v', c'⟩ := q
          rw [e] at h
          simp only [Option.some.injEq, Prod.mk.injEq] at h
          obtain ⟨rfl, rfl⟩ := h
          obtain ⟨⟨r, hr⟩, hc', hl', h0'⟩ := ru_some t (n + 1) v' c' hb.tail (by omega) e
          have hv : 0 < v' := by omega
          have hl := lim_succ n hn9
          have e2 : uv ((b - 128).toNat + 128 * v') = b :: uv v' := by
            rw [uv_ge (by omega)]
            congr 1
            · omega
            · congr 1; omega
          refine ⟨⟨r, by rw [e2, hr]; rfl⟩, by rw [e2, hc']; rfl, by omega, by omega⟩
theorem ru_le {l : List Int} {n v c : Nat} (hb : By l) (hn : n ≤ 9) (h : ru l n = some (v, c)) : 1 ≤ c ∧ c ≤ l.length := by
  obtain ⟨⟨r, hr⟩, hc, _⟩ := ru_some l n v c hb hn h
  have := uv_pos v
  have e := congrArg List.length hr
  simp at e
  omega

/-- a number read at a place: it, the place behind it, the error's number -/
def readU (p : List Int) (at_ : Int) : Int × Int × Int :=
  if at_ < 0 ∨ at_ > (p.length : Int) then (0, 0, 1) else
    match ru (p.drop at_.toNat) 0 with
    | none => (0, 0, 3)
    | some (v, c) => ((v : Int), at_ + c, 0)

/-- where it is read well: the bytes are the number's own -/
theorem readU_ok {p : List Int} {i : Int} {v j : Int} {e : Int} (hp : By p) (h : readU p i = (v, j, e)) :
    (e = 0 ∧ 0 ≤ i ∧ 0 ≤ v ∧ v < 18446744073709551616 ∧ (∃ r, p.drop i.toNat = uv v.toNat ++ r) ∧ j = i + (uv v.toNat).length ∧ j ≤ p.length) ∨ (v = 0 ∧ j = 0 ∧ (e = 3 ∧ 0 ≤ i ∧ i ≤ p.length ∨ e = 1 ∧ (i < 0 ∨ i > p.length))) := by
  unfold readU at h
  by_cases hc : i < 0 ∨ i > (p.length : Int)
  · rw [if_pos hc] at h
    simp only [Prod.mk.injEq] at h
    right; omega
  · rw [if_neg hc] at h
    cases e1 : ru (p.drop i.toNat) 0 with
    | none => rw [e1] at h; simp only [Prod.mk.injEq] at h; right; omega
    | some q =>
      obtain ⟨v', c'⟩ := q
      rw [e1] at h
      simp only [Prod.mk.injEq] at h
      obtain ⟨rfl, rfl, rfl⟩ := h
      obtain ⟨⟨r, hr⟩, hc', hl', _⟩ := ru_some _ 0 v' c' (hp.drop _) (by omega) e1
      rw [lim_zero] at hl'
      left
      have el := congrArg List.length hr
      simp at el
      refine ⟨rfl, by omega, by omega, by omega, ⟨r, by simpa using hr⟩, by simp [hc'], by omega⟩
theorem readU_at {p r : List Int} {i v : Nat} (h : p.drop i = uv v ++ r) (hi : i ≤ p.length) (hv : v < 18446744073709551616) : readU p (i : Int) = ((v : Int), (i : Int) + (uv v).length, 0) := by
  unfold readU
  rw [if_neg (by omega), Int.toNat_natCast, h, ru_uv r v 0 (by omega) (by rw [lim_zero]; exact hv) (Or.inl rfl)]

/-- a prefix of a number's bytes is no number -/
theorem ru_short : ∀ (v k n : Nat), k < (uv v).length → n + k ≤ 9 → ru ((uv v).take k) n = none := by
  intro v
  induction v using Nat.strongRecOn with
  | _ v ih =>
    intro k n hk hn
    cases k with
    | zero => simp [ru]
    | succ k =>
      by_cases h : v < 128
      · rw [uv_lt h] at hk; simp at hk
      · rw [uv_ge h] at hk ⊢
        simp only [List.length_cons] at hk
        have e := ih (v / 128) (by omega) k (n + 1) (by omega) (by omega)
        simp only [List.take_succ_cons, ru]
        rw [if_neg (by omega), if_neg (by omega), e]

/-! ### strings out of bytes -/
theorem strOf_list (l : List Int) : (strOfNums l).toList = l.map fun n => UInt8.ofNat n.toNat := by rw [ByteArray.toList_eq]; rfl
theorem ofNat_inj {a b : Int} (ha : 0 ≤ a ∧ a ≤ 255) (hb : 0 ≤ b ∧ b ≤ 255) (h : UInt8.ofNat a.toNat = UInt8.ofNat b.toNat) : a = b := by
  have h1 := congrArg UInt8.toNat h
  simp only [UInt8.toNat_ofNat'] at h1
  omega
theorem map_ofNat_inj : ∀ {a b : List Int}, By a → By b → a.map (fun n => UInt8.ofNat n.toNat) = b.map (fun n => UInt8.ofNat n.toNat) → a = b
  | [], [], _, _, _ => rfl
  | [], _ :: _, _, _, h => by simp at h
  | _ :: _, [], _, _, h => by simp at h
  | x :: a, y :: b, ha, hb, h => by
    simp only [List.map_cons, List.cons.injEq] at h
    rw [ofNat_inj ha.head hb.head h.1, map_ofNat_inj ha.tail hb.tail h.2]
theorem strOf_inj {a b : List Int} (ha : By a) (hb : By b) : (strOfNums a).toList = (strOfNums b).toList ↔ a = b :=
  ⟨fun h => map_ofNat_inj ha hb (by rwa [strOf_list, strOf_list] at h), fun h => by rw [h]⟩
theorem strOf_ne {a b : List Int} (ha : By a) (hb : By b) : ((strOfNums a).toList != (strOfNums b).toList) = decide (a ≠ b) := by
  rw [Bool.eq_iff_iff]; simp [strOf_inj ha hb]
theorem strOf_beq {a b : List Int} (ha : By a) (hb : By b) : ((strOfNums a).toList == (strOfNums b).toList) = decide (a = b) := by
  rw [Bool.eq_iff_iff]; simp [strOf_inj ha hb]

/-! ### bits -/
theorem bits_or128 {y : Int} (h0 : 0 ≤ y) (h1 : y < 256) : Go.bits .or .u8 y 128 = if y < 128 then y + 128 else y := by
  have h : ∀ y : Fin 256, Go.bits .or .u8 (y.1 : Int) 128 = if (y.1 : Int) < 128 then (y.1 : Int) + 128 else (y.1 : Int) := by decide +kernel
  obtain ⟨n, rfl⟩ := Int.eq_ofNat_of_zero_le h0
  exact h ⟨n, by omega⟩
theorem bits_and127 {y : Int} (h0 : 0 ≤ y) (h1 : y < 256) : Go.bits .and .u8 y 127 = y % 128 := by
  have h : ∀ y : Fin 256, Go.bits .and .u8 (y.1 : Int) 127 = (y.1 : Int) % 128 := by decide +kernel
  obtain ⟨n, rfl⟩ := Int.eq_ofNat_of_zero_le h0
  exact h ⟨n, by omega⟩
theorem wraps_u64 (n : Int) (h₀ : 0 ≤ n) (h₁ : n < 2 ^ 64) : IntKind.u64.wrap n = n := wu64 h₀ (by omega)
/-- low bits and high bits -/
theorem or_u64 (x h i : Nat) (hx : x < 2 ^ i) (hs : x + 2 ^ i * h < 2 ^ 64) : Go.bits .or .u64 (x : Int) ((2 ^ i * h : Nat) : Int) = ((x + 2 ^ i * h : Nat) : Int) := by
  rw [(bits_nat .u64 64 (by decide) wraps_u64 x (2 ^ i * h) (by omega) (by omega)).2, Nat.or_comm, ← Nat.two_pow_add_eq_or_of_lt hx h, Nat.add_comm]

/-- the low bits of bytes, the last ones highest -/
def fo (l : List Int) : Int := l.foldr (fun b x => x * 128 + b % 128) 0
theorem fo_cons (b : Int) (l : List Int) : fo (b :: l) = fo l * 128 + b % 128 := rfl
theorem fo_uv (v : Nat) : fo (uv v) = v := by
  induction v using Nat.strongRecOn with
  | _ v ih =>
    by_cases h : v < 128
    · rw [uv_lt h]; simp only [fo_cons]; simp only [fo, List.foldr_nil]; omega
    · rw [uv_ge h, fo_cons, ih (v / 128) (by omega)]; omega
/-- all but the last byte of a number are great -/
theorem uv_high : ∀ (v i : Nat), i + 1 < (uv v).length → ∃ b, (uv v)[i]? = some b ∧ 128 ≤ b := by
  intro v
  induction v using Nat.strongRecOn with
  | _ v ih =>
    intro i hi
    by_cases h : v < 128
    · rw [uv_lt h] at hi; simp at hi
    · rw [uv_ge h] at hi ⊢
      simp only [List.length_cons] at hi
      cases i with
      | zero => exact ⟨_, rfl, by omega⟩
      | succ i => obtain ⟨b, hb, h1⟩ := ih (v / 128) (by omega) i (by omega); exact ⟨b, by simpa using hb, h1⟩
theorem uv_last : ∀ (v i : Nat), i + 1 = (uv v).length → ∃ b, (uv v)[i]? = some b ∧ b < 128 := by
  intro v
  induction v using Nat.strongRecOn with
  | _ v ih =>
    intro i hi
    by_cases h : v < 128
    · rw [uv_lt h] at hi ⊢; simp at hi; subst hi; exact ⟨_, rfl, by omega⟩
    · rw [uv_ge h] at hi ⊢
      simp only [List.length_cons] at hi
      cases i with
      | zero => have := uv_pos (v / 128); omega
      | succ i => obtain ⟨b, hb, h1⟩ := ih (v / 128) (by omega) i (by omega); exact ⟨b, by simpa using hb, h1⟩

end Go.Proofs.Ytkoaeiiaagipeaa.M
