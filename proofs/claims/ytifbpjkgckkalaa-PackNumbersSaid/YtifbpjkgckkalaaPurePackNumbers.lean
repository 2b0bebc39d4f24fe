/- On the printed functions of PackNumbers: what each of them answers, in plain words. -/
import Derived.Test.YtifbpjkgckkalaaPPackNumbersx
import Derived.Test.YtifbpjkgckkalaaMSum
namespace Go.Proofs.Ytifbpjkgckkalaa.Pure
open Go.RowKit Go.Proofs.Ytifbpjkgckkalaa.PPackNumbers Go.Proofs.YtifbpjkgckkalaaW.PrintWords Go.Proofs.YtifbpjkgckkalaaW.PrintLast Go.Proofs.YtifbpjkgckkalaaW.PrintMore Go.Proofs.Ytifbpjkgckkalaa.M
set_option linter.unusedVariables false
set_option linter.unusedSimpArgs false

theorem pack_Uvarint_l (n : Nat) : ∀ (k : Nat) (acc : List Int), (uv n).length ≤ k → acc.length + (uv n).length ≤ 140737488355328 → pack_Uvarint.l0 k (n : Int) acc = some (acc ++ uv n) := by
  induction n using Nat.strongRecOn with
  | _ n ih =>
    intro k acc hk ha
    obtain ⟨k, rfl⟩ : ∃ m, k = m + 1 := ⟨k - 1, by have := uv_pos n; omega⟩
    by_cases h : n < 128
    · rw [uv_lt h] at ha ⊢
      simp only [List.length_cons, List.length_nil] at ha
      simp only [pack_Uvarint.l0]
      rw [if_neg (by omega), if_pos (by omega), Int.emod_eq_of_lt (by omega) (by omega)]
    · rw [uv_ge h] at hk ha ⊢
      simp only [List.length_cons] at hk ha
      simp only [pack_Uvarint.l0]
      rw [if_pos (by omega), if_pos (by omega), bits_or128 (by omega) (by omega), show ((n : Int) / 128) = ((n / 128 : Nat) : Int) from by omega, ih (n / 128) (by omega) k _ (by omega) (by simp; omega)]
      rw [List.append_assoc, List.cons_append, List.nil_append, show (if (n : Int) % 256 < 128 then (n : Int) % 256 + 128 else (n : Int) % 256) = ((n % 128 + 128 : Nat) : Int) from by split <;> omega]
theorem pack_Uvarint_is {n : Int} {k : Nat} (h0 : 0 ≤ n) (h1 : n < 18446744073709551616) (hk : 10 ≤ k) : pack_Uvarint.f k n = some (uv n.toNat) := by
  obtain ⟨n, rfl⟩ := Int.eq_ofNat_of_zero_le h0
  have := uv_len64 (n := n) (by omega)
  unfold pack_Uvarint.f
  rw [pack_Uvarint_l n k [] (by omega) (by simp; omega)]; simp

theorem fascineref01_Uvarint_l (n : Nat) : ∀ (k : Nat) (acc : List Int), n < 18446744073709551616 → (uv n).length ≤ k → acc.length + (uv n).length ≤ 140737488355328 → fascineref01_Uvarint.l0 k (n : Int) acc = some (acc ++ uv n) := by
  induction n using Nat.strongRecOn with
  | _ n ih =>
    intro k acc hn hk ha
    obtain ⟨k, rfl⟩ : ∃ m, k = m + 1 := ⟨k - 1, by have := uv_pos n; omega⟩
    by_cases h : n < 128
    · rw [uv_lt h] at ha ⊢
      simp only [List.length_cons, List.length_nil] at ha
      simp only [fascineref01_Uvarint.l0]
      rw [if_neg (by omega), if_pos (by omega), Int.emod_eq_of_lt (by omega) (by omega)]
    · rw [uv_ge h] at hk ha ⊢
      simp only [List.length_cons] at hk ha
      simp only [fascineref01_Uvarint.l0]
      rw [if_pos (by omega), if_pos (by omega), Int.tdiv_eq_ediv_of_nonneg (by omega), Int.tmod_eq_emod_of_nonneg (by omega), show ((n : Int) / 128) = ((n / 128 : Nat) : Int) from by omega, wu64 (by omega) (by omega), ih (n / 128) (by omega) k _ (by omega) (by omega) (by simp; omega)]
      rw [List.append_assoc, List.cons_append, List.nil_append, show ((n : Int) % 128 + 128) % 256 = ((n % 128 + 128 : Nat) : Int) from by omega]
theorem fascineref01_Uvarint_is {n : Int} {k : Nat} (h0 : 0 ≤ n) (h1 : n < 18446744073709551616) (hk : 10 ≤ k) : fascineref01_Uvarint.f k n = some (uv n.toNat) := by
  obtain ⟨n, rfl⟩ := Int.eq_ofNat_of_zero_le h0
  have := uv_len64 (n := n) (by omega)
  unfold fascineref01_Uvarint.f
  rw [fascineref01_Uvarint_l n k [] (by omega) (by omega) (by simp; omega)]; simp

theorem pack_ReadUvarint_step (x b : Int) (n i : Nat) (hb : 0 ≤ b ∧ b ≤ 255) (hn : n ≤ 9) (h9 : n = 9 → b ≤ 1) (hx0 : 0 ≤ x) (hx : x < ((2 ^ (7 * n) : Nat) : Int)) :
    Go.bits .or .u64 x (shl .u64 (IntKind.u64.wrap (Go.bits .and .u8 b 127)) ((7 * n : Nat) : Int)) = x + ((2 ^ (7 * n) : Nat) : Int) * (b % 128) ∧ (x + ((2 ^ (7 * n) : Nat) : Int) * (b % 128) < ((2 ^ (7 * n) : Nat) : Int) * 128) := by
  obtain ⟨y, rfl⟩ := Int.eq_ofNat_of_zero_le hx0
  obtain ⟨c, hc⟩ := Int.eq_ofNat_of_zero_le (show 0 ≤ b % 128 by omega)
  have hP : ∀ m : Fin 9, 2 ^ (7 * m.1) * 128 ≤ 9223372036854775808 := by decide
  have hP9 : 2 ^ (7 * 9) * 2 = 18446744073709551616 := by decide
  have hP9' : 2 ^ (7 * 9) = 9223372036854775808 := by decide
  have hy : y < 2 ^ (7 * n) := by omega
  have hm : 2 ^ (7 * n) * c ≤ 2 ^ (7 * n) * 127 := Nat.mul_le_mul_left _ (by omega)
  have hs : y + 2 ^ (7 * n) * c < 2 ^ 64 := by
    rcases Nat.lt_or_ge n 9 with h | h
    · have := hP ⟨n, h⟩; simp only at this; omega
    · have e : n = 9 := by omega
      subst e
      have h1 := h9 rfl
      have : 2 ^ (7 * 9) * c ≤ 2 ^ (7 * 9) * 1 := Nat.mul_le_mul_left _ (by omega)
      omega
  have e := or_u64 y c (7 * n) hy hs
  constructor
  · rw [bits_and127 hb.1 (by omega), hc, wu64 (by omega) (by omega)]
    unfold shl
    rw [show min (((7 * n : Nat) : Int)).toNat (IntKind.u64).bits = 7 * n from by rw [Int.toNat_natCast, show (IntKind.u64).bits = 64 from rfl]; omega]
    rw [show ((c : Int) * 2 ^ (7 * n)) = ((2 ^ (7 * n) * c : Nat) : Int) from by simp [Int.mul_comm], wu64 (by omega) (by omega), e]
    simp
  · rw [hc]
    have : y + 2 ^ (7 * n) * c < 2 ^ (7 * n) * 128 := by omega
    exact_mod_cast this

theorem pack_ReadUvarint_round (p : List Int) (a : Nat) (hp : By p) (hl : p.length ≤ 140737488355328) (m n k : Nat) (x : Int) (hmn : m + n = 9) (hk : 2 * m + 2 ≤ k) (hx0 : 0 ≤ x) (hx : x < ((2 ^ (7 * n) : Nat) : Int))
    (ih : 0 < m → ∀ (k : Nat) (x : Int), 2 * (m - 1) + 2 ≤ k → 0 ≤ x → x < ((2 ^ (7 * (n + 1)) : Nat) : Int) → pack_ReadUvarint.l0 k p (a : Int) x ((a + (n + 1) : Nat) : Int) = some (match ru (p.drop (a + (n + 1))) (n + 1) with | none => (0, 0, 3) | some (v, c) => (x + ((2 ^ (7 * (n + 1)) : Nat) : Int) * (v : Int), ((a + (n + 1) + c : Nat) : Int), 0))) :
    pack_ReadUvarint.l0 k p (a : Int) x ((a + n : Nat) : Int) = some (match ru (p.drop (a + n)) n with | none => (0, 0, 3) | some (v, c) => (x + ((2 ^ (7 * n) : Nat) : Int) * (v : Int), ((a + n + c : Nat) : Int), 0)) := by
  obtain ⟨k, rfl⟩ : ∃ j, k = j + 2 := ⟨k - 2, by omega⟩
  rcases hd : p.drop (a + n) with _ | ⟨b, t⟩
  · have hge : p.length ≤ a + n := List.drop_eq_nil_iff.1 hd
    simp only [pack_ReadUvarint.l0]
    rw [if_neg (by omega)]; simp only [ru]
  · have hlt := lt_of_drop hd
    have hr := rd_cons hd
    have hb : 0 ≤ b ∧ b ≤ 255 := (hp.drop (a + n)) b (by rw [hd]; exact List.mem_cons_self)
    have hs := drop_succ_of hd
    have hw : wrap64 (((a + n : Nat) : Int) - (a : Int)) = (n : Int) := by rw [w64 (by omega) (by omega)]; omega
    simp only [pack_ReadUvarint.l0]
    rw [if_pos (by omega), if_pos (by omega), hw, hr]
    have hall : ∀ (T : Bool → Option (Int × Int × Int)), (if (n : Int) = 9 then (if b > 1 then T true else (if b = 0 then T (decide ((n : Int) > 0)) else T false)) else (if b = 0 then T (decide ((n : Int) > 0)) else T false)) = T (decide (n = 9 ∧ b > 1 ∨ b = 0 ∧ n > 0)) := by
      intro T
      by_cases h1 : n = 9
      · subst h1
        rw [if_pos (by omega)]
        by_cases h2 : b > 1
        · rw [if_pos h2]; congr 1; first | (rw [decide_eq_decide]; omega) | (symm; rw [decide_eq_true_iff]; omega) | (symm; rw [decide_eq_false_iff_not]; omega)
        · rw [if_neg h2]
          by_cases h3 : b = 0
          · rw [if_pos h3]; congr 1; first | (rw [decide_eq_decide]; omega) | (symm; rw [decide_eq_true_iff]; omega) | (symm; rw [decide_eq_false_iff_not]; omega)
          · rw [if_neg h3]; congr 1; first | (rw [decide_eq_decide]; omega) | (symm; rw [decide_eq_true_iff]; omega) | (symm; rw [decide_eq_false_iff_not]; omega)
      · rw [if_neg (by omega)]
        by_cases h3 : b = 0
        · rw [if_pos h3]; congr 1; first | (rw [decide_eq_decide]; omega) | (symm; rw [decide_eq_true_iff]; omega) | (symm; rw [decide_eq_false_iff_not]; omega)
        · rw [if_neg h3]; congr 1; first | (rw [decide_eq_decide]; omega) | (symm; rw [decide_eq_true_iff]; omega) | (symm; rw [decide_eq_false_iff_not]; omega)
    have hall := hall (fun z => pack_ReadUvarint.j2 (k + 1) p (a : Int) x ((a + n : Nat) : Int) (n : Int) b z)
    rw [hall]
    simp only [pack_ReadUvarint.j2, ru, decide_eq_true_eq]
    by_cases hc : n = 9 ∧ b > 1 ∨ b = 0 ∧ n > 0
    · rw [if_pos hc, if_pos hc]
    · rw [if_neg hc, if_neg hc]
      obtain ⟨e1, e2⟩ := pack_ReadUvarint_step x b n 0 hb (by omega) (by omega) hx0 hx
      rw [show wrap64 (7 * (n : Int)) = ((7 * n : Nat) : Int) from by rw [w64 (by omega) (by omega)]; omega, if_pos (by omega), e1]
      rw [show wrap64 (((a + n : Nat) : Int) + 1) = ((a + (n + 1) : Nat) : Int) from by rw [w64 (by omega) (by omega)]; omega]
      by_cases h1 : b < 128
      · rw [if_pos h1, if_pos h1]
        simp only [Option.some.injEq, Prod.mk.injEq, and_true]
        refine ⟨?_, by omega⟩
        rw [show b % 128 = (b.toNat : Int) from by omega]
      · rw [if_neg h1, if_neg h1]
        have hP : (2 ^ (7 * (n + 1)) : Nat) = 2 ^ (7 * n) * 128 := by rw [show 7 * (n + 1) = 7 * n + 7 from by omega, Nat.pow_add]
        have h0 : 0 ≤ ((2 ^ (7 * n) : Nat) : Int) * (b % 128) := Int.mul_nonneg (by omega) (by omega)
        rw [ih (by omega) k _ (by omega) (by omega) (by rw [hP]; simpa using e2), show a + (n + 1) = a + n + 1 from by omega, hs]
        cases hq : ru t (n + 1) with
        | none => rfl
        | some q =>
          obtain ⟨v, c⟩ := q
          simp only [Option.some.injEq, Prod.mk.injEq, and_true]
          refine ⟨?_, by omega⟩
          rw [hP, show b % 128 = (((b - 128).toNat : Nat) : Int) from by omega]
          have hring : ∀ P y w : Int, x + P * y + P * 128 * w = x + P * (y + 128 * w) := fun P y w => by rw [Int.mul_add, Int.mul_assoc, Int.add_assoc]
          push_cast
          exact hring _ _ _

theorem pack_ReadUvarint_l (p : List Int) (a : Nat) (hp : By p) (hl : p.length ≤ 140737488355328) (m : Nat) : ∀ (n k : Nat) (x : Int), m + n = 9 → 2 * m + 2 ≤ k → 0 ≤ x → x < ((2 ^ (7 * n) : Nat) : Int) →
    pack_ReadUvarint.l0 k p (a : Int) x ((a + n : Nat) : Int) = some (match ru (p.drop (a + n)) n with | none => (0, 0, 3) | some (v, c) => (x + ((2 ^ (7 * n) : Nat) : Int) * (v : Int), ((a + n + c : Nat) : Int), 0)) := by
  induction m with
  | zero =>
    intro n k x hmn hk hx0 hx
    exact pack_ReadUvarint_round p a hp hl 0 n k x hmn hk hx0 hx (fun h => by omega)
  | succ m ih =>
    intro n k x hmn hk hx0 hx
    exact pack_ReadUvarint_round p a hp hl (m + 1) n k x hmn hk hx0 hx (fun _ k x hk' hx0 hx => ih (n + 1) k x (by omega) (by omega) hx0 hx)

theorem pack_ReadUvarint_is {p : List Int} {i : Int} {k : Nat} (hp : By p) (hl : p.length ≤ 140737488355328) (hk : 21 ≤ k) : pack_ReadUvarint.f k p i = some (readU p i) := by
  obtain ⟨k, rfl⟩ : ∃ j, k = j + 1 := ⟨k - 1, by omega⟩
  unfold pack_ReadUvarint.f readU
  by_cases h0 : i < 0
  · rw [if_pos h0, if_pos (Or.inl h0)]; simp only [pack_ReadUvarint.j0, if_true]
  · rw [if_neg h0]
    by_cases h1 : i > (p.length : Int)
    · rw [if_pos (Or.inr h1)]; simp only [pack_ReadUvarint.j0, decide_eq_true h1, if_true]
    · obtain ⟨a, rfl⟩ := Int.eq_ofNat_of_zero_le (show 0 ≤ i by omega)
      rw [if_neg (by omega)]
      simp only [pack_ReadUvarint.j0, decide_eq_true_eq]
      rw [if_neg h1]
      have e := pack_ReadUvarint_l p a hp hl 9 0 k 0 (by omega) (by omega) (by omega) (by simp)
      simp only [Nat.add_zero] at e
      rw [e, Int.toNat_natCast]
      cases ru (p.drop a) 0 with
      | none => rfl
      | some q => obtain ⟨v, c⟩ := q; simp

theorem xor_ones {x : Int} (h0 : 0 ≤ x) (h1 : x < 18446744073709551616) : Go.bits .xor .u64 x 18446744073709551615 = 18446744073709551615 - x := by
  obtain ⟨n, rfl⟩ := Int.eq_ofNat_of_zero_le h0
  have e : BitVec.ofInt (IntKind.u64).bits 18446744073709551615 = BitVec.allOnes 64 := (show BitVec.ofInt 64 18446744073709551615 = BitVec.allOnes 64 by decide)
  have hb : (BitVec.ofInt 64 (n : Int) ^^^ BitVec.allOnes 64).toNat = 18446744073709551615 - n := by
    rw [BitVec.xor_allOnes, BitVec.toNat_not, BitVec.ofInt_natCast, BitVec.toNat_ofNat, Nat.mod_eq_of_lt (by omega)]
  unfold Go.bits
  simp only [e]
  show IntKind.u64.wrap ((BitVec.ofInt 64 (n : Int) ^^^ BitVec.allOnes 64).toNat : Int) = _
  rw [hb, wu64 (by omega) (by omega)]
  omega
theorem xor_minus {x : Int} (h0 : 0 ≤ x) (h1 : x < 9223372036854775808) : Go.bits .xor .i64 x (-1) = -1 - x := by
  obtain ⟨n, rfl⟩ := Int.eq_ofNat_of_zero_le h0
  have e : BitVec.ofInt (IntKind.i64).bits (-1) = BitVec.allOnes 64 := (show BitVec.ofInt 64 (-1) = BitVec.allOnes 64 by decide)
  have hb : (BitVec.ofInt 64 (n : Int) ^^^ BitVec.allOnes 64).toNat = 18446744073709551615 - n := by
    rw [BitVec.xor_allOnes, BitVec.toNat_not, BitVec.ofInt_natCast, BitVec.toNat_ofNat, Nat.mod_eq_of_lt (by omega)]
  unfold Go.bits
  simp only [e]
  show IntKind.i64.wrap ((BitVec.ofInt 64 (n : Int) ^^^ BitVec.allOnes 64).toNat : Int) = _
  rw [hb, IntKind.wrap_i64]
  omega
theorem xor_zero_u64 {x : Int} (h0 : 0 ≤ x) (h1 : x < 18446744073709551616) : Go.bits .xor .u64 x 0 = x := by
  obtain ⟨n, rfl⟩ := Int.eq_ofNat_of_zero_le h0
  have := bits_xor .u64 64 (by decide) wraps_u64 n 0 (by omega) (by omega)
  rw [Nat.xor_zero] at this
  exact this
theorem xor_zero_i64 {x : Int} (h0 : 0 ≤ x) (h1 : x < 9223372036854775808) : Go.bits .xor .i64 x 0 = x := by
  obtain ⟨n, rfl⟩ := Int.eq_ofNat_of_zero_le h0
  have := bits_xor .i64 63 (by decide) (fun n h0 h1 => by rw [IntKind.wrap_i64]; omega) n 0 (by omega) (by omega)
  rw [Nat.xor_zero] at this
  exact this
theorem and1_u64 {x : Int} (h0 : 0 ≤ x) (h1 : x < 18446744073709551616) : Go.bits .and .u64 x 1 = x % 2 := bits_mask .u64 64 (by decide) wraps_u64 1 (by omega) x h0 (by omega)
def zig (v : Int) : Int := if v ≥ 0 then 2 * v else -2 * v - 1
def zag (u : Int) : Int := if u % 2 = 0 then u / 2 else -(u / 2) - 1
theorem pack_Zig_is {v : Int} (h : -9223372036854775808 ≤ v ∧ v ≤ 9223372036854775807) : pack_Zig.f v = some (zig v) := by
  unfold pack_Zig.f zig
  by_cases h0 : v ≥ 0
  · rw [if_pos h0, wu64 (x := v) (by omega) (by omega), wu64 (x := v * 2) (by omega) (by omega), show v / 9223372036854775808 = 0 from by omega, wu64 (by omega) (by omega), xor_zero_u64 (by omega) (by omega), Int.mul_comm]
  · rw [if_neg h0, wu64_def, wu64_def, wu64_def, show v / 9223372036854775808 = -1 from by omega, show (-1 : Int) % 18446744073709551616 = 18446744073709551615 from rfl, xor_ones (by omega) (by omega)]
    congr 1; omega
theorem pack_Zag_is {u : Int} (h : 0 ≤ u ∧ u ≤ 18446744073709551615) : pack_Zag.f u = some (zag u) := by
  unfold pack_Zag.f zag
  rw [and1_u64 (by omega) (by omega), w64 (x := u / 2) (by omega) (by omega), w64 (x := u % 2) (by omega) (by omega), w64 (by omega) (by omega)]
  by_cases h0 : u % 2 = 0
  · rw [if_pos h0, h0, show -(0 : Int) = 0 from rfl, xor_zero_i64 (by omega) (by omega)]
  · rw [if_neg h0, show u % 2 = 1 from by omega, xor_minus (by omega) (by omega)]
    congr 1; omega

theorem fascineref01_Zig_is {v : Int} (h : -9223372036854775808 ≤ v ∧ v ≤ 9223372036854775807) : fascineref01_Zig.f v = some (zig v) := by
  unfold fascineref01_Zig.f zig
  by_cases h0 : v ≥ 0
  · rw [if_pos h0, if_pos h0, wu64 (x := v) (by omega) (by omega), wu64 (by omega) (by omega)]
  · rw [if_neg h0, if_neg h0, w64 (x := v + 1) (by omega) (by omega), w64 (by omega) (by omega), wu64 (x := -(v + 1)) (by omega) (by omega), wu64 (x := 2 * -(v + 1)) (by omega) (by omega), wu64 (by omega) (by omega)]
    congr 1; omega
theorem fascineref01_Zag_is {u : Int} (h : 0 ≤ u ∧ u ≤ 18446744073709551615) : fascineref01_Zag.f u = some (zag u) := by
  unfold fascineref01_Zag.f zag
  rw [Int.tmod_eq_emod_of_nonneg (by omega), Int.tdiv_eq_ediv_of_nonneg (by omega), wu64 (x := u / 2) (by omega) (by omega), w64 (x := u / 2) (by omega) (by omega), w64 (x := -(u / 2)) (by omega) (by omega), w64 (by omega) (by omega)]
  split <;> rfl

theorem pack_Zig_minus : pack_Zig.f (-1) = some 1 := by
  unfold pack_Zig.f
  decide +kernel

theorem pack_Sum_l1 (l : List Int) (i : Nat) (j : Nat) : ∀ (k c : Nat), j ≤ 8 → j + 1 ≤ k → c < 2 ^ 32 → ∃ k', k ≤ k' + j + 1 ∧ pack_Sum.l1 k (c : Int) l (l.length : Int) (i : Int) ((8 - j : Nat) : Int) = pack_Sum.l0 k' ((crcBits j c : Nat) : Int) l (l.length : Int) (wrap64 ((i : Int) + 1)) := by
  induction j with
  | zero =>
    intro k c hj hk hc
    obtain ⟨k, rfl⟩ : ∃ m, k = m + 1 := ⟨k - 1, by omega⟩
    refine ⟨k, by omega, ?_⟩
    simp only [pack_Sum.l1]
    rw [if_neg (by omega)]; rfl
  | succ j ih =>
    intro k c hj hk hc
    obtain ⟨k, rfl⟩ : ∃ m, k = m + 1 := ⟨k - 1, by omega⟩
    obtain ⟨k', h1, h2⟩ := ih k (crcStep c) (by omega) (by omega) (crcStep_lt hc)
    refine ⟨k', by omega, ?_⟩
    show _ = pack_Sum.l0 k' ((crcBits j (crcStep c) : Nat) : Int) l (l.length : Int) (wrap64 ((i : Int) + 1))
    rw [← h2]
    simp only [pack_Sum.l1]
    rw [if_pos (by omega), and1_u32 (by omega) (by omega), show wrap64 (((8 - (j + 1) : Nat) : Int) + 1) = ((8 - j : Nat) : Int) from by rw [w64 (by omega) (by omega)]; omega]
    unfold crcStep
    by_cases h : c % 2 = 1
    · rw [if_pos (by omega), if_pos h, show ((c : Int) / 2) = ((c / 2 : Nat) : Int) from by omega]
      rw [show (3988292384 : Int) = ((3988292384 : Nat) : Int) from rfl, xor_u32 (by omega) (by omega)]
    · rw [if_neg (by omega), if_neg h, show ((c : Int) / 2) = ((c / 2 : Nat) : Int) from by omega]
theorem pack_Sum_l0 (l : List Int) (hl : By l) (hn : l.length ≤ 140737488355328) : ∀ (t : List Int) (i k c : Nat), l.drop i = t → 10 * t.length + 1 ≤ k → c < 2 ^ 32 → pack_Sum.l0 k (c : Int) l (l.length : Int) (i : Int) = some ((4294967295 ^^^ crc t c : Nat) : Int)
  | [], i, k, c, hd, hk, hc => by
    obtain ⟨k, rfl⟩ : ∃ m, k = m + 1 := ⟨k - 1, by omega⟩
    have := List.drop_eq_nil_iff.1 hd
    simp only [pack_Sum.l0]
    rw [if_neg (by omega), show (4294967295 : Int) = ((4294967295 : Nat) : Int) from rfl, xor_u32 (by omega) hc]; rfl
  | b :: t, i, k, c, hd, hk, hc => by
    simp only [List.length_cons] at hk
    obtain ⟨k, rfl⟩ : ∃ m, k = m + 1 := ⟨k - 1, by omega⟩
    have hlt := lt_of_drop hd
    have hb : 0 ≤ b ∧ b ≤ 255 := (hl.drop i) b (by rw [hd]; exact List.mem_cons_self)
    obtain ⟨n, rfl⟩ := Int.eq_ofNat_of_zero_le hb.1
    simp only [pack_Sum.l0]
    rw [if_pos (by omega), if_pos (by omega), if_pos (by omega), rd_cons hd, Int.emod_eq_of_lt (by omega) (by omega), xor_u32 hc (by omega)]
    obtain ⟨k', h1, h2⟩ := pack_Sum_l1 l i 8 k (c ^^^ n) (by omega) (by omega) (Nat.xor_lt_two_pow hc (by omega))
    rw [show ((8 - 8 : Nat) : Int) = 0 from rfl] at h2
    rw [h2, show wrap64 ((i : Int) + 1) = ((i + 1 : Nat) : Int) from by rw [w64 (by omega) (by omega)]; omega]
    rw [pack_Sum_l0 l hl hn t (i + 1) k' _ (drop_succ_of hd) (by omega) (crcBits_lt 8 (Nat.xor_lt_two_pow hc (by omega)))]
    rfl
theorem pack_Sum_is {l : List Int} {k : Nat} (hl : By l) (hn : l.length ≤ 140737488355328) (hk : 10 * l.length + 1 ≤ k) : pack_Sum.f k l = some (sumOf l : Int) :=
  pack_Sum_l0 l hl hn l 0 k 4294967295 rfl hk (by omega)

theorem fascinelaw01_awake_is {k : Nat} (hk : 91 ≤ k) : fascinelaw01_awake.f k = some true := by
  unfold fascinelaw01_awake.f
  rw [pack_Uvarint_is (by omega) (by omega) (by omega), Option.bind_some, show uv (300 : Int).toNat = [172, 2] from by rw [uv_ge (by decide), uv_lt (by decide)]; rfl, if_pos (by rw [strOf_list]; rfl), pack_Zig_minus, Option.bind_some, if_pos rfl]
  rw [pack_Sum_is (fun x hx => by simp at hx; omega) (by simp) (by simpa using hk), Option.bind_some, crc_awake]
  rfl

theorem PackNumbers : fascinelaw01_PackNumbers.Pure := by
  intro u v hu hv
  have hu := wf_u64 hu
  have hv := wf_i64 hv
  refine ⟨200, ?_⟩
  unfold fascinelaw01_PackNumbers.f
  have hb := uv_by u.toNat
  have hlen := uv_len64 (n := u.toNat) (by omega)
  have hread := readU_at (p := uv u.toNat) (i := 0) (v := u.toNat) (r := []) (by simp) (by omega) (by omega)
  rw [show ((0 : Nat) : Int) = 0 from rfl] at hread
  have hz : 0 ≤ zig v ∧ zig v ≤ 18446744073709551615 := by unfold zig; split <;> omega
  have hz2 : -9223372036854775808 ≤ zag u ∧ zag u ≤ 9223372036854775807 := by unfold zag; split <;> omega
  have e1 : zag (zig v) = v := by
    unfold zig zag
    by_cases h : v ≥ 0
    · rw [if_pos h, if_pos (by omega)]; omega
    · rw [if_neg h, if_neg (by omega)]; omega
  have e2 : zig (zag u) = u := by
    unfold zig zag
    by_cases h : u % 2 = 0
    · rw [if_pos h, if_pos (by omega)]; omega
    · rw [if_neg h, if_neg (by omega)]; omega
  rw [fascinelaw01_awake_is (by omega), Option.bind_some, if_pos rfl, pack_Uvarint_is (by omega) (by omega) (by omega), Option.bind_some, pack_ReadUvarint_is hb (by omega) (by omega), Option.bind_some, hread]
  simp only
  rw [fascineref01_Uvarint_is (by omega) (by omega) (by omega), Option.bind_some, if_pos rfl, if_pos (by omega), if_pos (by omega)]
  simp only [pack_Zig_is hv, fascineref01_Zig_is hv, pack_Zag_is hu, fascineref01_Zag_is hu, Option.bind_some, pack_Zag_is hz, pack_Zig_is hz2, e1, e2, if_true]
  simp

end Go.Proofs.Ytifbpjkgckkalaa.Pure
