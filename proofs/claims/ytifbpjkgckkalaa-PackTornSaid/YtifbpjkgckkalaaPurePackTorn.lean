/- On the printed functions of PackTorn: what each of them answers, in plain words. -/
import Derived.Test.YtifbpjkgckkalaaPPackTornx
import Derived.Test.YtifbpjkgckkalaaMSum
namespace Go.Proofs.Ytifbpjkgckkalaa.Pure
open Go.RowKit Go.Proofs.Ytifbpjkgckkalaa.PPackTorn Go.Proofs.YtifbpjkgckkalaaW.PrintWords Go.Proofs.YtifbpjkgckkalaaW.PrintLast Go.Proofs.YtifbpjkgckkalaaW.PrintMore Go.Proofs.Ytifbpjkgckkalaa.M
set_option linter.unusedVariables false
set_option linter.unusedSimpArgs false

theorem pack_Uvarint_l (n : Nat) : ∀ (k : Nat) (acc : List Int), (uv n).length ≤ k → acc.length + (uv n).length ≤ 140737488355328 → pack_Uvarint.l0 k (n : Int) acc = some (acc ++ uv n) := by
  induction n using Nat.strongRecOn with
  | _ n ih =>
    intro k acc hk ha
    obtain ⟨k, rfl⟩ : ∃ m, k = m + 1 := ⟨k - 1, by have := uv_pos n; omega⟩
    by_cases h : n < 128
    · rw [uv_lt h] at ha ⊢
      simp only [List.length_cons, List.length_nil] at ha
      simp only [pack_Uvarint.l0]
      rw [if_neg (by omega), if_pos (by omega), Int.emod_eq_of_lt (by omega) (by omega)]
    · rw [uv_ge h] at hk ha ⊢
      simp only [List.length_cons] at hk ha
      simp only [pack_Uvarint.l0]
      rw [if_pos (by omega), if_pos (by omega), bits_or128 (by omega) (by omega), show ((n : Int) / 128) = ((n / 128 : Nat) : Int) from by omega, ih (n / 128) (by omega) k _ (by omega) (by simp; omega)]
      rw [List.append_assoc, List.cons_append, List.nil_append, show (if (n : Int) % 256 < 128 then (n : Int) % 256 + 128 else (n : Int) % 256) = ((n % 128 + 128 : Nat) : Int) from by split <;> omega]
theorem pack_Uvarint_is {n : Int} {k : Nat} (h0 : 0 ≤ n) (h1 : n < 18446744073709551616) (hk : 10 ≤ k) : pack_Uvarint.f k n = some (uv n.toNat) := by
  obtain ⟨n, rfl⟩ := Int.eq_ofNat_of_zero_le h0
  have := uv_len64 (n := n) (by omega)
  unfold pack_Uvarint.f
  rw [pack_Uvarint_l n k [] (by omega) (by simp; omega)]; simp

theorem pack_ReadUvarint_step (x b : Int) (n i : Nat) (hb : 0 ≤ b ∧ b ≤ 255) (hn : n ≤ 9) (h9 : n = 9 → b ≤ 1) (hx0 : 0 ≤ x) (hx : x < ((2 ^ (7 * n) : Nat) : Int)) :
    Go.bits .or .u64 x (shl .u64 (IntKind.u64.wrap (Go.bits .and .u8 b 127)) ((7 * n : Nat) : Int)) = x + ((2 ^ (7 * n) : Nat) : Int) * (b % 128) ∧ (x + ((2 ^ (7 * n) : Nat) : Int) * (b % 128) < ((2 ^ (7 * n) : Nat) : Int) * 128) := by
  obtain ⟨y, rfl⟩ := Int.eq_ofNat_of_zero_le hx0
  obtain ⟨c, hc⟩ := Int.eq_ofNat_of_zero_le (show 0 ≤ b % 128 by omega)
  have hP : ∀ m : Fin 9, 2 ^ (7 * m.1) * 128 ≤ 9223372036854775808 := by decide
  have hP9 : 2 ^ (7 * 9) * 2 = 18446744073709551616 := by decide
  have hP9' : 2 ^ (7 * 9) = 9223372036854775808 := by decide
  have hy : y < 2 ^ (7 * n) := by omega
  have hm : 2 ^ (7 * n) * c ≤ 2 ^ (7 * n) * 127 := Nat.mul_le_mul_left _ (by omega)
  have hs : y + 2 ^ (7 * n) * c < 2 ^ 64 := by
    rcases Nat.lt_or_ge n 9 with h | h
    · have := hP ⟨n, h⟩; simp only at this; omega
    · have e : n = 9 := by omega
      subst e
      have h1 := h9 rfl
      have : 2 ^ (7 * 9) * c ≤ 2 ^ (7 * 9) * 1 := Nat.mul_le_mul_left _ (by omega)
      omega
  have e := or_u64 y c (7 * n) hy hs
  constructor
  · rw [bits_and127 hb.1 (by omega), hc, wu64 (by omega) (by omega)]
    unfold shl
    rw [show min (((7 * n : Nat) : Int)).toNat (IntKind.u64).bits = 7 * n from by rw [Int.toNat_natCast, show (IntKind.u64).bits = 64 from rfl]; omega]
    rw [show ((c : Int) * 2 ^ (7 * n)) = ((2 ^ (7 * n) * c : Nat) : Int) from by simp [Int.mul_comm], wu64 (by omega) (by omega), e]
    simp
  · rw [hc]
    have : y + 2 ^ (7 * n) * c < 2 ^ (7 * n) * 128 := by omega
    exact_mod_cast this

theorem pack_ReadUvarint_round (p : List Int) (a : Nat) (hp : By p) (hl : p.length ≤ 140737488355328) (m n k : Nat) (x : Int) (hmn : m + n = 9) (hk : 2 * m + 2 ≤ k) (hx0 : 0 ≤ x) (hx : x < ((2 ^ (7 * n) : Nat) : Int))
    (ih : 0 < m → ∀ (k : Nat) (x : Int), 2 * (m - 1) + 2 ≤ k → 0 ≤ x → x < ((2 ^ (7 * (n + 1)) : Nat) : Int) → pack_ReadUvarint.l0 k p (a : Int) x ((a + (n + 1) : Nat) : Int) = some (match ru (p.drop (a + (n + 1))) (n + 1) with | none => (0, 0, 3) | some (v, c) => (x + ((2 ^ (7 * (n + 1)) : Nat) : Int) * (v : Int), ((a + (n + 1) + c : Nat) : Int), 0))) :
    pack_ReadUvarint.l0 k p (a : Int) x ((a + n : Nat) : Int) = some (match ru (p.drop (a + n)) n with | none => (0, 0, 3) | some (v, c) => (x + ((2 ^ (7 * n) : Nat) : Int) * (v : Int), ((a + n + c : Nat) : Int), 0)) := by
  obtain ⟨k, rfl⟩ : ∃ j, k = j + 2 := ⟨k - 2, by omega⟩
  rcases hd : p.drop (a + n) with _ | ⟨b, t⟩
  · have hge : p.length ≤ a + n := List.drop_eq_nil_iff.1 hd
    simp only [pack_ReadUvarint.l0]
    rw [if_neg (by omega)]; simp only [ru]
  · have hlt := lt_of_drop hd
    have hr := rd_cons hd
    have hb : 0 ≤ b ∧ b ≤ 255 := (hp.drop (a + n)) b (by rw [hd]; exact List.mem_cons_self)
    have hs := drop_succ_of hd
    have hw : wrap64 (((a + n : Nat) : Int) - (a : Int)) = (n : Int) := by rw [w64 (by omega) (by omega)]; omega
    simp only [pack_ReadUvarint.l0]
    rw [if_pos (by omega), if_pos (by omega), hw, hr]
    have hall : ∀ (T : Bool → Option (Int × Int × Int)), (if (n : Int) = 9 then (if b > 1 then T true else (if b = 0 then T (decide ((n : Int) > 0)) else T false)) else (if b = 0 then T (decide ((n : Int) > 0)) else T false)) = T (decide (n = 9 ∧ b > 1 ∨ b = 0 ∧ n > 0)) := by
      intro T
      by_cases h1 : n = 9
      · subst h1
        rw [if_pos (by omega)]
        by_cases h2 : b > 1
        · rw [if_pos h2]; congr 1; first | (rw [decide_eq_decide]; omega) | (symm; rw [decide_eq_true_iff]; omega) | (symm; rw [decide_eq_false_iff_not]; omega)
        · rw [if_neg h2]
          by_cases h3 : b = 0
          · rw [if_pos h3]; congr 1; first | (rw [decide_eq_decide]; omega) | (symm; rw [decide_eq_true_iff]; omega) | (symm; rw [decide_eq_false_iff_not]; omega)
          · rw [if_neg h3]; congr 1; first | (rw [decide_eq_decide]; omega) | (symm; rw [decide_eq_true_iff]; omega) | (symm; rw [decide_eq_false_iff_not]; omega)
      · rw [if_neg (by omega)]
        by_cases h3 : b = 0
        · rw [if_pos h3]; congr 1; first | (rw [decide_eq_decide]; omega) | (symm; rw [decide_eq_true_iff]; omega) | (symm; rw [decide_eq_false_iff_not]; omega)
        · rw [if_neg h3]; congr 1; first | (rw [decide_eq_decide]; omega) | (symm; rw [decide_eq_true_iff]; omega) | (symm; rw [decide_eq_false_iff_not]; omega)
    have hall := hall (fun z => pack_ReadUvarint.j2 (k + 1) p (a : Int) x ((a + n : Nat) : Int) (n : Int) b z)
    rw [hall]
    simp only [pack_ReadUvarint.j2, ru, decide_eq_true_eq]
    by_cases hc : n = 9 ∧ b > 1 ∨ b = 0 ∧ n > 0
    · rw [if_pos hc, if_pos hc]
    · rw [if_neg hc, if_neg hc]
      obtain ⟨e1, e2⟩ := pack_ReadUvarint_step x b n 0 hb (by omega) (by omega) hx0 hx
      rw [show wrap64 (7 * (n : Int)) = ((7 * n : Nat) : Int) from by rw [w64 (by omega) (by omega)]; omega, if_pos (by omega), e1]
      rw [show wrap64 (((a + n : Nat) : Int) + 1) = ((a + (n + 1) : Nat) : Int) from by rw [w64 (by omega) (by omega)]; omega]
      by_cases h1 : b < 128
      · rw [if_pos h1, if_pos h1]
        simp only [Option.some.injEq, Prod.mk.injEq, and_true]
        refine ⟨?_, by omega⟩
        rw [show b % 128 = (b.toNat : Int) from by omega]
      · rw [if_neg h1, if_neg h1]
        have hP : (2 ^ (7 * (n + 1)) : Nat) = 2 ^ (7 * n) * 128 := by rw [show 7 * (n + 1) = 7 * n + 7 from by omega, Nat.pow_add]
        have h0 : 0 ≤ ((2 ^ (7 * n) : Nat) : Int) * (b % 128) := Int.mul_nonneg (by omega) (by omega)
        rw [ih (by omega) k _ (by omega) (by omega) (by rw [hP]; simpa using e2), show a + (n + 1) = a + n + 1 from by omega, hs]
        cases hq : ru t (n + 1) with
        | none => rfl
        | some q =>
          obtain ⟨v, c⟩ := q
          simp only [Option.some.injEq, Prod.mk.injEq, and_true]
          refine ⟨?_, by omega⟩
          rw [hP, show b % 128 = (((b - 128).toNat : Nat) : Int) from by omega]
          have hring : ∀ P y w : Int, x + P * y + P * 128 * w = x + P * (y + 128 * w) := fun P y w => by rw [Int.mul_add, Int.mul_assoc, Int.add_assoc]
          push_cast
          exact hring _ _ _

theorem pack_ReadUvarint_l (p : List Int) (a : Nat) (hp : By p) (hl : p.length ≤ 140737488355328) (m : Nat) : ∀ (n k : Nat) (x : Int), m + n = 9 → 2 * m + 2 ≤ k → 0 ≤ x → x < ((2 ^ (7 * n) : Nat) : Int) →
    pack_ReadUvarint.l0 k p (a : Int) x ((a + n : Nat) : Int) = some (match ru (p.drop (a + n)) n with | none => (0, 0, 3) | some (v, c) => (x + ((2 ^ (7 * n) : Nat) : Int) * (v : Int), ((a + n + c : Nat) : Int), 0)) := by
  induction m with
  | zero =>
    intro n k x hmn hk hx0 hx
    exact pack_ReadUvarint_round p a hp hl 0 n k x hmn hk hx0 hx (fun h => by omega)
  | succ m ih =>
    intro n k x hmn hk hx0 hx
    exact pack_ReadUvarint_round p a hp hl (m + 1) n k x hmn hk hx0 hx (fun _ k x hk' hx0 hx => ih (n + 1) k x (by omega) (by omega) hx0 hx)

theorem pack_ReadUvarint_is {p : List Int} {i : Int} {k : Nat} (hp : By p) (hl : p.length ≤ 140737488355328) (hk : 21 ≤ k) : pack_ReadUvarint.f k p i = some (readU p i) := by
  obtain ⟨k, rfl⟩ : ∃ j, k = j + 1 := ⟨k - 1, by omega⟩
  unfold pack_ReadUvarint.f readU
  by_cases h0 : i < 0
  · rw [if_pos h0, if_pos (Or.inl h0)]; simp only [pack_ReadUvarint.j0, if_true]
  · rw [if_neg h0]
    by_cases h1 : i > (p.length : Int)
    · rw [if_pos (Or.inr h1)]; simp only [pack_ReadUvarint.j0, decide_eq_true h1, if_true]
    · obtain ⟨a, rfl⟩ := Int.eq_ofNat_of_zero_le (show 0 ≤ i by omega)
      rw [if_neg (by omega)]
      simp only [pack_ReadUvarint.j0, decide_eq_true_eq]
      rw [if_neg h1]
      have e := pack_ReadUvarint_l p a hp hl 9 0 k 0 (by omega) (by omega) (by omega) (by simp)
      simp only [Nat.add_zero] at e
      rw [e, Int.toNat_natCast]
      cases ru (p.drop a) 0 with
      | none => rfl
      | some q => obtain ⟨v, c⟩ := q; simp

theorem pack_Zig_minus : pack_Zig.f (-1) = some 1 := by
  unfold pack_Zig.f
  decide +kernel

theorem pack_Sum_l1 (l : List Int) (i : Nat) (j : Nat) : ∀ (k c : Nat), j ≤ 8 → j + 1 ≤ k → c < 2 ^ 32 → ∃ k', k ≤ k' + j + 1 ∧ pack_Sum.l1 k (c : Int) l (l.length : Int) (i : Int) ((8 - j : Nat) : Int) = pack_Sum.l0 k' ((crcBits j c : Nat) : Int) l (l.length : Int) (wrap64 ((i : Int) + 1)) := by
  induction j with
  | zero =>
    intro k c hj hk hc
    obtain ⟨k, rfl⟩ : ∃ m, k = m + 1 := ⟨k - 1, by omega⟩
    refine ⟨k, by omega, ?_⟩
    simp only [pack_Sum.l1]
    rw [if_neg (by omega)]; rfl
  | succ j ih =>
    intro k c hj hk hc
    obtain ⟨k, rfl⟩ : ∃ m, k = m + 1 := ⟨k - 1, by omega⟩
    obtain ⟨k', h1, h2⟩ := ih k (crcStep c) (by omega) (by omega) (crcStep_lt hc)
    refine ⟨k', by omega, ?_⟩
    show _ = pack_Sum.l0 k' ((crcBits j (crcStep c) : Nat) : Int) l (l.length : Int) (wrap64 ((i : Int) + 1))
    rw [← h2]
    simp only [pack_Sum.l1]
    rw [if_pos (by omega), and1_u32 (by omega) (by omega), show wrap64 (((8 - (j + 1) : Nat) : Int) + 1) = ((8 - j : Nat) : Int) from by rw [w64 (by omega) (by omega)]; omega]
    unfold crcStep
    by_cases h : c % 2 = 1
    · rw [if_pos (by omega), if_pos h, show ((c : Int) / 2) = ((c / 2 : Nat) : Int) from by omega]
      rw [show (3988292384 : Int) = ((3988292384 : Nat) : Int) from rfl, xor_u32 (by omega) (by omega)]
    · rw [if_neg (by omega), if_neg h, show ((c : Int) / 2) = ((c / 2 : Nat) : Int) from by omega]
theorem pack_Sum_l0 (l : List Int) (hl : By l) (hn : l.length ≤ 140737488355328) : ∀ (t : List Int) (i k c : Nat), l.drop i = t → 10 * t.length + 1 ≤ k → c < 2 ^ 32 → pack_Sum.l0 k (c : Int) l (l.length : Int) (i : Int) = some ((4294967295 ^^^ crc t c : Nat) : Int)
  | [], i, k, c, hd, hk, hc => by
    obtain ⟨k, rfl⟩ : ∃ m, k = m + 1 := ⟨k - 1, by omega⟩
    have := List.drop_eq_nil_iff.1 hd
    simp only [pack_Sum.l0]
    rw [if_neg (by omega), show (4294967295 : Int) = ((4294967295 : Nat) : Int) from rfl, xor_u32 (by omega) hc]; rfl
  | b :: t, i, k, c, hd, hk, hc => by
    simp only [List.length_cons] at hk
    obtain ⟨k, rfl⟩ : ∃ m, k = m + 1 := ⟨k - 1, by omega⟩
    have hlt := lt_of_drop hd
    have hb : 0 ≤ b ∧ b ≤ 255 := (hl.drop i) b (by rw [hd]; exact List.mem_cons_self)
    obtain ⟨n, rfl⟩ := Int.eq_ofNat_of_zero_le hb.1
    simp only [pack_Sum.l0]
    rw [if_pos (by omega), if_pos (by omega), if_pos (by omega), rd_cons hd, Int.emod_eq_of_lt (by omega) (by omega), xor_u32 hc (by omega)]
    obtain ⟨k', h1, h2⟩ := pack_Sum_l1 l i 8 k (c ^^^ n) (by omega) (by omega) (Nat.xor_lt_two_pow hc (by omega))
    rw [show ((8 - 8 : Nat) : Int) = 0 from rfl] at h2
    rw [h2, show wrap64 ((i : Int) + 1) = ((i + 1 : Nat) : Int) from by rw [w64 (by omega) (by omega)]; omega]
    rw [pack_Sum_l0 l hl hn t (i + 1) k' _ (drop_succ_of hd) (by omega) (crcBits_lt 8 (Nat.xor_lt_two_pow hc (by omega)))]
    rfl
theorem pack_Sum_is {l : List Int} {k : Nat} (hl : By l) (hn : l.length ≤ 140737488355328) (hk : 10 * l.length + 1 ≤ k) : pack_Sum.f k l = some (sumOf l : Int) :=
  pack_Sum_l0 l hl hn l 0 k 4294967295 rfl hk (by omega)

theorem fascinelaw01_awake_is {k : Nat} (hk : 91 ≤ k) : fascinelaw01_awake.f k = some true := by
  unfold fascinelaw01_awake.f
  rw [pack_Uvarint_is (by omega) (by omega) (by omega), Option.bind_some, show uv (300 : Int).toNat = [172, 2] from by rw [uv_ge (by decide), uv_lt (by decide)]; rfl, if_pos (by rw [strOf_list]; rfl), pack_Zig_minus, Option.bind_some, if_pos rfl]
  rw [pack_Sum_is (fun x hx => by simp at hx; omega) (by simp) (by simpa using hk), Option.bind_some, crc_awake]
  rfl

def fourL (v : Nat) : List Int := [((v / 16777216 % 256 : Nat) : Int), ((v / 65536 % 256 : Nat) : Int), ((v / 256 % 256 : Nat) : Int), ((v % 256 : Nat) : Int)]
theorem fourL_by (v : Nat) : By (fourL v) := by
  intro x hx
  simp only [fourL, List.mem_cons, List.not_mem_nil, or_false] at hx
  omega
theorem fourL_inj {a b : Nat} (ha : a < 2 ^ 32) (hb : b < 2 ^ 32) (h : fourL a = fourL b) : a = b := by
  simp only [fourL, List.cons.injEq, and_true] at h
  omega
theorem pack_four_is (v : Nat) : pack_four.f (v : Int) = some (fourL v) := by
  unfold pack_four.f fourL
  congr 1
/-- a payload in its frame -/
def frameL (p : List Int) : List Int := 241 :: uv p.length ++ fourL (sumOf p) ++ p ++ [31]
theorem frameL_len (p : List Int) : (frameL p).length = 1 + (uv p.length).length + 4 + p.length + 1 := by
  simp [frameL, fourL]; omega
theorem pack_Frame_is {p : List Int} {k : Nat} (hp : By p) (hl : p.length ≤ 140737488351232) (hk : 655400 ≤ k) : pack_Frame.f k p = some (if p.length > 65535 then ([], 2) else (frameL p, 0)) := by
  unfold pack_Frame.f
  by_cases h : p.length > 65535
  · rw [if_pos (by omega), if_pos h]
  · have hu := uv_len64 (n := p.length) (by omega)
    rw [if_neg (by omega), if_neg h, Option.bind_some, wu64 (by omega) (by omega), pack_Uvarint_is (by omega) (by omega) (by omega), Option.bind_some, Int.toNat_natCast, if_pos (by simp; omega), Option.bind_some, pack_Sum_is hp (by omega) (by omega), Option.bind_some, pack_four_is, Option.bind_some]
    rw [if_pos (by simp [fourL]; omega), Option.bind_some, if_pos (by simp [fourL]; omega), Option.bind_some, if_pos (by simp [fourL]; omega)]
    simp [frameL]
/-- the frame at a place -/
def readF (p : List Int) (at_ : Int) : List Int × Int × Int :=
  if at_ < 0 ∨ at_ > (p.length : Int) then ([], 0, 1) else if at_ = (p.length : Int) then ([], 0, 8) else
    match readU p (at_ + 1) with
    | (n, i, e) =>
      if rd p at_ ≠ 241 ∨ e ≠ 0 ∨ n > 65535 ∨ n > (p.length : Int) - i - 5 ∨ rd p (i + 4 + n) ≠ 31 then ([], 0, 3) else
        if (p.take (i + 4).toNat).drop i.toNat = fourL (sumOf ((p.take (i + 4 + n).toNat).drop (i + 4).toNat)) then ((p.take (i + 4 + n).toNat).drop (i + 4).toNat, i + 5 + n, 0) else ([], 0, 5)
theorem pack_ReadFrame_is {p : List Int} {a : Int} {k : Nat} (hp : By p) (hl : p.length ≤ 140737488355328) (hk : 655400 ≤ k) : pack_ReadFrame.f k p a = some (readF p a) := by
  obtain ⟨k, rfl⟩ : ∃ j, k = j + 2 := ⟨k - 2, by omega⟩
  unfold pack_ReadFrame.f readF
  by_cases h0 : a < 0
  · rw [if_pos h0, if_pos (Or.inl h0)]; simp only [pack_ReadFrame.j0, if_true]
  · rw [if_neg h0]
    by_cases h1 : a > (p.length : Int)
    · rw [if_pos (Or.inr h1)]; simp only [pack_ReadFrame.j0, decide_eq_true h1, if_true]
    · rw [if_neg (by omega)]
      simp only [pack_ReadFrame.j0, decide_eq_true_eq]
      rw [if_neg h1]
      by_cases h2 : a = (p.length : Int)
      · rw [if_pos h2, if_pos h2]
      · rw [if_neg h2, if_neg h2, w64 (x := a + 1) (by omega) (by omega), pack_ReadUvarint_is hp hl (by omega), Option.bind_some]
        rcases hru : readU p (a + 1) with ⟨n, i, e⟩
        simp only
        rw [if_pos (by omega), if_pos (by omega)]
        have hbad : ∀ (n i : Int), pack_ReadFrame.j1 (k + 1) p n i true = some ([], 0, 3) := fun n i => by simp only [pack_ReadFrame.j1, if_true]
        by_cases c1 : rd p a = 241
        · rw [if_pos c1]
          rcases readU_ok hp hru with ⟨rfl, g1, g2, g3, ⟨r, hr⟩, g5, g6⟩ | ⟨rfl, rfl, h⟩
          · have hpos := uv_pos n.toNat
            rw [if_pos rfl]
            by_cases c2 : n > 65535
            · rw [if_pos c2, hbad, if_pos (Or.inr (Or.inr (Or.inl c2)))]
            · rw [if_neg c2, w64 (x := n) (by omega) (by omega), w64 (x := (p.length : Int) - i) (by omega) (by omega), w64 (x := (p.length : Int) - i - 5) (by omega) (by omega)]
              by_cases c3 : n > (p.length : Int) - i - 5
              · rw [if_pos c3, hbad, if_pos (Or.inr (Or.inr (Or.inr (Or.inl c3))))]
              · rw [if_neg c3, w64 (x := i + 4) (by omega) (by omega), w64 (x := i + 4 + n) (by omega) (by omega), if_pos (by omega), if_pos (by omega)]
                by_cases c4 : rd p (i + 4 + n) = 31
                · rw [if_neg (by omega), c4]
                  simp only [pack_ReadFrame.j1]
                  rw [if_neg (by simp), w64 (x := n) (by omega) (by omega), w64 (x := i + 4) (by omega) (by omega), w64 (x := i + 4 + n) (by omega) (by omega), w64 (x := i + 5) (by omega) (by omega), w64 (x := i + 5 + n) (by omega) (by omega)]
                  rw [if_pos (by omega), if_pos (by omega), if_pos (by omega)]
                  have hq : By ((p.take (i + 4 + n).toNat).drop (i + 4).toNat) := (hp.take _).drop _
                  have hql : ((p.take (i + 4 + n).toNat).drop (i + 4).toNat).length ≤ 65535 := by simp; omega
                  rw [if_pos (by simp only [List.length_nil]; omega), Option.bind_some, List.nil_append, if_pos (by omega), if_pos (by omega), if_pos (by omega), pack_Sum_is hq (by omega) (by omega), Option.bind_some, pack_four_is, Option.bind_some]
                  by_cases c5 : (p.take (i + 4).toNat).drop i.toNat = fourL (sumOf ((p.take (i + 4 + n).toNat).drop (i + 4).toNat))
                  · rw [if_pos ((strOf_inj ((hp.take _).drop _) (fourL_by _)).2 c5), if_pos c5]
                  · rw [if_neg (fun h => c5 ((strOf_inj ((hp.take _).drop _) (fourL_by _)).1 h)), if_neg c5]
                · rw [if_pos (Or.inr (Or.inr (Or.inr (Or.inr c4))))]
                  rw [show (rd p (i + 4 + n) != 31) = true from by simpa using c4, hbad]
          · rw [if_neg (by omega), hbad, if_pos (Or.inr (Or.inl (by omega)))]
        · rw [if_neg c1, hbad, if_pos (Or.inl c1)]

theorem rd_app_left {a b : List Int} {i : Nat} (h : i < a.length) : rd (a ++ b) (i : Int) = rd a (i : Int) := by
  unfold rd
  rw [Int.toNat_natCast, List.getD_eq_getElem?_getD, List.getD_eq_getElem?_getD, List.getElem?_append_left h]
theorem rd_mid (a : List Int) (x : Int) (b : List Int) : rd (a ++ x :: b) (a.length : Int) = x := by
  unfold rd
  rw [Int.toNat_natCast, List.getD_eq_getElem?_getD]; simp
/-- what is read where a frame's parts stand: a head, a sum, a payload -/
theorem readF_parts {n : Nat} {S q behind : List Int} (hS : S.length = 4) (hq : q.length = n) (hn : n ≤ 65535) :
    readF (241 :: uv n ++ S ++ q ++ 31 :: behind) 0 = if S = fourL (sumOf q) then (q, ((1 + (uv n).length + 5 + n : Nat) : Int), 0) else ([], 0, 5) := by
  have hu := uv_len64 (n := n) (by omega)
  have hlen : (241 :: uv n ++ S ++ q ++ 31 :: behind).length = 1 + (uv n).length + 4 + n + 1 + behind.length := by simp; omega
  unfold readF
  rw [if_neg (by omega), if_neg (by omega)]
  have e := readU_at (p := 241 :: uv n ++ S ++ q ++ 31 :: behind) (i := 1) (v := n) (r := S ++ (q ++ 31 :: behind)) (by simp) (by omega) (by omega)
  rw [show (0 : Int) + 1 = ((1 : Nat) : Int) from rfl, e]
  simp only
  have h31 : rd (241 :: uv n ++ S ++ q ++ 31 :: behind) (((1 : Nat) : Int) + ((uv n).length : Int) + 4 + (n : Int)) = 31 := by
    rw [show ((1 : Nat) : Int) + ((uv n).length : Int) + 4 + (n : Int) = ((241 :: uv n ++ S ++ q).length : Int) from by simp; omega]
    exact rd_mid _ _ _
  have h241 : rd (241 :: uv n ++ S ++ q ++ 31 :: behind) 0 = 241 := rfl
  rw [if_neg (by rw [h31, h241]; omega)]
  have t1 : ((241 :: uv n ++ S ++ q ++ 31 :: behind).take (((1 : Nat) : Int) + ((uv n).length : Int) + 4).toNat).drop (((1 : Nat) : Int) + ((uv n).length : Int)).toNat = S := by
    rw [show (((1 : Nat) : Int) + ((uv n).length : Int) + 4).toNat = (241 :: uv n).length + S.length from by simp; omega, show (((1 : Nat) : Int) + ((uv n).length : Int)).toNat = (241 :: uv n).length from by simp; omega]
    rw [show 241 :: uv n ++ S ++ q ++ 31 :: behind = (241 :: uv n) ++ (S ++ (q ++ 31 :: behind)) from by simp, List.take_length_add_append, List.drop_left, List.take_left]
  have t2 : ((241 :: uv n ++ S ++ q ++ 31 :: behind).take (((1 : Nat) : Int) + ((uv n).length : Int) + 4 + (n : Int)).toNat).drop (((1 : Nat) : Int) + ((uv n).length : Int) + 4).toNat = q := by
    rw [show (((1 : Nat) : Int) + ((uv n).length : Int) + 4 + (n : Int)).toNat = (241 :: uv n ++ S).length + q.length from by simp; omega, show (((1 : Nat) : Int) + ((uv n).length : Int) + 4).toNat = (241 :: uv n ++ S).length from by simp; omega]
    rw [show 241 :: uv n ++ S ++ q ++ 31 :: behind = (241 :: uv n ++ S) ++ (q ++ 31 :: behind) from by simp, List.take_length_add_append, List.drop_left, List.take_left]
  rw [t1, t2]
  by_cases h : S = fourL (sumOf q)
  · rw [if_pos h, if_pos h]
    simp only [Prod.mk.injEq, true_and, and_true]
    omega
  · rw [if_neg h, if_neg h]
/-- cut short anywhere it is none -/
theorem readF_cut {p : List Int} (hn : p.length ≤ 65535) {k : Nat} (hk : k < (frameL p).length) : (readF ((frameL p).take k) 0).2.2 ≠ 0 := by
  have hu := uv_len64 (n := p.length) (by omega)
  have hup := uv_pos p.length
  have hlen := frameL_len p
  have hlt : ((frameL p).take k).length = k := by rw [List.length_take]; omega
  unfold readF
  rw [if_neg (by omega)]
  by_cases h0 : (0 : Int) = (((frameL p).take k).length : Int)
  · rw [if_pos h0]; decide
  · rw [if_neg h0]
    have hdrop : ((frameL p).take k).drop 1 = (uv p.length ++ (fourL (sumOf p) ++ (p ++ [31]))).take (k - 1) := by
      rw [List.drop_take]; congr 1; simp [frameL]
    by_cases hc : k - 1 < (uv p.length).length
    · have e : readU ((frameL p).take k) (0 + 1) = (0, 0, 3) := by
        unfold readU
        rw [if_neg (by omega), show ((0 : Int) + 1).toNat = 1 from rfl, hdrop, List.take_append_of_le_length (by omega), ru_short _ _ 0 hc (by omega)]
      rw [e]
      simp only
      rw [if_pos (Or.inr (Or.inl (by omega)))]; decide
    · have e := readU_at (p := (frameL p).take k) (i := 1) (v := p.length) (r := (fourL (sumOf p) ++ (p ++ [31])).take (k - 1 - (uv p.length).length)) (by rw [hdrop, List.take_append, List.take_of_length_le (by omega)]) (by omega) (by omega)
      rw [show (0 : Int) + 1 = ((1 : Nat) : Int) from rfl, e]
      simp only
      rw [if_pos (Or.inr (Or.inr (Or.inr (Or.inl (by omega)))))]; decide
theorem turn_ne {b t : Int} (hb : 0 ≤ b ∧ b ≤ 255) (ht : 0 ≤ t ∧ t ≤ 255) (h0 : t ≠ 0) : 0 ≤ Go.bits .xor .u8 b t ∧ Go.bits .xor .u8 b t ≤ 255 ∧ b ≠ Go.bits .xor .u8 b t := by
  obtain ⟨b, rfl⟩ := Int.eq_ofNat_of_zero_le hb.1
  obtain ⟨t, rfl⟩ := Int.eq_ofNat_of_zero_le ht.1
  rw [xor_u8 (by omega) (by omega)]
  have hlt : b ^^^ t < 2 ^ 8 := Nat.xor_lt_two_pow (by omega) (by omega)
  refine ⟨by omega, by omega, fun h => ?_⟩
  have e : b ^^^ t = b ^^^ 0 := by rw [Nat.xor_zero]; omega
  have := xor_left_inj e
  omega
theorem PackTorn : fascinelaw01_PackTorn.Pure := by
  intro p beh cut at_ turn hm hl hw hmb hlb hwb hcut hat hturn
  have hp := By.of_wf hw
  have hb := By.of_wf hwb
  have hcut := wf_u16 hcut
  have hat := wf_u16 hat
  have hturn := wf_u8 hturn
  obtain ⟨K, hK⟩ : ∃ K, K = 700000 := ⟨_, rfl⟩
  refine ⟨K + 3, ?_⟩
  unfold fascinelaw01_PackTorn.f
  rw [fascinelaw01_awake_is (by omega), Option.bind_some, if_pos rfl]
  simp only [fascinelaw01_PackTorn.j0]
  by_cases hbig : (p.length : Int) > 2000
  · rw [if_pos (by simpa using hbig), fascinelaw01_awake_is (by omega)]; rfl
  · have hu := uv_len64 (n := p.length) (by omega)
    have hu2 := uv_len 1 p.length (by omega)
    have hup := uv_pos p.length
    have hlen := frameL_len p
    have hfb : By (frameL p) := by
      intro x hx
      simp only [frameL, List.mem_append, List.mem_cons, List.not_mem_nil, or_false] at hx
      rcases hx with ((h | h) | h) | h
      · rcases h with h | h
        · omega
        · exact uv_by _ x h
      · exact fourL_by _ x h
      · exact hp x h
      · omega
    rw [if_neg (by simpa using hbig), pack_Frame_is hp (by omega) (by omega), Option.bind_some, if_neg (show ¬ p.length > 65535 by omega)]
    simp only
    rw [if_pos trivial]
    simp only [fascinelaw01_PackTorn.j1]
    rw [if_neg (by simp; omega), if_neg (by omega), w64 (x := cut) (by omega) (by omega), Int.tmod_eq_emod_of_nonneg (by omega)]
    obtain ⟨c, hc⟩ := Int.eq_ofNat_of_zero_le (Int.emod_nonneg cut (show ((frameL p).length : Int) ≠ 0 by omega))
    have hcl := Int.emod_lt_of_pos cut (show (0 : Int) < ((frameL p).length : Int) by omega)
    rw [hc] at hcl ⊢
    rw [if_pos (by omega), if_pos (by omega), Int.toNat_natCast, pack_ReadFrame_is (hfb.take _) (by simp; omega) (by omega), Option.bind_some, if_pos (by simp only [List.length_nil]; omega), Option.bind_some, List.nil_append, if_pos (by omega), Option.bind_some, pack_ReadFrame_is (hfb.append hb) (by simp; omega) (by omega), Option.bind_some]
    rw [if_neg (readF_cut (by omega) (by omega))]
    have hwhole : frameL p ++ beh = 241 :: uv p.length ++ fourL (sumOf p) ++ p ++ 31 :: beh := by simp [frameL]
    have hrf : readF (frameL p ++ beh) 0 = (p, ((frameL p).length : Int), 0) := by
      rw [hwhole, readF_parts rfl rfl (by omega), if_pos rfl]
      simp only [Prod.mk.injEq, true_and, and_true]
      omega
    rw [hrf]
    simp only [bne_self_eq_false]
    rw [if_pos trivial, if_pos trivial]
    simp only [fascinelaw01_PackTorn.j2]
    rw [if_neg (by simp)]
    by_cases ht : turn = 0
    · rw [if_pos ht]
    · rw [if_neg ht, w64 (x := (p.length : Int) + 4) (by omega) (by omega), if_neg (by omega), w64 (x := at_) (by omega) (by omega), Int.tmod_eq_emod_of_nonneg (by omega)]
      obtain ⟨m, hm'⟩ := Int.eq_ofNat_of_zero_le (Int.emod_nonneg at_ (show (p.length : Int) + 4 ≠ 0 by omega))
      have hml := Int.emod_lt_of_pos at_ (show (0 : Int) < (p.length : Int) + 4 by omega)
      rw [hm'] at hml ⊢
      rw [w64 (x := ((frameL p).length : Int) - (p.length : Int)) (by omega) (by omega), w64 (x := ((frameL p).length : Int) - (p.length : Int) - 5) (by omega) (by omega), w64 (x := ((frameL p).length : Int) - (p.length : Int) - 5 + (m : Int)) (by omega) (by omega)]
      have hj : ((frameL p).length : Int) - (p.length : Int) - 5 + (m : Int) = ((1 + (uv p.length).length + m : Nat) : Int) := by omega
      have hwl : (frameL p ++ beh).length = (frameL p).length + beh.length := by simp
      rw [hj, if_pos (by omega), if_pos (by omega), Int.toNat_natCast]
      have hrdb : 0 ≤ rd (frameL p ++ beh) ((1 + (uv p.length).length + m : Nat) : Int) ∧ rd (frameL p ++ beh) ((1 + (uv p.length).length + m : Nat) : Int) ≤ 255 := by
        have hlt : 1 + (uv p.length).length + m < (frameL p ++ beh).length := by omega
        have := (hfb.append hb) ((frameL p ++ beh)[1 + (uv p.length).length + m]) (List.getElem_mem hlt)
        unfold rd
        rw [Int.toNat_natCast, List.getD_eq_getElem?_getD, List.getElem?_eq_getElem hlt]
        exact this
      obtain ⟨y0, y1, yne⟩ := turn_ne hrdb hturn ht
      generalize hy : Go.bits .xor .u8 (rd (frameL p ++ beh) ((1 + (uv p.length).length + m : Nat) : Int)) turn = y at y0 y1 yne ⊢
      have hset : By ((frameL p ++ beh).set (1 + (uv p.length).length + m) y) := by
        intro z hz
        rcases List.mem_or_eq_of_mem_set hz with h | h
        · exact (hfb.append hb) z h
        · omega
      rw [pack_ReadFrame_is hset (by simp; omega) (by omega), Option.bind_some]
      have h5 : (readF ((frameL p ++ beh).set (1 + (uv p.length).length + m) y) 0).2.2 = 5 := by
        have ha : (241 :: uv p.length).length = 1 + (uv p.length).length := by simp; omega
        by_cases h4 : m < 4
        · have e : (frameL p ++ beh).set (1 + (uv p.length).length + m) y = 241 :: uv p.length ++ (fourL (sumOf p)).set m y ++ p ++ 31 :: beh := by
            rw [hwhole, show 241 :: uv p.length ++ fourL (sumOf p) ++ p ++ 31 :: beh = (241 :: uv p.length) ++ (fourL (sumOf p) ++ (p ++ 31 :: beh)) from by simp, List.set_append_right _ _ (by omega), List.set_append_left _ _ (by simp [fourL]; omega)]
            simp [ha]
          rw [e, readF_parts (by simp [fourL]) rfl (by omega), if_neg]
          intro h
          have hx : rd (frameL p ++ beh) ((1 + (uv p.length).length + m : Nat) : Int) = rd (fourL (sumOf p)) (m : Int) := by
            unfold rd
            rw [Int.toNat_natCast, Int.toNat_natCast, List.getD_eq_getElem?_getD, List.getD_eq_getElem?_getD, hwhole, show 241 :: uv p.length ++ fourL (sumOf p) ++ p ++ 31 :: beh = (241 :: uv p.length) ++ (fourL (sumOf p) ++ (p ++ 31 :: beh)) from by simp, List.getElem?_append_right (by omega), List.getElem?_append_left (by simp [fourL]; omega)]
            simp [ha]
          have hg : rd ((fourL (sumOf p)).set m y) (m : Int) = rd (fourL (sumOf p)) (m : Int) := by rw [h]
          rw [← hx] at hg
          have : rd ((fourL (sumOf p)).set m y) (m : Int) = y := by
            unfold rd
            rw [Int.toNat_natCast, List.getD_eq_getElem?_getD, List.getElem?_set_self (by simp [fourL]; omega)]; rfl
          omega
        · have hpm : m - 4 < p.length := by omega
          have e : (frameL p ++ beh).set (1 + (uv p.length).length + m) y = 241 :: uv p.length ++ fourL (sumOf p) ++ p.set (m - 4) y ++ 31 :: beh := by
            rw [hwhole, show 241 :: uv p.length ++ fourL (sumOf p) ++ p ++ 31 :: beh = (241 :: uv p.length ++ fourL (sumOf p)) ++ (p ++ 31 :: beh) from by simp, List.set_append_right _ _ (by simp [fourL]; omega), List.set_append_left _ _ (by simp [fourL]; omega)]
            simp [fourL]
            congr 1
            omega
          rw [e, show uv p.length = uv (p.set (m - 4) y).length from by simp, readF_parts (by simp [fourL]) rfl (by simp; omega), if_neg]
          intro h
          have hx : rd (frameL p ++ beh) ((1 + (uv p.length).length + m : Nat) : Int) = p[m - 4] := by
            unfold rd
            rw [Int.toNat_natCast, List.getD_eq_getElem?_getD, hwhole, show 241 :: uv p.length ++ fourL (sumOf p) ++ p ++ 31 :: beh = (241 :: uv p.length ++ fourL (sumOf p)) ++ (p ++ 31 :: beh) from by simp, List.getElem?_append_right (by simp [fourL]; omega), List.getElem?_append_left (by simp [fourL]; omega)]
            rw [show 1 + (uv p.length).length + m - (241 :: uv p.length ++ fourL (sumOf p)).length = m - 4 from by simp [fourL]; omega, List.getElem?_eq_getElem hpm]; rfl
          have := sumOf_set hp (i := m - 4) (x := p[m - 4]) (y := y) (List.getElem?_eq_getElem hpm) ⟨y0, y1⟩ (by rw [← hx]; exact yne)
          have hps : By (p.set (m - 4) y) := by
            intro z hz
            rcases List.mem_or_eq_of_mem_set hz with h | h
            · exact hp z h
            · omega
          exact this (fourL_inj (sumOf_lt hps) (sumOf_lt hp) h.symm)
      rw [h5]
      rfl

end Go.Proofs.Ytifbpjkgckkalaa.Pure
