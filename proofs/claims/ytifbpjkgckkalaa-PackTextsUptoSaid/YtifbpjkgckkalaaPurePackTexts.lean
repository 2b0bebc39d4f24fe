/- On the printed functions of PackTexts: what each of them answers, in plain words. -/
import Derived.Test.YtifbpjkgckkalaaPPackTextsx
import Derived.Test.YtifbpjkgckkalaaMSum
import Derived.Test.YtifbpjkgckkalaaMOpen
import Derived.Test.YtifbpjkgckkalaaQPackTexts
namespace Go.Proofs.Ytifbpjkgckkalaa.Pure
open Go.RowKit Go.Proofs.Ytifbpjkgckkalaa.PPackTexts Go.Proofs.YtifbpjkgckkalaaW.PrintWords Go.Proofs.YtifbpjkgckkalaaW.PrintLast Go.Proofs.YtifbpjkgckkalaaW.PrintMore Go.Proofs.Ytifbpjkgckkalaa.M
set_option linter.unusedVariables false
set_option linter.unusedSimpArgs false

theorem pack_Uvarint_l (n : Nat) : ∀ (k : Nat) (acc : List Int), (uv n).length ≤ k → acc.length + (uv n).length ≤ 140737488355328 → pack_Uvarint.l0 k (n : Int) acc = some (acc ++ uv n) := by
  induction n using Nat.strongRecOn with
  | _ n ih =>
    intro k acc hk ha
    obtain ⟨k, rfl⟩ : ∃ m, k = m + 1 := ⟨k - 1, by have := uv_pos n; omega⟩
    by_cases h : n < 128
    · rw [uv_lt h] at ha ⊢
      simp only [List.length_cons, List.length_nil] at ha
      simp only [pack_Uvarint.l0]
      rw [if_neg (by omega), if_pos (by omega), Int.emod_eq_of_lt (by omega) (by omega)]
    · rw [uv_ge h] at hk ha ⊢
      simp only [List.length_cons] at hk ha
      simp only [pack_Uvarint.l0]
      rw [if_pos (by omega), if_pos (by omega), bits_or128 (by omega) (by omega), show ((n : Int) / 128) = ((n / 128 : Nat) : Int) from by omega, ih (n / 128) (by omega) k _ (by omega) (by simp; omega)]
      rw [List.append_assoc, List.cons_append, List.nil_append, show (if (n : Int) % 256 < 128 then (n : Int) % 256 + 128 else (n : Int) % 256) = ((n % 128 + 128 : Nat) : Int) from by split <;> omega]
theorem pack_Uvarint_is {n : Int} {k : Nat} (h0 : 0 ≤ n) (h1 : n < 18446744073709551616) (hk : 10 ≤ k) : pack_Uvarint.f k n = some (uv n.toNat) := by
  obtain ⟨n, rfl⟩ := Int.eq_ofNat_of_zero_le h0
  have := uv_len64 (n := n) (by omega)
  unfold pack_Uvarint.f
  rw [pack_Uvarint_l n k [] (by omega) (by simp; omega)]; simp

theorem fascineref01_Uvarint_l (n : Nat) : ∀ (k : Nat) (acc : List Int), n < 18446744073709551616 → (uv n).length ≤ k → acc.length + (uv n).length ≤ 140737488355328 → fascineref01_Uvarint.l0 k (n : Int) acc = some (acc ++ uv n) := by
  induction n using Nat.strongRecOn with
  | _ n ih =>
    intro k acc hn hk ha
    obtain ⟨k, rfl⟩ : ∃ m, k = m + 1 := ⟨k - 1, by have := uv_pos n; omega⟩
    by_cases h : n < 128
    · rw [uv_lt h] at ha ⊢
      simp only [List.length_cons, List.length_nil] at ha
      simp only [fascineref01_Uvarint.l0]
      rw [if_neg (by omega), if_pos (by omega), Int.emod_eq_of_lt (by omega) (by omega)]
    · rw [uv_ge h] at hk ha ⊢
      simp only [List.length_cons] at hk ha
      simp only [fascineref01_Uvarint.l0]
      rw [if_pos (by omega), if_pos (by omega), Int.tdiv_eq_ediv_of_nonneg (by omega), Int.tmod_eq_emod_of_nonneg (by omega), show ((n : Int) / 128) = ((n / 128 : Nat) : Int) from by omega, wu64 (by omega) (by omega), ih (n / 128) (by omega) k _ (by omega) (by omega) (by simp; omega)]
      rw [List.append_assoc, List.cons_append, List.nil_append, show ((n : Int) % 128 + 128) % 256 = ((n % 128 + 128 : Nat) : Int) from by omega]
theorem fascineref01_Uvarint_is {n : Int} {k : Nat} (h0 : 0 ≤ n) (h1 : n < 18446744073709551616) (hk : 10 ≤ k) : fascineref01_Uvarint.f k n = some (uv n.toNat) := by
  obtain ⟨n, rfl⟩ := Int.eq_ofNat_of_zero_le h0
  have := uv_len64 (n := n) (by omega)
  unfold fascineref01_Uvarint.f
  rw [fascineref01_Uvarint_l n k [] (by omega) (by omega) (by simp; omega)]; simp

theorem pack_ReadUvarint_step (x b : Int) (n i : Nat) (hb : 0 ≤ b ∧ b ≤ 255) (hn : n ≤ 9) (h9 : n = 9 → b ≤ 1) (hx0 : 0 ≤ x) (hx : x < ((2 ^ (7 * n) : Nat) : Int)) :
    Go.bits .or .u64 x (shl .u64 (IntKind.u64.wrap (Go.bits .and .u8 b 127)) ((7 * n : Nat) : Int)) = x + ((2 ^ (7 * n) : Nat) : Int) * (b % 128) ∧ (x + ((2 ^ (7 * n) : Nat) : Int) * (b % 128) < ((2 ^ (7 * n) : Nat) : Int) * 128) := by
  obtain ⟨y, rfl⟩ := Int.eq_ofNat_of_zero_le hx0
  obtain ⟨c, hc⟩ := Int.eq_ofNat_of_zero_le (show 0 ≤ b % 128 by omega)
  have hP : ∀ m : Fin 9, 2 ^ (7 * m.1) * 128 ≤ 9223372036854775808 := by decide
  have hP9 : 2 ^ (7 * 9) * 2 = 18446744073709551616 := by decide
  have hP9' : 2 ^ (7 * 9) = 9223372036854775808 := by decide
  have hy : y < 2 ^ (7 * n) := by omega
  have hm : 2 ^ (7 * n) * c ≤ 2 ^ (7 * n) * 127 := Nat.mul_le_mul_left _ (by omega)
  have hs : y + 2 ^ (7 * n) * c < 2 ^ 64 := by
    rcases Nat.lt_or_ge n 9 with h | h
    · have := hP ⟨n, h⟩; simp only at this; omega
    · have e : n = 9 := by omega
      subst e
      have h1 := h9 rfl
      have : 2 ^ (7 * 9) * c ≤ 2 ^ (7 * 9) * 1 := Nat.mul_le_mul_left _ (by omega)
      omega
  have e := or_u64 y c (7 * n) hy hs
  constructor
  · rw [bits_and127 hb.1 (by omega), hc, wu64 (by omega) (by omega)]
    unfold shl
    rw [show min (((7 * n : Nat) : Int)).toNat (IntKind.u64).bits = 7 * n from by rw [Int.toNat_natCast, show (IntKind.u64).bits = 64 from rfl]; omega]
    rw [show ((c : Int) * 2 ^ (7 * n)) = ((2 ^ (7 * n) * c : Nat) : Int) from by simp [Int.mul_comm], wu64 (by omega) (by omega), e]
    simp
  · rw [hc]
    have : y + 2 ^ (7 * n) * c < 2 ^ (7 * n) * 128 := by omega
    exact_mod_cast this

theorem pack_ReadUvarint_round (p : List Int) (a : Nat) (hp : By p) (hl : p.length ≤ 140737488355328) (m n k : Nat) (x : Int) (hmn : m + n = 9) (hk : 2 * m + 2 ≤ k) (hx0 : 0 ≤ x) (hx : x < ((2 ^ (7 * n) : Nat) : Int))
    (ih : 0 < m → ∀ (k : Nat) (x : Int), 2 * (m - 1) + 2 ≤ k → 0 ≤ x → x < ((2 ^ (7 * (n + 1)) : Nat) : Int) → pack_ReadUvarint.l0 k p (a : Int) x ((a + (n + 1) : Nat) : Int) = some (match ru (p.drop (a + (n + 1))) (n + 1) with | none => (0, 0, 3) | some (v, c) => (x + ((2 ^ (7 * (n + 1)) : Nat) : Int) * (v : Int), ((a + (n + 1) + c : Nat) : Int), 0))) :
    pack_ReadUvarint.l0 k p (a : Int) x ((a + n : Nat) : Int) = some (match ru (p.drop (a + n)) n with | none => (0, 0, 3) | some (v, c) => (x + ((2 ^ (7 * n) : Nat) : Int) * (v : Int), ((a + n + c : Nat) : Int), 0)) := by
  obtain ⟨k, rfl⟩ : ∃ j, k = j + 2 := ⟨k - 2, by omega⟩
  rcases hd : p.drop (a + n) with _ | ⟨b, t⟩
  · have hge : p.length ≤ a + n := List.drop_eq_nil_iff.1 hd
    simp only [pack_ReadUvarint.l0]
    rw [if_neg (by omega)]; simp only [ru]
  · have hlt := lt_of_drop hd
    have hr := rd_cons hd
    have hb : 0 ≤ b ∧ b ≤ 255 := (hp.drop (a + n)) b (by rw [hd]; exact List.mem_cons_self)
    have hs := drop_succ_of hd
    have hw : wrap64 (((a + n : Nat) : Int) - (a : Int)) = (n : Int) := by rw [w64 (by omega) (by omega)]; omega
    simp only [pack_ReadUvarint.l0]
    rw [if_pos (by omega), if_pos (by omega), hw, hr]
    have hall : ∀ (T : Bool → Option (Int × Int × Int)), (if (n : Int) = 9 then (if b > 1 then T true else (if b = 0 then T (decide ((n : Int) > 0)) else T false)) else (if b = 0 then T (decide ((n : Int) > 0)) else T false)) = T (decide (n = 9 ∧ b > 1 ∨ b = 0 ∧ n > 0)) := by
      intro T
      by_cases h1 : n = 9
      · subst h1
        rw [if_pos (by omega)]
        by_cases h2 : b > 1
        · rw [if_pos h2]; congr 1; first | (rw [decide_eq_decide]; omega) | (symm; rw [decide_eq_true_iff]; omega) | (symm; rw [decide_eq_false_iff_not]; omega)
        · rw [if_neg h2]
          by_cases h3 : b = 0
          · rw [if_pos h3]; congr 1; first | (rw [decide_eq_decide]; omega) | (symm; rw [decide_eq_true_iff]; omega) | (symm; rw [decide_eq_false_iff_not]; omega)
          · rw [if_neg h3]; congr 1; first | (rw [decide_eq_decide]; omega) | (symm; rw [decide_eq_true_iff]; omega) | (symm; rw [decide_eq_false_iff_not]; omega)
      · rw [if_neg (by omega)]
        by_cases h3 : b = 0
        · rw [if_pos h3]; congr 1; first | (rw [decide_eq_decide]; omega) | (symm; rw [decide_eq_true_iff]; omega) | (symm; rw [decide_eq_false_iff_not]; omega)
        · rw [if_neg h3]; congr 1; first | (rw [decide_eq_decide]; omega) | (symm; rw [decide_eq_true_iff]; omega) | (symm; rw [decide_eq_false_iff_not]; omega)
    have hall := hall (fun z => pack_ReadUvarint.j2 (k + 1) p (a : Int) x ((a + n : Nat) : Int) (n : Int) b z)
    rw [hall]
    simp only [pack_ReadUvarint.j2, ru, decide_eq_true_eq]
    by_cases hc : n = 9 ∧ b > 1 ∨ b = 0 ∧ n > 0
    · rw [if_pos hc, if_pos hc]
    · rw [if_neg hc, if_neg hc]
      obtain ⟨e1, e2⟩ := pack_ReadUvarint_step x b n 0 hb (by omega) (by omega) hx0 hx
      rw [show wrap64 (7 * (n : Int)) = ((7 * n : Nat) : Int) from by rw [w64 (by omega) (by omega)]; omega, if_pos (by omega), e1]
      rw [show wrap64 (((a + n : Nat) : Int) + 1) = ((a + (n + 1) : Nat) : Int) from by rw [w64 (by omega) (by omega)]; omega]
      by_cases h1 : b < 128
      · rw [if_pos h1, if_pos h1]
        simp only [Option.some.injEq, Prod.mk.injEq, and_true]
        refine ⟨?_, by omega⟩
        rw [show b % 128 = (b.toNat : Int) from by omega]
      · rw [if_neg h1, if_neg h1]
        have hP : (2 ^ (7 * (n + 1)) : Nat) = 2 ^ (7 * n) * 128 := by rw [show 7 * (n + 1) = 7 * n + 7 from by omega, Nat.pow_add]
        have h0 : 0 ≤ ((2 ^ (7 * n) : Nat) : Int) * (b % 128) := Int.mul_nonneg (by omega) (by omega)
        rw [ih (by omega) k _ (by omega) (by omega) (by rw [hP]; simpa using e2), show a + (n + 1) = a + n + 1 from by omega, hs]
        cases hq : ru t (n + 1) with
        | none => rfl
        | some q =>
          obtain ⟨v, c⟩ := q
          simp only [Option.some.injEq, Prod.mk.injEq, and_true]
          refine ⟨?_, by omega⟩
          rw [hP, show b % 128 = (((b - 128).toNat : Nat) : Int) from by omega]
          have hring : ∀ P y w : Int, x + P * y + P * 128 * w = x + P * (y + 128 * w) := fun P y w => by rw [Int.mul_add, Int.mul_assoc, Int.add_assoc]
          push_cast
          exact hring _ _ _

theorem pack_ReadUvarint_l (p : List Int) (a : Nat) (hp : By p) (hl : p.length ≤ 140737488355328) (m : Nat) : ∀ (n k : Nat) (x : Int), m + n = 9 → 2 * m + 2 ≤ k → 0 ≤ x → x < ((2 ^ (7 * n) : Nat) : Int) →
    pack_ReadUvarint.l0 k p (a : Int) x ((a + n : Nat) : Int) = some (match ru (p.drop (a + n)) n with | none => (0, 0, 3) | some (v, c) => (x + ((2 ^ (7 * n) : Nat) : Int) * (v : Int), ((a + n + c : Nat) : Int), 0)) := by
  induction m with
  | zero =>
    intro n k x hmn hk hx0 hx
    exact pack_ReadUvarint_round p a hp hl 0 n k x hmn hk hx0 hx (fun h => by omega)
  | succ m ih =>
    intro n k x hmn hk hx0 hx
    exact pack_ReadUvarint_round p a hp hl (m + 1) n k x hmn hk hx0 hx (fun _ k x hk' hx0 hx => ih (n + 1) k x (by omega) (by omega) hx0 hx)

theorem pack_ReadUvarint_is {p : List Int} {i : Int} {k : Nat} (hp : By p) (hl : p.length ≤ 140737488355328) (hk : 21 ≤ k) : pack_ReadUvarint.f k p i = some (readU p i) := by
  obtain ⟨k, rfl⟩ : ∃ j, k = j + 1 := ⟨k - 1, by omega⟩
  unfold pack_ReadUvarint.f readU
  by_cases h0 : i < 0
  · rw [if_pos h0, if_pos (Or.inl h0)]; simp only [pack_ReadUvarint.j0, if_true]
  · rw [if_neg h0]
    by_cases h1 : i > (p.length : Int)
    · rw [if_pos (Or.inr h1)]; simp only [pack_ReadUvarint.j0, decide_eq_true h1, if_true]
    · obtain ⟨a, rfl⟩ := Int.eq_ofNat_of_zero_le (show 0 ≤ i by omega)
      rw [if_neg (by omega)]
      simp only [pack_ReadUvarint.j0, decide_eq_true_eq]
      rw [if_neg h1]
      have e := pack_ReadUvarint_l p a hp hl 9 0 k 0 (by omega) (by omega) (by omega) (by simp)
      simp only [Nat.add_zero] at e
      rw [e, Int.toNat_natCast]
      cases ru (p.drop a) 0 with
      | none => rfl
      | some q => obtain ⟨v, c⟩ := q; simp

/-- the text at a place, of at most so many bytes -/
def readT (p : List Int) (at_ most : Int) : ByteArray × Int × Int :=
  match readU p at_ with
  | (n, i, e) => if e = 0 then (if n > (p.length : Int) - i then (⟨#[]⟩, 0, 3) else if most < 0 then (⟨#[]⟩, 0, 2) else if n > most then (⟨#[]⟩, 0, 2) else (strOfNums ((p.take (i + n).toNat).drop i.toNat), i + n, 0)) else (⟨#[]⟩, 0, e)
theorem pack_ReadText_is {p : List Int} {i m : Int} {k : Nat} (hp : By p) (hl : p.length ≤ 140737488355328) (hm : -9223372036854775808 ≤ m ∧ m ≤ 9223372036854775807) (hk : 21 ≤ k) : pack_ReadText.f k p i m = some (readT p i m) := by
  unfold pack_ReadText.f readT
  rw [pack_ReadUvarint_is hp hl hk, Option.bind_some]
  rcases hru : readU p i with ⟨n, j, e⟩
  simp only
  rcases readU_ok hp hru with ⟨rfl, h1, h2, h3, ⟨r, hr⟩, h5, h6⟩ | ⟨rfl, rfl, h⟩
  · have hpos := uv_pos n.toNat
    simp only [if_true]
    rw [w64 (x := (p.length : Int) - j) (by omega) (by omega), wu64 (by omega) (by omega)]
    by_cases h4 : n > (p.length : Int) - j
    · rw [if_pos h4, if_pos h4]
    · rw [if_neg h4, if_neg h4]
      by_cases h7 : m < 0
      · rw [if_pos h7, if_pos h7]
      · rw [if_neg h7, if_neg h7, wu64 (by omega) (by omega)]
        by_cases h8 : n > m
        · rw [if_pos h8, if_pos h8]
        · rw [if_neg h8, if_neg h8, w64 (x := n) (by omega) (by omega), w64 (x := j + n) (by omega) (by omega), if_pos (by omega), if_pos (by omega), if_pos (by omega)]
  · rw [if_neg (by omega), if_neg (by omega)]

theorem pack_Zig_minus : pack_Zig.f (-1) = some 1 := by
  unfold pack_Zig.f
  decide +kernel

theorem pack_Sum_l1 (l : List Int) (i : Nat) (j : Nat) : ∀ (k c : Nat), j ≤ 8 → j + 1 ≤ k → c < 2 ^ 32 → ∃ k', k ≤ k' + j + 1 ∧ pack_Sum.l1 k (c : Int) l (l.length : Int) (i : Int) ((8 - j : Nat) : Int) = pack_Sum.l0 k' ((crcBits j c : Nat) : Int) l (l.length : Int) (wrap64 ((i : Int) + 1)) := by
  induction j with
  | zero =>
    intro k c hj hk hc
    obtain ⟨k, rfl⟩ : ∃ m, k = m + 1 := ⟨k - 1, by omega⟩
    refine ⟨k, by omega, ?_⟩
    simp only [pack_Sum.l1]
    rw [if_neg (by omega)]; rfl
  | succ j ih =>
    intro k c hj hk hc
    obtain ⟨k, rfl⟩ : ∃ m, k = m + 1 := ⟨k - 1, by omega⟩
    obtain ⟨k', h1, h2⟩ := ih k (crcStep c) (by omega) (by omega) (crcStep_lt hc)
    refine ⟨k', by omega, ?_⟩
    show _ = pack_Sum.l0 k' ((crcBits j (crcStep c) : Nat) : Int) l (l.length : Int) (wrap64 ((i : Int) + 1))
    rw [← h2]
    simp only [pack_Sum.l1]
    rw [if_pos (by omega), and1_u32 (by omega) (by omega), show wrap64 (((8 - (j + 1) : Nat) : Int) + 1) = ((8 - j : Nat) : Int) from by rw [w64 (by omega) (by omega)]; omega]
    unfold crcStep
    by_cases h : c % 2 = 1
    · rw [if_pos (by omega), if_pos h, show ((c : Int) / 2) = ((c / 2 : Nat) : Int) from by omega]
      rw [show (3988292384 : Int) = ((3988292384 : Nat) : Int) from rfl, xor_u32 (by omega) (by omega)]
    · rw [if_neg (by omega), if_neg h, show ((c : Int) / 2) = ((c / 2 : Nat) : Int) from by omega]
theorem pack_Sum_l0 (l : List Int) (hl : By l) (hn : l.length ≤ 140737488355328) : ∀ (t : List Int) (i k c : Nat), l.drop i = t → 10 * t.length + 1 ≤ k → c < 2 ^ 32 → pack_Sum.l0 k (c : Int) l (l.length : Int) (i : Int) = some ((4294967295 ^^^ crc t c : Nat) : Int)
  | [], i, k, c, hd, hk, hc => by
    obtain ⟨k, rfl⟩ : ∃ m, k = m + 1 := ⟨k - 1, by omega⟩
    have := List.drop_eq_nil_iff.1 hd
    simp only [pack_Sum.l0]
    rw [if_neg (by omega), show (4294967295 : Int) = ((4294967295 : Nat) : Int) from rfl, xor_u32 (by omega) hc]; rfl
  | b :: t, i, k, c, hd, hk, hc => by
    simp only [List.length_cons] at hk
    obtain ⟨k, rfl⟩ : ∃ m, k = m + 1 := ⟨k - 1, by omega⟩
    have hlt := lt_of_drop hd
    have hb : 0 ≤ b ∧ b ≤ 255 := (hl.drop i) b (by rw [hd]; exact List.mem_cons_self)
    obtain ⟨n, rfl⟩ := Int.eq_ofNat_of_zero_le hb.1
    simp only [pack_Sum.l0]
    rw [if_pos (by omega), if_pos (by omega), if_pos (by omega), rd_cons hd, Int.emod_eq_of_lt (by omega) (by omega), xor_u32 hc (by omega)]
    obtain ⟨k', h1, h2⟩ := pack_Sum_l1 l i 8 k (c ^^^ n) (by omega) (by omega) (Nat.xor_lt_two_pow hc (by omega))
    rw [show ((8 - 8 : Nat) : Int) = 0 from rfl] at h2
    rw [h2, show wrap64 ((i : Int) + 1) = ((i + 1 : Nat) : Int) from by rw [w64 (by omega) (by omega)]; omega]
    rw [pack_Sum_l0 l hl hn t (i + 1) k' _ (drop_succ_of hd) (by omega) (crcBits_lt 8 (Nat.xor_lt_two_pow hc (by omega)))]
    rfl
theorem pack_Sum_is {l : List Int} {k : Nat} (hl : By l) (hn : l.length ≤ 140737488355328) (hk : 10 * l.length + 1 ≤ k) : pack_Sum.f k l = some (sumOf l : Int) :=
  pack_Sum_l0 l hl hn l 0 k 4294967295 rfl hk (by omega)

theorem fascinelaw01_awake_is {k : Nat} (hk : 91 ≤ k) : fascinelaw01_awake.f k = some true := by
  unfold fascinelaw01_awake.f
  rw [pack_Uvarint_is (by omega) (by omega) (by omega), Option.bind_some, show uv (300 : Int).toNat = [172, 2] from by rw [uv_ge (by decide), uv_lt (by decide)]; rfl, if_pos (by rw [strOf_list]; rfl), pack_Zig_minus, Option.bind_some, if_pos rfl]
  rw [pack_Sum_is (fun x hx => by simp at hx; omega) (by simp) (by simpa using hk), Option.bind_some, crc_awake]
  rfl

theorem bytesOf_by (s : ByteArray) : By (bytesOf s) := by
  intro x hx
  simp only [bytesOf, List.mem_map] at hx
  obtain ⟨b, _, rfl⟩ := hx
  have := b.toNat_lt
  omega
theorem strOf_bytesOf (s : ByteArray) : strOfNums (bytesOf s) = s := by
  have h : (bytesOf s).map (fun n => UInt8.ofNat n.toNat) = s.data.toList := by
    unfold bytesOf
    rw [List.map_map]
    conv => rhs; rw [← List.map_id s.data.toList]
    apply List.map_congr_left
    intro b _
    simp
  unfold strOfNums
  rw [h]
/-- a text's length and its bytes -/
def textL (s : ByteArray) : List Int := uv s.size ++ bytesOf s
theorem textL_len (s : ByteArray) : (textL s).length = (uv s.size).length + s.size := by simp [textL, bytesOf_length]
theorem textL_by (s : ByteArray) : By (textL s) := (uv_by _).append (bytesOf_by s)
theorem pack_Text_is {s : ByteArray} {k : Nat} (hs : s.size ≤ 1099511627776) (hk : 10 ≤ k) : pack_Text.f k s = some (textL s) := by
  unfold pack_Text.f
  have := uv_len64 (n := s.size) (by omega)
  rw [wu64 (by omega) (by omega), pack_Uvarint_is (by omega) (by omega) hk, Option.bind_some, Int.toNat_natCast, if_pos (by omega)]
  rfl
theorem readT_at {p r : List Int} {i : Nat} {s : ByteArray} {most : Int} (h : p.drop i = textL s ++ r) (hi : i ≤ p.length) (hs : s.size ≤ 1099511627776) (hm : (s.size : Int) ≤ most) : readT p (i : Int) most = (s, ((i + (textL s).length : Nat) : Int), 0) := by
  have h' : p.drop i = uv s.size ++ (bytesOf s ++ r) := by rw [h]; simp [textL]
  have hl := le_of_drop_append h hi
  have hlt := textL_len s
  unfold readT
  rw [readU_at h' hi (by omega)]
  simp only [if_true]
  rw [if_neg (by omega), if_neg (by omega), if_neg (by omega)]
  have e : (p.take ((i : Int) + ((uv s.size).length : Int) + (s.size : Int)).toNat).drop ((i : Int) + ((uv s.size).length : Int)).toNat = bytesOf s := by
    rw [show ((i : Int) + ((uv s.size).length : Int) + (s.size : Int)).toNat = (i + (uv s.size).length) + s.size from by omega, show ((i : Int) + ((uv s.size).length : Int)).toNat = i + (uv s.size).length from by omega]
    rw [List.drop_take, drop_append_eq h', show i + (uv s.size).length + s.size - (i + (uv s.size).length) = s.size from by omega, ← bytesOf_length s, List.take_left]
  rw [e, strOf_bytesOf]
  simp only [Prod.mk.injEq, true_and, and_true]
  omega
theorem readT_long {p r : List Int} {i : Nat} {s : ByteArray} {most : Int} (h : p.drop i = textL s ++ r) (hi : i ≤ p.length) (hs : s.size ≤ 1099511627776) (hm : most < (s.size : Int)) : (readT p (i : Int) most).2.2 = 2 := by
  have h' : p.drop i = uv s.size ++ (bytesOf s ++ r) := by rw [h]; simp [textL]
  have hl := le_of_drop_append h hi
  have hlt := textL_len s
  unfold readT
  rw [readU_at h' hi (by omega)]
  simp only [if_true]
  rw [if_neg (by omega)]
  by_cases h7 : most < 0
  · rw [if_pos h7]
  · rw [if_neg h7, if_pos (by omega)]

theorem fascineref01_Text_is {s : ByteArray} {k : Nat} (hs : s.size ≤ 1099511627776) (hk : 10 ≤ k) : fascineref01_Text.f k s = some (textL s) := by
  unfold fascineref01_Text.f
  have := uv_len64 (n := s.size) (by omega)
  rw [wu64 (by omega) (by omega), fascineref01_Uvarint_is (by omega) (by omega) hk, Option.bind_some, Int.toNat_natCast, if_pos (by omega)]
  rfl

theorem PackTexts : PackTexts_PureU := by
  intro a s b ha hwa hs hb hwb
  rw [sumB_one] at ha hb
  have hpa := By.of_wf hwa
  have hpb := By.of_wf hwb
  refine ⟨200, ?_⟩
  unfold fascinelaw01_PackTexts.f
  have hu := uv_len64 (n := s.size) (by omega)
  have hlt := textL_len s
  have hby : By (a ++ textL s ++ b) := (hpa.append (textL_by s)).append hpb
  have hl : (a ++ textL s ++ b).length = a.length + (textL s).length + b.length := by simp only [List.length_append]
  have hdrop : (a ++ textL s ++ b).drop a.length = textL s ++ b := by rw [List.append_assoc, List.drop_left]
  have e1 := readT_at hdrop (by omega) (by omega) (Int.le_refl _)
  have e2 := readT_long hdrop (by omega) (by omega) (most := (s.size : Int) - 1) (by omega)
  rw [fascinelaw01_awake_is (by omega), Option.bind_some, if_pos rfl, if_pos (by simp; omega), Option.bind_some, List.nil_append, pack_Text_is (by omega) (by omega), Option.bind_some, if_pos (by omega), Option.bind_some, if_pos (by simp; omega), Option.bind_some]
  rw [pack_ReadText_is hby (by omega) (by omega) (by omega), Option.bind_some, w64 (x := (s.size : Int) - 1) (by omega) (by omega), pack_ReadText_is hby (by omega) (by omega) (by omega), Option.bind_some, e1, e2]
  simp only
  rw [if_pos trivial, if_pos (by simp), if_pos trivial, if_pos trivial, Option.bind_some, fascineref01_Text_is (by omega) (by omega), Option.bind_some]
  simp

end Go.Proofs.Ytifbpjkgckkalaa.Pure
