/- On the printed functions of PackRuns: what each of them answers, in plain words. -/
import Derived.Test.YtifbpjkgckkalaaPPackRunsx
import Derived.Test.YtifbpjkgckkalaaMSum
import Derived.Test.YtifbpjkgckkalaaMOpen
import Derived.Test.YtifbpjkgckkalaaQPackRuns
namespace Go.Proofs.Ytifbpjkgckkalaa.Pure
open Go.RowKit Go.Proofs.Ytifbpjkgckkalaa.PPackRuns Go.Proofs.YtifbpjkgckkalaaW.PrintWords Go.Proofs.YtifbpjkgckkalaaW.PrintLast Go.Proofs.YtifbpjkgckkalaaW.PrintMore Go.Proofs.Ytifbpjkgckkalaa.M
set_option linter.unusedVariables false
set_option linter.unusedSimpArgs false

theorem pack_Uvarint_l (n : Nat) : ∀ (k : Nat) (acc : List Int), (uv n).length ≤ k → acc.length + (uv n).length ≤ 140737488355328 → pack_Uvarint.l0 k (n : Int) acc = some (acc ++ uv n) := by
  induction n using Nat.strongRecOn with
  | _ n ih =>
    intro k acc hk ha
    obtain ⟨k, rfl⟩ : ∃ m, k = m + 1 := ⟨k - 1, by have := uv_pos n; omega⟩
    by_cases h : n < 128
    · rw [uv_lt h] at ha ⊢
      simp only [List.length_cons, List.length_nil] at ha
      simp only [pack_Uvarint.l0]
      rw [if_neg (by omega), if_pos (by omega), Int.emod_eq_of_lt (by omega) (by omega)]
    · rw [uv_ge h] at hk ha ⊢
      simp only [List.length_cons] at hk ha
      simp only [pack_Uvarint.l0]
      rw [if_pos (by omega), if_pos (by omega), bits_or128 (by omega) (by omega), show ((n : Int) / 128) = ((n / 128 : Nat) : Int) from by omega, ih (n / 128) (by omega) k _ (by omega) (by simp; omega)]
      rw [List.append_assoc, List.cons_append, List.nil_append, show (if (n : Int) % 256 < 128 then (n : Int) % 256 + 128 else (n : Int) % 256) = ((n % 128 + 128 : Nat) : Int) from by split <;> omega]
theorem pack_Uvarint_is {n : Int} {k : Nat} (h0 : 0 ≤ n) (h1 : n < 18446744073709551616) (hk : 10 ≤ k) : pack_Uvarint.f k n = some (uv n.toNat) := by
  obtain ⟨n, rfl⟩ := Int.eq_ofNat_of_zero_le h0
  have := uv_len64 (n := n) (by omega)
  unfold pack_Uvarint.f
  rw [pack_Uvarint_l n k [] (by omega) (by simp; omega)]; simp

theorem pack_ReadUvarint_step (x b : Int) (n i : Nat) (hb : 0 ≤ b ∧ b ≤ 255) (hn : n ≤ 9) (h9 : n = 9 → b ≤ 1) (hx0 : 0 ≤ x) (hx : x < ((2 ^ (7 * n) : Nat) : Int)) :
    Go.bits .or .u64 x (shl .u64 (IntKind.u64.wrap (Go.bits .and .u8 b 127)) ((7 * n : Nat) : Int)) = x + ((2 ^ (7 * n) : Nat) : Int) * (b % 128) ∧ (x + ((2 ^ (7 * n) : Nat) : Int) * (b % 128) < ((2 ^ (7 * n) : Nat) : Int) * 128) := by
  obtain ⟨y, rfl⟩ := Int.eq_ofNat_of_zero_le hx0
  obtain ⟨c, hc⟩ := Int.eq_ofNat_of_zero_le (show 0 ≤ b % 128 by omega)
  have hP : ∀ m : Fin 9, 2 ^ (7 * m.1) * 128 ≤ 9223372036854775808 := by decide
  have hP9 : 2 ^ (7 * 9) * 2 = 18446744073709551616 := by decide
  have hP9' : 2 ^ (7 * 9) = 9223372036854775808 := by decide
  have hy : y < 2 ^ (7 * n) := by omega
  have hm : 2 ^ (7 * n) * c ≤ 2 ^ (7 * n) * 127 := Nat.mul_le_mul_left _ (by omega)
  have hs : y + 2 ^ (7 * n) * c < 2 ^ 64 := by
    rcases Nat.lt_or_ge n 9 with h | h
    · have := hP ⟨n, h⟩; simp only at this; omega
    · have e : n = 9 := by omega
      subst e
      have h1 := h9 rfl
      have : 2 ^ (7 * 9) * c ≤ 2 ^ (7 * 9) * 1 := Nat.mul_le_mul_left _ (by omega)
      omega
  have e := or_u64 y c (7 * n) hy hs
  constructor
  · rw [bits_and127 hb.1 (by omega), hc, wu64 (by omega) (by omega)]
    unfold shl
    rw [show min (((7 * n : Nat) : Int)).toNat (IntKind.u64).bits = 7 * n from by rw [Int.toNat_natCast, show (IntKind.u64).bits = 64 from rfl]; omega]
    rw [show ((c : Int) * 2 ^ (7 * n)) = ((2 ^ (7 * n) * c : Nat) : Int) from by simp [Int.mul_comm], wu64 (by omega) (by omega), e]
    simp
  · rw [hc]
    have : y + 2 ^ (7 * n) * c < 2 ^ (7 * n) * 128 := by omega
    exact_mod_cast this

theorem pack_ReadUvarint_round (p : List Int) (a : Nat) (hp : By p) (hl : p.length ≤ 140737488355328) (m n k : Nat) (x : Int) (hmn : m + n = 9) (hk : 2 * m + 2 ≤ k) (hx0 : 0 ≤ x) (hx : x < ((2 ^ (7 * n) : Nat) : Int))
    (ih : 0 < m → ∀ (k : Nat) (x : Int), 2 * (m - 1) + 2 ≤ k → 0 ≤ x → x < ((2 ^ (7 * (n + 1)) : Nat) : Int) → pack_ReadUvarint.l0 k p (a : Int) x ((a + (n + 1) : Nat) : Int) = some (match ru (p.drop (a + (n + 1))) (n + 1) with | none => (0, 0, 3) | some (v, c) => (x + ((2 ^ (7 * (n + 1)) : Nat) : Int) * (v : Int), ((a + (n + 1) + c : Nat) : Int), 0))) :
    pack_ReadUvarint.l0 k p (a : Int) x ((a + n : Nat) : Int) = some (match ru (p.drop (a + n)) n with | none => (0, 0, 3) | some (v, c) => (x + ((2 ^ (7 * n) : Nat) : Int) * (v : Int), ((a + n + c : Nat) : Int), 0)) := by
  obtain ⟨k, rfl⟩ : ∃ j, k = j + 2 := ⟨k - 2, by omega⟩
  rcases hd : p.drop (a + n) with _ | ⟨b, t⟩
  · have hge : p.length ≤ a + n := List.drop_eq_nil_iff.1 hd
    simp only [pack_ReadUvarint.l0]
    rw [if_neg (by omega)]; simp only [ru]
  · have hlt := lt_of_drop hd
    have hr := rd_cons hd
    have hb : 0 ≤ b ∧ b ≤ 255 := (hp.drop (a + n)) b (by rw [hd]; exact List.mem_cons_self)
    have hs := drop_succ_of hd
    have hw : wrap64 (((a + n : Nat) : Int) - (a : Int)) = (n : Int) := by rw [w64 (by omega) (by omega)]; omega
    simp only [pack_ReadUvarint.l0]
    rw [if_pos (by omega), if_pos (by omega), hw, hr]
    have hall : ∀ (T : Bool → Option (Int × Int × Int)), (if (n : Int) = 9 then (if b > 1 then T true else (if b = 0 then T (decide ((n : Int) > 0)) else T false)) else (if b = 0 then T (decide ((n : Int) > 0)) else T false)) = T (decide (n = 9 ∧ b > 1 ∨ b = 0 ∧ n > 0)) := by
      intro T
      by_cases h1 : n = 9
      · subst h1
        rw [if_pos (by omega)]
        by_cases h2 : b > 1
        · rw [if_pos h2]; congr 1; first | (rw [decide_eq_decide]; omega) | (symm; rw [decide_eq_true_iff]; omega) | (symm; rw [decide_eq_false_iff_not]; omega)
        · rw [if_neg h2]
          by_cases h3 : b = 0
          · rw [if_pos h3]; congr 1; first | (rw [decide_eq_decide]; omega) | (symm; rw [decide_eq_true_iff]; omega) | (symm; rw [decide_eq_false_iff_not]; omega)
          · rw [if_neg h3]; congr 1; first | (rw [decide_eq_decide]; omega) | (symm; rw [decide_eq_true_iff]; omega) | (symm; rw [decide_eq_false_iff_not]; omega)
      · rw [if_neg (by omega)]
        by_cases h3 : b = 0
        · rw [if_pos h3]; congr 1; first | (rw [decide_eq_decide]; omega) | (symm; rw [decide_eq_true_iff]; omega) | (symm; rw [decide_eq_false_iff_not]; omega)
        · rw [if_neg h3]; congr 1; first | (rw [decide_eq_decide]; omega) | (symm; rw [decide_eq_true_iff]; omega) | (symm; rw [decide_eq_false_iff_not]; omega)
    have hall := hall (fun z => pack_ReadUvarint.j2 (k + 1) p (a : Int) x ((a + n : Nat) : Int) (n : Int) b z)
    rw [hall]
    simp only [pack_ReadUvarint.j2, ru, decide_eq_true_eq]
    by_cases hc : n = 9 ∧ b > 1 ∨ b = 0 ∧ n > 0
    · rw [if_pos hc, if_pos hc]
    · rw [if_neg hc, if_neg hc]
      obtain ⟨e1, e2⟩ := pack_ReadUvarint_step x b n 0 hb (by omega) (by omega) hx0 hx
      rw [show wrap64 (7 * (n : Int)) = ((7 * n : Nat) : Int) from by rw [w64 (by omega) (by omega)]; omega, if_pos (by omega), e1]
      rw [show wrap64 (((a + n : Nat) : Int) + 1) = ((a + (n + 1) : Nat) : Int) from by rw [w64 (by omega) (by omega)]; omega]
      by_cases h1 : b < 128
      · rw [if_pos h1, if_pos h1]
        simp only [Option.some.injEq, Prod.mk.injEq, and_true]
        refine ⟨?_, by omega⟩
        rw [show b % 128 = (b.toNat : Int) from by omega]
      · rw [if_neg h1, if_neg h1]
        have hP : (2 ^ (7 * (n + 1)) : Nat) = 2 ^ (7 * n) * 128 := by rw [show 7 * (n + 1) = 7 * n + 7 from by omega, Nat.pow_add]
        have h0 : 0 ≤ ((2 ^ (7 * n) : Nat) : Int) * (b % 128) := Int.mul_nonneg (by omega) (by omega)
        rw [ih (by omega) k _ (by omega) (by omega) (by rw [hP]; simpa using e2), show a + (n + 1) = a + n + 1 from by omega, hs]
        cases hq : ru t (n + 1) with
        | none => rfl
        | some q =>
          obtain ⟨v, c⟩ := q
          simp only [Option.some.injEq, Prod.mk.injEq, and_true]
          refine ⟨?_, by omega⟩
          rw [hP, show b % 128 = (((b - 128).toNat : Nat) : Int) from by omega]
          have hring : ∀ P y w : Int, x + P * y + P * 128 * w = x + P * (y + 128 * w) := fun P y w => by rw [Int.mul_add, Int.mul_assoc, Int.add_assoc]
          push_cast
          exact hring _ _ _

theorem pack_ReadUvarint_l (p : List Int) (a : Nat) (hp : By p) (hl : p.length ≤ 140737488355328) (m : Nat) : ∀ (n k : Nat) (x : Int), m + n = 9 → 2 * m + 2 ≤ k → 0 ≤ x → x < ((2 ^ (7 * n) : Nat) : Int) →
    pack_ReadUvarint.l0 k p (a : Int) x ((a + n : Nat) : Int) = some (match ru (p.drop (a + n)) n with | none => (0, 0, 3) | some (v, c) => (x + ((2 ^ (7 * n) : Nat) : Int) * (v : Int), ((a + n + c : Nat) : Int), 0)) := by
  induction m with
  | zero =>
    intro n k x hmn hk hx0 hx
    exact pack_ReadUvarint_round p a hp hl 0 n k x hmn hk hx0 hx (fun h => by omega)
  | succ m ih =>
    intro n k x hmn hk hx0 hx
    exact pack_ReadUvarint_round p a hp hl (m + 1) n k x hmn hk hx0 hx (fun _ k x hk' hx0 hx => ih (n + 1) k x (by omega) (by omega) hx0 hx)

theorem pack_ReadUvarint_is {p : List Int} {i : Int} {k : Nat} (hp : By p) (hl : p.length ≤ 140737488355328) (hk : 21 ≤ k) : pack_ReadUvarint.f k p i = some (readU p i) := by
  obtain ⟨k, rfl⟩ : ∃ j, k = j + 1 := ⟨k - 1, by omega⟩
  unfold pack_ReadUvarint.f readU
  by_cases h0 : i < 0
  · rw [if_pos h0, if_pos (Or.inl h0)]; simp only [pack_ReadUvarint.j0, if_true]
  · rw [if_neg h0]
    by_cases h1 : i > (p.length : Int)
    · rw [if_pos (Or.inr h1)]; simp only [pack_ReadUvarint.j0, decide_eq_true h1, if_true]
    · obtain ⟨a, rfl⟩ := Int.eq_ofNat_of_zero_le (show 0 ≤ i by omega)
      rw [if_neg (by omega)]
      simp only [pack_ReadUvarint.j0, decide_eq_true_eq]
      rw [if_neg h1]
      have e := pack_ReadUvarint_l p a hp hl 9 0 k 0 (by omega) (by omega) (by omega) (by simp)
      simp only [Nat.add_zero] at e
      rw [e, Int.toNat_natCast]
      cases ru (p.drop a) 0 with
      | none => rfl
      | some q => obtain ⟨v, c⟩ := q; simp

/-- the text at a place, of at most so many bytes -/
def readT (p : List Int) (at_ most : Int) : ByteArray × Int × Int :=
  match readU p at_ with
  | (n, i, e) => if e = 0 then (if n > (p.length : Int) - i then (⟨#[]⟩, 0, 3) else if most < 0 then (⟨#[]⟩, 0, 2) else if n > most then (⟨#[]⟩, 0, 2) else (strOfNums ((p.take (i + n).toNat).drop i.toNat), i + n, 0)) else (⟨#[]⟩, 0, e)
theorem pack_ReadText_is {p : List Int} {i m : Int} {k : Nat} (hp : By p) (hl : p.length ≤ 140737488355328) (hm : -9223372036854775808 ≤ m ∧ m ≤ 9223372036854775807) (hk : 21 ≤ k) : pack_ReadText.f k p i m = some (readT p i m) := by
  unfold pack_ReadText.f readT
  rw [pack_ReadUvarint_is hp hl hk, Option.bind_some]
  rcases hru : readU p i with ⟨n, j, e⟩
  simp only
  rcases readU_ok hp hru with ⟨rfl, h1, h2, h3, ⟨r, hr⟩, h5, h6⟩ | ⟨rfl, rfl, h⟩
  · have hpos := uv_pos n.toNat
    simp only [if_true]
    rw [w64 (x := (p.length : Int) - j) (by omega) (by omega), wu64 (by omega) (by omega)]
    by_cases h4 : n > (p.length : Int) - j
    · rw [if_pos h4, if_pos h4]
    · rw [if_neg h4, if_neg h4]
      by_cases h7 : m < 0
      · rw [if_pos h7, if_pos h7]
      · rw [if_neg h7, if_neg h7, wu64 (by omega) (by omega)]
        by_cases h8 : n > m
        · rw [if_pos h8, if_pos h8]
        · rw [if_neg h8, if_neg h8, w64 (x := n) (by omega) (by omega), w64 (x := j + n) (by omega) (by omega), if_pos (by omega), if_pos (by omega), if_pos (by omega)]
  · rw [if_neg (by omega), if_neg (by omega)]

theorem pack_Zig_minus : pack_Zig.f (-1) = some 1 := by
  unfold pack_Zig.f
  decide +kernel

theorem pack_Sum_l1 (l : List Int) (i : Nat) (j : Nat) : ∀ (k c : Nat), j ≤ 8 → j + 1 ≤ k → c < 2 ^ 32 → ∃ k', k ≤ k' + j + 1 ∧ pack_Sum.l1 k (c : Int) l (l.length : Int) (i : Int) ((8 - j : Nat) : Int) = pack_Sum.l0 k' ((crcBits j c : Nat) : Int) l (l.length : Int) (wrap64 ((i : Int) + 1)) := by
  induction j with
  | zero =>
    intro k c hj hk hc
    obtain ⟨k, rfl⟩ : ∃ m, k = m + 1 := ⟨k - 1, by omega⟩
    refine ⟨k, by omega, ?_⟩
    simp only [pack_Sum.l1]
    rw [if_neg (by omega)]; rfl
  | succ j ih =>
    intro k c hj hk hc
    obtain ⟨k, rfl⟩ : ∃ m, k = m + 1 := ⟨k - 1, by omega⟩
    obtain ⟨k', h1, h2⟩ := ih k (crcStep c) (by omega) (by omega) (crcStep_lt hc)
    refine ⟨k', by omega, ?_⟩
    show _ = pack_Sum.l0 k' ((crcBits j (crcStep c) : Nat) : Int) l (l.length : Int) (wrap64 ((i : Int) + 1))
    rw [← h2]
    simp only [pack_Sum.l1]
    rw [if_pos (by omega), and1_u32 (by omega) (by omega), show wrap64 (((8 - (j + 1) : Nat) : Int) + 1) = ((8 - j : Nat) : Int) from by rw [w64 (by omega) (by omega)]; omega]
    unfold crcStep
    by_cases h : c % 2 = 1
    · rw [if_pos (by omega), if_pos h, show ((c : Int) / 2) = ((c / 2 : Nat) : Int) from by omega]
      rw [show (3988292384 : Int) = ((3988292384 : Nat) : Int) from rfl, xor_u32 (by omega) (by omega)]
    · rw [if_neg (by omega), if_neg h, show ((c : Int) / 2) = ((c / 2 : Nat) : Int) from by omega]
theorem pack_Sum_l0 (l : List Int) (hl : By l) (hn : l.length ≤ 140737488355328) : ∀ (t : List Int) (i k c : Nat), l.drop i = t → 10 * t.length + 1 ≤ k → c < 2 ^ 32 → pack_Sum.l0 k (c : Int) l (l.length : Int) (i : Int) = some ((4294967295 ^^^ crc t c : Nat) : Int)
  | [], i, k, c, hd, hk, hc => by
    obtain ⟨k, rfl⟩ : ∃ m, k = m + 1 := ⟨k - 1, by omega⟩
    have := List.drop_eq_nil_iff.1 hd
    simp only [pack_Sum.l0]
    rw [if_neg (by omega), show (4294967295 : Int) = ((4294967295 : Nat) : Int) from rfl, xor_u32 (by omega) hc]; rfl
  | b :: t, i, k, c, hd, hk, hc => by
    simp only [List.length_cons] at hk
    obtain ⟨k, rfl⟩ : ∃ m, k = m + 1 := ⟨k - 1, by omega⟩
    have hlt := lt_of_drop hd
    have hb : 0 ≤ b ∧ b ≤ 255 := (hl.drop i) b (by rw [hd]; exact List.mem_cons_self)
    obtain ⟨n, rfl⟩ := Int.eq_ofNat_of_zero_le hb.1
    simp only [pack_Sum.l0]
    rw [if_pos (by omega), if_pos (by omega), if_pos (by omega), rd_cons hd, Int.emod_eq_of_lt (by omega) (by omega), xor_u32 hc (by omega)]
    obtain ⟨k', h1, h2⟩ := pack_Sum_l1 l i 8 k (c ^^^ n) (by omega) (by omega) (Nat.xor_lt_two_pow hc (by omega))
    rw [show ((8 - 8 : Nat) : Int) = 0 from rfl] at h2
    rw [h2, show wrap64 ((i : Int) + 1) = ((i + 1 : Nat) : Int) from by rw [w64 (by omega) (by omega)]; omega]
    rw [pack_Sum_l0 l hl hn t (i + 1) k' _ (drop_succ_of hd) (by omega) (crcBits_lt 8 (Nat.xor_lt_two_pow hc (by omega)))]
    rfl
theorem pack_Sum_is {l : List Int} {k : Nat} (hl : By l) (hn : l.length ≤ 140737488355328) (hk : 10 * l.length + 1 ≤ k) : pack_Sum.f k l = some (sumOf l : Int) :=
  pack_Sum_l0 l hl hn l 0 k 4294967295 rfl hk (by omega)

theorem fascinelaw01_awake_is {k : Nat} (hk : 91 ≤ k) : fascinelaw01_awake.f k = some true := by
  unfold fascinelaw01_awake.f
  rw [pack_Uvarint_is (by omega) (by omega) (by omega), Option.bind_some, show uv (300 : Int).toNat = [172, 2] from by rw [uv_ge (by decide), uv_lt (by decide)]; rfl, if_pos (by rw [strOf_list]; rfl), pack_Zig_minus, Option.bind_some, if_pos rfl]
  rw [pack_Sum_is (fun x hx => by simp at hx; omega) (by simp) (by simpa using hk), Option.bind_some, crc_awake]
  rfl

theorem bytesOf_by (s : ByteArray) : By (bytesOf s) := by
  intro x hx
  simp only [bytesOf, List.mem_map] at hx
  obtain ⟨b, _, rfl⟩ := hx
  have := b.toNat_lt
  omega
theorem strOf_bytesOf (s : ByteArray) : strOfNums (bytesOf s) = s := by
  have h : (bytesOf s).map (fun n => UInt8.ofNat n.toNat) = s.data.toList := by
    unfold bytesOf
    rw [List.map_map]
    conv => rhs; rw [← List.map_id s.data.toList]
    apply List.map_congr_left
    intro b _
    simp
  unfold strOfNums
  rw [h]
/-- a text's length and its bytes -/
def textL (s : ByteArray) : List Int := uv s.size ++ bytesOf s
theorem textL_len (s : ByteArray) : (textL s).length = (uv s.size).length + s.size := by simp [textL, bytesOf_length]
theorem textL_by (s : ByteArray) : By (textL s) := (uv_by _).append (bytesOf_by s)
theorem pack_Text_is {s : ByteArray} {k : Nat} (hs : s.size ≤ 1099511627776) (hk : 10 ≤ k) : pack_Text.f k s = some (textL s) := by
  unfold pack_Text.f
  have := uv_len64 (n := s.size) (by omega)
  rw [wu64 (by omega) (by omega), pack_Uvarint_is (by omega) (by omega) hk, Option.bind_some, Int.toNat_natCast, if_pos (by omega)]
  rfl
theorem readT_at {p r : List Int} {i : Nat} {s : ByteArray} {most : Int} (h : p.drop i = textL s ++ r) (hi : i ≤ p.length) (hs : s.size ≤ 1099511627776) (hm : (s.size : Int) ≤ most) : readT p (i : Int) most = (s, ((i + (textL s).length : Nat) : Int), 0) := by
  have h' : p.drop i = uv s.size ++ (bytesOf s ++ r) := by rw [h]; simp [textL]
  have hl := le_of_drop_append h hi
  have hlt := textL_len s
  unfold readT
  rw [readU_at h' hi (by omega)]
  simp only [if_true]
  rw [if_neg (by omega), if_neg (by omega), if_neg (by omega)]
  have e : (p.take ((i : Int) + ((uv s.size).length : Int) + (s.size : Int)).toNat).drop ((i : Int) + ((uv s.size).length : Int)).toNat = bytesOf s := by
    rw [show ((i : Int) + ((uv s.size).length : Int) + (s.size : Int)).toNat = (i + (uv s.size).length) + s.size from by omega, show ((i : Int) + ((uv s.size).length : Int)).toNat = i + (uv s.size).length from by omega]
    rw [List.drop_take, drop_append_eq h', show i + (uv s.size).length + s.size - (i + (uv s.size).length) = s.size from by omega, ← bytesOf_length s, List.take_left]
  rw [e, strOf_bytesOf]
  simp only [Prod.mk.injEq, true_and, and_true]
  omega
theorem readT_long {p r : List Int} {i : Nat} {s : ByteArray} {most : Int} (h : p.drop i = textL s ++ r) (hi : i ≤ p.length) (hs : s.size ≤ 1099511627776) (hm : most < (s.size : Int)) : (readT p (i : Int) most).2.2 = 2 := by
  have h' : p.drop i = uv s.size ++ (bytesOf s ++ r) := by rw [h]; simp [textL]
  have hl := le_of_drop_append h hi
  have hlt := textL_len s
  unfold readT
  rw [readU_at h' hi (by omega)]
  simp only [if_true]
  rw [if_neg (by omega)]
  by_cases h7 : most < 0
  · rw [if_pos h7]
  · rw [if_neg h7, if_pos (by omega)]

/-- texts and numbers one behind the other -/
def runB : List ByteArray → List Int → List Int
  | [], _ => []
  | s :: l, [] => textL s ++ runB l []
  | s :: l, x :: v => textL s ++ (uv x.toNat ++ runB l v)
def U64 (l : List Int) : Prop := ∀ x ∈ l, 0 ≤ x ∧ x ≤ 18446744073709551615
theorem runB_len : ∀ (l : List ByteArray) (v : List Int), U64 v → (∀ s ∈ l, s.size ≤ 1048576) → (runB l v).length ≤ 20 * l.length + sumB (fun s => s.size + 1) l
  | [], _, _, _ => by simp [runB]
  | s :: l, [], hv, hs => by
    have h1 := textL_len s
    have h2 := uv_len64 (n := s.size) (by have := hs s List.mem_cons_self; omega)
    have := runB_len l [] hv (fun s h => hs s (List.mem_cons_of_mem _ h))
    simp only [runB, List.length_append, List.length_cons, sumB]; omega
  | s :: l, x :: v, hv, hs => by
    have h1 := textL_len s
    have h2 := uv_len64 (n := s.size) (by have := hs s List.mem_cons_self; omega)
    have h3 := uv_len64 (n := x.toNat) (by have := hv x List.mem_cons_self; omega)
    have := runB_len l v (fun x h => hv x (List.mem_cons_of_mem _ h)) (fun s h => hs s (List.mem_cons_of_mem _ h))
    simp only [runB, List.length_append, List.length_cons, sumB]; omega
theorem runB_by : ∀ (l : List ByteArray) (v : List Int), By (runB l v)
  | [], _ => fun x hx => by simp [runB] at hx
  | s :: l, [] => by simp only [runB]; exact (textL_by s).append (runB_by l [])
  | s :: l, x :: v => by simp only [runB]; exact (textL_by s).append ((uv_by _).append (runB_by l v))
theorem rdOf_cons {l t : List ByteArray} {b : ByteArray} {i : Nat} (h : l.drop i = b :: t) : rdOf ByteArray.empty l (i : Int) = b := by
  unfold rdOf
  have : l[i]? = some b := by rw [← List.head?_drop, h]; rfl
  rw [Int.toNat_natCast, List.getD_eq_getElem?_getD, this]; rfl
theorem dropS_succ_of {l t : List ByteArray} {b : ByteArray} {i : Nat} (h : l.drop i = b :: t) : l.drop (i + 1) = t := by
  rw [← List.drop_drop, h]; rfl
theorem ltS_of_drop {l t : List ByteArray} {b : ByteArray} {i : Nat} (h : l.drop i = b :: t) : i < l.length := by
  have := congrArg List.length h; simp at this; omega
theorem PackRuns_l0 (l : List ByteArray) (v : List Int) (hl : l.length ≤ 200) (hv : U64 v) (hs : ∀ s ∈ l, s.size ≤ 1048576) (hvl : v.length ≤ 200) : ∀ (t : List ByteArray) (i k : Nat) (acc : List Int), l.drop i = t → t.length + 20 ≤ k → acc.length + 20 * t.length + sumB (fun s => s.size + 1) t ≤ 100000000 →
    ∃ k', k ≤ k' + t.length + 1 ∧ fascinelaw01_PackRuns.l0 k l v acc (i : Int) = fascinelaw01_PackRuns.l1 k' l v (acc ++ runB t (v.drop i)) 0 0
  | [], i, k, acc, hd, hk, ha => by
    obtain ⟨k, rfl⟩ : ∃ j, k = j + 1 := ⟨k - 1, by omega⟩
    have hge := List.drop_eq_nil_iff.1 hd
    refine ⟨k, by omega, ?_⟩
    simp only [fascinelaw01_PackRuns.l0]
    rw [if_neg (by omega)]; simp [runB]
  | s :: t, i, k, acc, hd, hk, ha => by
    obtain ⟨k, rfl⟩ : ∃ j, k = j + 1 := ⟨k - 1, by omega⟩
    have hlt := ltS_of_drop hd
    have hsz : s.size ≤ 1048576 := hs s (List.mem_of_mem_drop (i := i) (by rw [hd]; exact List.mem_cons_self))
    have h1 := textL_len s
    have h2 := uv_len64 (n := s.size) (by omega)
    simp only [List.length_cons, sumB] at hk ha
    simp only [fascinelaw01_PackRuns.l0]
    rw [if_pos (by omega), if_pos (by omega), rdOf_cons hd, pack_Text_is (by omega) (by omega), Option.bind_some, if_pos (by omega), Option.bind_some, wsucc (by omega)]
    rcases hv' : v.drop i with _ | ⟨x, u⟩
    · have hge := List.drop_eq_nil_iff.1 hv'
      rw [if_neg (by omega)]
      obtain ⟨k', e1, e2⟩ := PackRuns_l0 l v hl hv hs hvl t (i + 1) k (acc ++ textL s) (dropS_succ_of hd) (by omega) (by simp only [List.length_append]; omega)
      refine ⟨k', by simp only [List.length_cons]; omega, ?_⟩
      rw [e2, List.drop_eq_nil_of_le (by omega)]
      simp [runB]
    · have hlt2 := lt_of_drop hv'
      have hx := hv x (List.mem_of_mem_drop (i := i) (by rw [hv']; exact List.mem_cons_self))
      have h3 := uv_len64 (n := x.toNat) (by omega)
      rw [if_pos (by omega), rd_cons hv', pack_Uvarint_is (by omega) (by omega) (by omega), Option.bind_some, if_pos (by simp only [List.length_append]; omega)]
      obtain ⟨k', e1, e2⟩ := PackRuns_l0 l v hl hv hs hvl t (i + 1) k (acc ++ textL s ++ uv x.toNat) (dropS_succ_of hd) (by omega) (by simp only [List.length_append]; omega)
      refine ⟨k', by simp only [List.length_cons]; omega, ?_⟩
      rw [e2, drop_succ_of hv']
      simp [runB]
theorem PackRuns_l1 (l : List ByteArray) (v : List Int) (hl : l.length ≤ 200) (hv : U64 v) (hs : ∀ s ∈ l, s.size ≤ 1048576) (hvl : v.length ≤ 200) (p : List Int) (hp : By p) (hpl : p.length ≤ 100000000) : ∀ (t : List ByteArray) (i k at_ : Nat), l.drop i = t → 2 * t.length + 50 ≤ k → p.drop at_ = runB t (v.drop i) → at_ ≤ p.length →
    fascinelaw01_PackRuns.l1 k l v p (at_ : Int) (i : Int) = some true
  | [], i, k, at_, hd, hk, hpd, hat => by
    obtain ⟨k, rfl⟩ : ∃ j, k = j + 1 := ⟨k - 1, by omega⟩
    have hge := List.drop_eq_nil_iff.1 hd
    simp only [runB] at hpd
    have := List.drop_eq_nil_iff.1 hpd
    simp only [fascinelaw01_PackRuns.l1]
    rw [if_neg (by omega)]
    simp; omega
  | s :: t, i, k, at_, hd, hk, hpd, hat => by
    obtain ⟨k, rfl⟩ : ∃ j, k = j + 2 := ⟨k - 2, by omega⟩
    have hlt := ltS_of_drop hd
    have hsz : s.size ≤ 1048576 := hs s (List.mem_of_mem_drop (i := i) (by rw [hd]; exact List.mem_cons_self))
    simp only [List.length_cons] at hk
    simp only [fascinelaw01_PackRuns.l1]
    rw [if_pos (by omega), if_pos (by omega), rdOf_cons hd]
    rcases hv' : v.drop i with _ | ⟨x, u⟩
    · have hge := List.drop_eq_nil_iff.1 hv'
      rw [hv'] at hpd
      simp only [runB] at hpd
      have hl2 := le_of_drop_append hpd hat
      rw [pack_ReadText_is hp (by omega) (by omega) (by omega), Option.bind_some, readT_at hpd hat (by omega) (Int.le_refl _)]
      simp only [if_true, bne_self_eq_false, fascinelaw01_PackRuns.j3]
      rw [if_neg (by simp), if_neg (by omega), wsucc (by omega)]
      exact PackRuns_l1 l v hl hv hs hvl p hp hpl t (i + 1) k (at_ + (textL s).length) (dropS_succ_of hd) (by omega) (by rw [drop_append_eq hpd, List.drop_eq_nil_of_le (by omega)]) (by omega)
    · have hlt2 := lt_of_drop hv'
      have hx := hv x (List.mem_of_mem_drop (i := i) (by rw [hv']; exact List.mem_cons_self))
      rw [hv'] at hpd
      simp only [runB] at hpd
      have hl2 := le_of_drop_append hpd hat
      have hpd2 := drop_append_eq hpd
      have hl3 := le_of_drop_append hpd2 (by omega)
      rw [pack_ReadText_is hp (by omega) (by omega) (by omega), Option.bind_some, readT_at hpd hat (by omega) (Int.le_refl _)]
      simp only [if_true, bne_self_eq_false, fascinelaw01_PackRuns.j3]
      rw [if_neg (by simp), if_pos (by omega), pack_ReadUvarint_is hp (by omega) (by omega), Option.bind_some, readU_at hpd2 (by omega) (by omega)]
      simp only [if_true]
      rw [if_pos (by omega), rd_cons hv', if_pos (by omega), wsucc (by omega)]
      rw [show ((at_ + (textL s).length : Nat) : Int) + ((uv x.toNat).length : Int) = ((at_ + (textL s).length + (uv x.toNat).length : Nat) : Int) from by omega]
      exact PackRuns_l1 l v hl hv hs hvl p hp hpl t (i + 1) k _ (dropS_succ_of hd) (by omega) (by rw [drop_append_eq hpd2, drop_succ_of hv']) (by omega)
theorem PackRuns : PackRuns_PureU := by
  intro l v hs hvs hw
  rw [sumB_one] at hvs
  have hv : U64 v := fun x hx => wf_u64 (hw x hx)
  have hsz : ∀ s ∈ l, s.size ≤ 1048576 := fun s h => by have h1 : s.size + 1 ≤ _ := sumB_mem (b := fun s : ByteArray => s.size + 1) h; omega
  have hll : l.length ≤ 1048576 := by
    have := sumB_mono (b := fun _ => 1) (c := fun s : ByteArray => s.size + 1) (fun x => by omega) l
    rw [sumB_one] at this; omega
  obtain ⟨K, hK⟩ : ∃ K, K = 1000 := ⟨_, rfl⟩
  refine ⟨K + 1, ?_⟩
  unfold fascinelaw01_PackRuns.f
  rw [fascinelaw01_awake_is (by omega), Option.bind_some, if_pos rfl]
  simp only [fascinelaw01_PackRuns.j0]
  rw [w64 (by omega) (by omega)]
  by_cases h200 : (l.length : Int) + (v.length : Int) > 200
  · rw [if_pos (by simpa using h200), fascinelaw01_awake_is (by omega)]; rfl
  · rw [if_neg (by simpa using h200)]
    obtain ⟨k', e1, e2⟩ := PackRuns_l0 l v (by omega) hv hsz (by omega) l 0 K [] rfl (by omega) (by simp only [List.length_nil]; omega)
    rw [show ((0 : Nat) : Int) = 0 from rfl] at e2
    rw [e2, List.nil_append, List.drop_zero]
    have hlen := runB_len l v hv hsz
    exact PackRuns_l1 l v (by omega) hv hsz (by omega) (runB l v) (runB_by l v) (by omega) l 0 k' 0 rfl (by omega) rfl (by omega)

end Go.Proofs.Ytifbpjkgckkalaa.Pure
