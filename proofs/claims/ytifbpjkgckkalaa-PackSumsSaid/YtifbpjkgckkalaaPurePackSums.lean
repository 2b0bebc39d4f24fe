/- On the printed functions of PackSums: what each of them answers, in plain words. -/
import Derived.Test.YtifbpjkgckkalaaPPackSumsx1
import Derived.Test.YtifbpjkgckkalaaMSum
namespace Go.Proofs.Ytifbpjkgckkalaa.Pure
open Go.RowKit Go.Proofs.Ytifbpjkgckkalaa.PPackSums Go.Proofs.YtifbpjkgckkalaaW.PrintWords Go.Proofs.YtifbpjkgckkalaaW.PrintLast Go.Proofs.YtifbpjkgckkalaaW.PrintMore Go.Proofs.Ytifbpjkgckkalaa.M
set_option linter.unusedVariables false
set_option linter.unusedSimpArgs false

theorem pack_Uvarint_l (n : Nat) : ∀ (k : Nat) (acc : List Int), (uv n).length ≤ k → acc.length + (uv n).length ≤ 140737488355328 → pack_Uvarint.l0 k (n : Int) acc = some (acc ++ uv n) := by
  induction n using Nat.strongRecOn with
  | _ n ih =>
    intro k acc hk ha
    obtain ⟨k, rfl⟩ : ∃ m, k = m + 1 := ⟨k - 1, by have := uv_pos n; omega⟩
    by_cases h : n < 128
    · rw [uv_lt h] at ha ⊢
      simp only [List.length_cons, List.length_nil] at ha
      simp only [pack_Uvarint.l0]
      rw [if_neg (by omega), if_pos (by omega), Int.emod_eq_of_lt (by omega) (by omega)]
    · rw [uv_ge h] at hk ha ⊢
      simp only [List.length_cons] at hk ha
      simp only [pack_Uvarint.l0]
      rw [if_pos (by omega), if_pos (by omega), bits_or128 (by omega) (by omega), show ((n : Int) / 128) = ((n / 128 : Nat) : Int) from by omega, ih (n / 128) (by omega) k _ (by omega) (by simp; omega)]
      rw [List.append_assoc, List.cons_append, List.nil_append, show (if (n : Int) % 256 < 128 then (n : Int) % 256 + 128 else (n : Int) % 256) = ((n % 128 + 128 : Nat) : Int) from by split <;> omega]
theorem pack_Uvarint_is {n : Int} {k : Nat} (h0 : 0 ≤ n) (h1 : n < 18446744073709551616) (hk : 10 ≤ k) : pack_Uvarint.f k n = some (uv n.toNat) := by
  obtain ⟨n, rfl⟩ := Int.eq_ofNat_of_zero_le h0
  have := uv_len64 (n := n) (by omega)
  unfold pack_Uvarint.f
  rw [pack_Uvarint_l n k [] (by omega) (by simp; omega)]; simp

theorem pack_Zig_minus : pack_Zig.f (-1) = some 1 := by
  unfold pack_Zig.f
  decide +kernel

theorem pack_Sum_l1 (l : List Int) (i : Nat) (j : Nat) : ∀ (k c : Nat), j ≤ 8 → j + 1 ≤ k → c < 2 ^ 32 → ∃ k', k ≤ k' + j + 1 ∧ pack_Sum.l1 k (c : Int) l (l.length : Int) (i : Int) ((8 - j : Nat) : Int) = pack_Sum.l0 k' ((crcBits j c : Nat) : Int) l (l.length : Int) (wrap64 ((i : Int) + 1)) := by
  induction j with
  | zero =>
    intro k c hj hk hc
    obtain ⟨k, rfl⟩ : ∃ m, k = m + 1 := ⟨k - 1, by omega⟩
    refine ⟨k, by omega, ?_⟩
    simp only [pack_Sum.l1]
    rw [if_neg (by omega)]; rfl
  | succ j ih =>
    intro k c hj hk hc
    obtain ⟨k, rfl⟩ : ∃ m, k = m + 1 := ⟨k - 1, by omega⟩
    obtain ⟨k', h1, h2⟩ := ih k (crcStep c) (by omega) (by omega) (crcStep_lt hc)
    refine ⟨k', by omega, ?_⟩
    show _ = pack_Sum.l0 k' ((crcBits j (crcStep c) : Nat) : Int) l (l.length : Int) (wrap64 ((i : Int) + 1))
    rw [← h2]
    simp only [pack_Sum.l1]
    rw [if_pos (by omega), and1_u32 (by omega) (by omega), show wrap64 (((8 - (j + 1) : Nat) : Int) + 1) = ((8 - j : Nat) : Int) from by rw [w64 (by omega) (by omega)]; omega]
    unfold crcStep
    by_cases h : c % 2 = 1
    · rw [if_pos (by omega), if_pos h, show ((c : Int) / 2) = ((c / 2 : Nat) : Int) from by omega]
      rw [show (3988292384 : Int) = ((3988292384 : Nat) : Int) from rfl, xor_u32 (by omega) (by omega)]
    · rw [if_neg (by omega), if_neg h, show ((c : Int) / 2) = ((c / 2 : Nat) : Int) from by omega]
theorem pack_Sum_l0 (l : List Int) (hl : By l) (hn : l.length ≤ 140737488355328) : ∀ (t : List Int) (i k c : Nat), l.drop i = t → 10 * t.length + 1 ≤ k → c < 2 ^ 32 → pack_Sum.l0 k (c : Int) l (l.length : Int) (i : Int) = some ((4294967295 ^^^ crc t c : Nat) : Int)
  | [], i, k, c, hd, hk, hc => by
    obtain ⟨k, rfl⟩ : ∃ m, k = m + 1 := ⟨k - 1, by omega⟩
    have := List.drop_eq_nil_iff.1 hd
    simp only [pack_Sum.l0]
    rw [if_neg (by omega), show (4294967295 : Int) = ((4294967295 : Nat) : Int) from rfl, xor_u32 (by omega) hc]; rfl
  | b :: t, i, k, c, hd, hk, hc => by
    simp only [List.length_cons] at hk
    obtain ⟨k, rfl⟩ : ∃ m, k = m + 1 := ⟨k - 1, by omega⟩
    have hlt := lt_of_drop hd
    have hb : 0 ≤ b ∧ b ≤ 255 := (hl.drop i) b (by rw [hd]; exact List.mem_cons_self)
    obtain ⟨n, rfl⟩ := Int.eq_ofNat_of_zero_le hb.1
    simp only [pack_Sum.l0]
    rw [if_pos (by omega), if_pos (by omega), if_pos (by omega), rd_cons hd, Int.emod_eq_of_lt (by omega) (by omega), xor_u32 hc (by omega)]
    obtain ⟨k', h1, h2⟩ := pack_Sum_l1 l i 8 k (c ^^^ n) (by omega) (by omega) (Nat.xor_lt_two_pow hc (by omega))
    rw [show ((8 - 8 : Nat) : Int) = 0 from rfl] at h2
    rw [h2, show wrap64 ((i : Int) + 1) = ((i + 1 : Nat) : Int) from by rw [w64 (by omega) (by omega)]; omega]
    rw [pack_Sum_l0 l hl hn t (i + 1) k' _ (drop_succ_of hd) (by omega) (crcBits_lt 8 (Nat.xor_lt_two_pow hc (by omega)))]
    rfl
theorem pack_Sum_is {l : List Int} {k : Nat} (hl : By l) (hn : l.length ≤ 140737488355328) (hk : 10 * l.length + 1 ≤ k) : pack_Sum.f k l = some (sumOf l : Int) :=
  pack_Sum_l0 l hl hn l 0 k 4294967295 rfl hk (by omega)

theorem fascinelaw01_awake_is {k : Nat} (hk : 91 ≤ k) : fascinelaw01_awake.f k = some true := by
  unfold fascinelaw01_awake.f
  rw [pack_Uvarint_is (by omega) (by omega) (by omega), Option.bind_some, show uv (300 : Int).toNat = [172, 2] from by rw [uv_ge (by decide), uv_lt (by decide)]; rfl, if_pos (by rw [strOf_list]; rfl), pack_Zig_minus, Option.bind_some, if_pos rfl]
  rw [pack_Sum_is (fun x hx => by simp at hx; omega) (by simp) (by simpa using hk), Option.bind_some, crc_awake]
  rfl

theorem turn_bit (b s : Nat) (hb : b < 256) (hs : s < 8) : ∃ y : Nat, Go.bits .xor .u8 (b : Int) (shl .u8 1 (s : Int)) = (y : Int) ∧ y < 256 ∧ y ≠ b := by
  have h : ∀ s : Fin 8, shl .u8 1 (s.1 : Int) = ((2 ^ s.1 : Nat) : Int) ∧ 2 ^ s.1 < 2 ^ 8 := by decide +kernel
  obtain ⟨h1, h2⟩ := h ⟨s, hs⟩
  simp only at h1 h2
  refine ⟨b ^^^ 2 ^ s, by rw [h1, xor_u8 hb h2], Nat.xor_lt_two_pow hb h2, fun h => ?_⟩
  have e : b ^^^ 2 ^ s = b ^^^ 0 := by rw [h, Nat.xor_zero]
  have := xor_left_inj e
  have := Nat.two_pow_pos s
  omega
theorem PackSums : fascinelaw01_PackSums.Pure := by
  intro l a s hm hl hw ha hs
  have hby := By.of_wf hw
  have ha := wf_u16 ha
  have hs := wf_u8 hs
  obtain ⟨K, hK⟩ : ∃ K, K = 10 * l.length + 200 := ⟨_, rfl⟩
  refine ⟨K + 1, ?_⟩
  unfold fascinelaw01_PackSums.f
  rw [fascinelaw01_awake_is (by omega), Option.bind_some, if_pos rfl]
  simp only [fascinelaw01_PackSums.j0]
  by_cases h0 : l.length = 0
  · rw [if_pos (by simp [h0]), fascinelaw01_awake_is (by omega)]; rfl
  · rw [if_neg (by simp [h0]), pack_Sum_is hby (by omega) (by omega), Option.bind_some, if_pos (by simp; omega)]
    simp only [Option.bind_some, List.nil_append]
    have hlen : 0 < l.length := by omega
    rw [w64 (by omega) (by omega), Int.tmod_eq_emod_of_nonneg (by omega), Int.tmod_eq_emod_of_nonneg (by omega)]
    obtain ⟨i, hi⟩ := Int.eq_ofNat_of_zero_le (Int.emod_nonneg a (show (l.length : Int) ≠ 0 by omega))
    have hil := Int.emod_lt_of_pos a (show (0 : Int) < (l.length : Int) by omega)
    rw [hi] at hil ⊢
    obtain ⟨n, hn⟩ := Int.eq_ofNat_of_zero_le (Int.emod_nonneg s (show (8 : Int) ≠ 0 by omega))
    have hnl := Int.emod_lt_of_pos s (show (0 : Int) < 8 by omega)
    rw [hn] at hnl ⊢
    have hi' : i < l.length := by omega
    rw [if_neg (by omega), if_pos (by omega), if_pos (by omega), if_pos (by omega)]
    have hx := hby l[i] (List.getElem_mem hi')
    obtain ⟨b, hb⟩ := Int.eq_ofNat_of_zero_le hx.1
    have hrd : rd l (i : Int) = (b : Int) := by
      unfold rd; rw [Int.toNat_natCast, List.getD_eq_getElem?_getD, List.getElem?_eq_getElem hi', ← hb]; rfl
    obtain ⟨y, hy, hy1, hy2⟩ := turn_bit b n (by omega) (by omega)
    rw [hrd, hy, Int.toNat_natCast]
    have hset : By (l.set i (y : Int)) := by
      intro z hz
      rcases List.mem_or_eq_of_mem_set hz with h | h
      · exact hby z h
      · omega
    rw [pack_Sum_is hset (by simp; omega) (by simp; omega), Option.bind_some]
    have hne := sumOf_set hby (i := i) (x := (b : Int)) (y := (y : Int)) (by rw [List.getElem?_eq_getElem hi', hb]) (by omega) (by omega)
    rw [if_neg (by omega)]
    simp

end Go.Proofs.Ytifbpjkgckkalaa.Pure
