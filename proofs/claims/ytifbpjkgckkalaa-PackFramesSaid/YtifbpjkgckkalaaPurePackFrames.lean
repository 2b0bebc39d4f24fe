/- On the printed functions of PackFrames: what each of them answers, in plain words. -/
import Derived.Test.YtifbpjkgckkalaaPPackFramesx
import Derived.Test.YtifbpjkgckkalaaMSum
namespace Go.Proofs.Ytifbpjkgckkalaa.Pure
open Go.RowKit Go.Proofs.Ytifbpjkgckkalaa.PPackFrames Go.Proofs.YtifbpjkgckkalaaW.PrintWords Go.Proofs.YtifbpjkgckkalaaW.PrintLast Go.Proofs.YtifbpjkgckkalaaW.PrintMore Go.Proofs.Ytifbpjkgckkalaa.M
set_option linter.unusedVariables false
set_option linter.unusedSimpArgs false

theorem pack_Uvarint_l (n : Nat) : ∀ (k : Nat) (acc : List Int), (uv n).length ≤ k → acc.length + (uv n).length ≤ 140737488355328 → pack_Uvarint.l0 k (n : Int) acc = some (acc ++ uv n) := by
  induction n using Nat.strongRecOn with
  | _ n ih =>
    intro k acc hk ha
    obtain ⟨k, rfl⟩ : ∃ m, k = m + 1 := ⟨k - 1, by have := uv_pos n; omega⟩
    by_cases h : n < 128
    · rw [uv_lt h] at ha ⊢
      simp only [List.length_cons, List.length_nil] at ha
      simp only [pack_Uvarint.l0]
      rw [if_neg (by omega), if_pos (by omega), Int.emod_eq_of_lt (by omega) (by omega)]
    · rw [uv_ge h] at hk ha ⊢
      simp only [List.length_cons] at hk ha
      simp only [pack_Uvarint.l0]
      rw [if_pos (by omega), if_pos (by omega), bits_or128 (by omega) (by omega), show ((n : Int) / 128) = ((n / 128 : Nat) : Int) from by omega, ih (n / 128) (by omega) k _ (by omega) (by simp; omega)]
      rw [List.append_assoc, List.cons_append, List.nil_append, show (if (n : Int) % 256 < 128 then (n : Int) % 256 + 128 else (n : Int) % 256) = ((n % 128 + 128 : Nat) : Int) from by split <;> omega]
theorem pack_Uvarint_is {n : Int} {k : Nat} (h0 : 0 ≤ n) (h1 : n < 18446744073709551616) (hk : 10 ≤ k) : pack_Uvarint.f k n = some (uv n.toNat) := by
  obtain ⟨n, rfl⟩ := Int.eq_ofNat_of_zero_le h0
  have := uv_len64 (n := n) (by omega)
  unfold pack_Uvarint.f
  rw [pack_Uvarint_l n k [] (by omega) (by simp; omega)]; simp

theorem fascineref01_Uvarint_l (n : Nat) : ∀ (k : Nat) (acc : List Int), n < 18446744073709551616 → (uv n).length ≤ k → acc.length + (uv n).length ≤ 140737488355328 → fascineref01_Uvarint.l0 k (n : Int) acc = some (acc ++ uv n) := by
  induction n using Nat.strongRecOn with
  | _ n ih =>
    intro k acc hn hk ha
    obtain ⟨k, rfl⟩ : ∃ m, k = m + 1 := ⟨k - 1, by have := uv_pos n; omega⟩
    by_cases h : n < 128
    · rw [uv_lt h] at ha ⊢
      simp only [List.length_cons, List.length_nil] at ha
      simp only [fascineref01_Uvarint.l0]
      rw [if_neg (by omega), if_pos (by omega), Int.emod_eq_of_lt (by omega) (by omega)]
    · rw [uv_ge h] at hk ha ⊢
      simp only [List.length_cons] at hk ha
      simp only [fascineref01_Uvarint.l0]
      rw [if_pos (by omega), if_pos (by omega), Int.tdiv_eq_ediv_of_nonneg (by omega), Int.tmod_eq_emod_of_nonneg (by omega), show ((n : Int) / 128) = ((n / 128 : Nat) : Int) from by omega, wu64 (by omega) (by omega), ih (n / 128) (by omega) k _ (by omega) (by omega) (by simp; omega)]
      rw [List.append_assoc, List.cons_append, List.nil_append, show ((n : Int) % 128 + 128) % 256 = ((n % 128 + 128 : Nat) : Int) from by omega]
theorem fascineref01_Uvarint_is {n : Int} {k : Nat} (h0 : 0 ≤ n) (h1 : n < 18446744073709551616) (hk : 10 ≤ k) : fascineref01_Uvarint.f k n = some (uv n.toNat) := by
  obtain ⟨n, rfl⟩ := Int.eq_ofNat_of_zero_le h0
  have := uv_len64 (n := n) (by omega)
  unfold fascineref01_Uvarint.f
  rw [fascineref01_Uvarint_l n k [] (by omega) (by omega) (by simp; omega)]; simp

theorem pack_ReadUvarint_step (x b : Int) (n i : Nat) (hb : 0 ≤ b ∧ b ≤ 255) (hn : n ≤ 9) (h9 : n = 9 → b ≤ 1) (hx0 : 0 ≤ x) (hx : x < ((2 ^ (7 * n) : Nat) : Int)) :
    Go.bits .or .u64 x (shl .u64 (IntKind.u64.wrap (Go.bits .and .u8 b 127)) ((7 * n : Nat) : Int)) = x + ((2 ^ (7 * n) : Nat) : Int) * (b % 128) ∧ (x + ((2 ^ (7 * n) : Nat) : Int) * (b % 128) < ((2 ^ (7 * n) : Nat) : Int) * 128) := by
  obtain ⟨y, rfl⟩ := Int.eq_ofNat_of_zero_le hx0
  obtain ⟨c, hc⟩ := Int.eq_ofNat_of_zero_le (show 0 ≤ b % 128 by omega)
  have hP : ∀ m : Fin 9, 2 ^ (7 * m.1) * 128 ≤ 9223372036854775808 := by decide
  have hP9 : 2 ^ (7 * 9) * 2 = 18446744073709551616 := by decide
  have hP9' : 2 ^ (7 * 9) = 9223372036854775808 := by decide
  have hy : y < 2 ^ (7 * n) := by omega
  have hm : 2 ^ (7 * n) * c ≤ 2 ^ (7 * n) * 127 := Nat.mul_le_mul_left _ (by omega)
  have hs : y + 2 ^ (7 * n) * c < 2 ^ 64 := by
    rcases Nat.lt_or_ge n 9 with h | h
    · have := hP ⟨n, h⟩; simp only at this; omega
    · have e : n = 9 := by omega
      subst e
      have h1 := h9 rfl
      have : 2 ^ (7 * 9) * c ≤ 2 ^ (7 * 9) * 1 := Nat.mul_le_mul_left _ (by omega)
      omega
  have e := or_u64 y c (7 * n) hy hs
  constructor
  · rw [bits_and127 hb.1 (by omega), hc, wu64 (by omega) (by omega)]
    unfold shl
    rw [show min (((7 * n : Nat) : Int)).toNat (IntKind.u64).bits = 7 * n from by rw [Int.toNat_natCast, show (IntKind.u64).bits = 64 from rfl]; omega]
    rw [show ((c : Int) * 2 ^ (7 * n)) = ((2 ^ (7 * n) * c : Nat) : Int) from by simp [Int.mul_comm], wu64 (by omega) (by omega), e]
    simp
  · rw [hc]
    have : y + 2 ^ (7 * n) * c < 2 ^ (7 * n) * 128 := by omega
    exact_mod_cast this

theorem pack_ReadUvarint_round (p : List Int) (a : Nat) (hp : By p) (hl : p.length ≤ 140737488355328) (m n k : Nat) (x : Int) (hmn : m + n = 9) (hk : 2 * m + 2 ≤ k) (hx0 : 0 ≤ x) (hx : x < ((2 ^ (7 * n) : Nat) : Int))
    (ih : 0 < m → ∀ (k : Nat) (x : Int), 2 * (m - 1) + 2 ≤ k → 0 ≤ x → x < ((2 ^ (7 * (n + 1)) : Nat) : Int) → pack_ReadUvarint.l0 k p (a : Int) x ((a + (n + 1) : Nat) : Int) = some (match ru (p.drop (a + (n + 1))) (n + 1) with | none => (0, 0, 3) | some (v, c) => (x + ((2 ^ (7 * (n + 1)) : Nat) : Int) * (v : Int), ((a + (n + 1) + c : Nat) : Int), 0))) :
    pack_ReadUvarint.l0 k p (a : Int) x ((a + n : Nat) : Int) = some (match ru (p.drop (a + n)) n with | none => (0, 0, 3) | some (v, c) => (x + ((2 ^ (7 * n) : Nat) : Int) * (v : Int), ((a + n + c : Nat) : Int), 0)) := by
  obtain ⟨k, rfl⟩ : ∃ j, k = j + 2 := ⟨k - 2, by omega⟩
  rcases hd : p.drop (a + n) with _ | ⟨b, t⟩
  · have hge : p.length ≤ a + n := List.drop_eq_nil_iff.1 hd
    simp only [pack_ReadUvarint.l0]
    rw [if_neg (by omega)]; simp only [ru]
  · have hlt := lt_of_drop hd
    have hr := rd_cons hd
    have hb : 0 ≤ b ∧ b ≤ 255 := (hp.drop (a + n)) b (by rw [hd]; exact List.mem_cons_self)
    have hs := drop_succ_of hd
    have hw : wrap64 (((a + n : Nat) : Int) - (a : Int)) = (n : Int) := by rw [w64 (by omega) (by omega)]; omega
    simp only [pack_ReadUvarint.l0]
    rw [if_pos (by omega), if_pos (by omega), hw, hr]
    have hall : ∀ (T : Bool → Option (Int × Int × Int)), (if (n : Int) = 9 then (if b > 1 then T true else (if b = 0 then T (decide ((n : Int) > 0)) else T false)) else (if b = 0 then T (decide ((n : Int) > 0)) else T false)) = T (decide (n = 9 ∧ b > 1 ∨ b = 0 ∧ n > 0)) := by
      intro T
      by_cases h1 : n = 9
      · subst h1
        rw [if_pos (by omega)]
        by_cases h2 : b > 1
        · rw [if_pos h2]; congr 1; first | (rw [decide_eq_decide]; omega) | (symm; rw [decide_eq_true_iff]; omega) | (symm; rw [decide_eq_false_iff_not]; omega)
        · rw [if_neg h2]
          by_cases h3 : b = 0
          · rw [if_pos h3]; congr 1; first | (rw [decide_eq_decide]; omega) | (symm; rw [decide_eq_true_iff]; omega) | (symm; rw [decide_eq_false_iff_not]; omega)
          · rw [if_neg h3]; congr 1; first | (rw [decide_eq_decide]; omega) | (symm; rw [decide_eq_true_iff]; omega) | (symm; rw [decide_eq_false_iff_not]; omega)
      · rw [if_neg (by omega)]
        by_cases h3 : b = 0
        · rw [if_pos h3]; congr 1; first | (rw [decide_eq_decide]; omega) | (symm; rw [decide_eq_true_iff]; omega) | (symm; rw [decide_eq_false_iff_not]; omega)
        · rw [if_neg h3]; congr 1; first | (rw [decide_eq_decide]; omega) | (symm; rw [decide_eq_true_iff]; omega) | (symm; rw [decide_eq_false_iff_not]; omega)
    have hall := hall (fun z => pack_ReadUvarint.j2 (k + 1) p (a : Int) x ((a + n : Nat) : Int) (n : Int) b z)
    rw [hall]
    simp only [pack_ReadUvarint.j2, ru, decide_eq_true_eq]
    by_cases hc : n = 9 ∧ b > 1 ∨ b = 0 ∧ n > 0
    · rw [if_pos hc, if_pos hc]
    · rw [if_neg hc, if_neg hc]
      obtain ⟨e1, e2⟩ := pack_ReadUvarint_step x b n 0 hb (by omega) (by omega) hx0 hx
      rw [show wrap64 (7 * (n : Int)) = ((7 * n : Nat) : Int) from by rw [w64 (by omega) (by omega)]; omega, if_pos (by omega), e1]
      rw [show wrap64 (((a + n : Nat) : Int) + 1) = ((a + (n + 1) : Nat) : Int) from by rw [w64 (by omega) (by omega)]; omega]
      by_cases h1 : b < 128
      · rw [if_pos h1, if_pos h1]
        simp only [Option.some.injEq, Prod.mk.injEq, and_true]
        refine ⟨?_, by omega⟩
        rw [show b % 128 = (b.toNat : Int) from by omega]
      · rw [if_neg h1, if_neg h1]
        have hP : (2 ^ (7 * (n + 1)) : Nat) = 2 ^ (7 * n) * 128 := by rw [show 7 * (n + 1) = 7 * n + 7 from by omega, Nat.pow_add]
        have h0 : 0 ≤ ((2 ^ (7 * n) : Nat) : Int) * (b % 128) := Int.mul_nonneg (by omega) (by omega)
        rw [ih (by omega) k _ (by omega) (by omega) (by rw [hP]; simpa using e2), show a + (n + 1) = a + n + 1 from by omega, hs]
        cases hq : ru t (n + 1) with
        | none => rfl
        | some q =>
          obtain ⟨v, c⟩ := q
          simp only [Option.some.injEq, Prod.mk.injEq, and_true]
          refine ⟨?_, by omega⟩
          rw [hP, show b % 128 = (((b - 128).toNat : Nat) : Int) from by omega]
          have hring : ∀ P y w : Int, x + P * y + P * 128 * w = x + P * (y + 128 * w) := fun P y w => by rw [Int.mul_add, Int.mul_assoc, Int.add_assoc]
          push_cast
          exact hring _ _ _

theorem pack_ReadUvarint_l (p : List Int) (a : Nat) (hp : By p) (hl : p.length ≤ 140737488355328) (m : Nat) : ∀ (n k : Nat) (x : Int), m + n = 9 → 2 * m + 2 ≤ k → 0 ≤ x → x < ((2 ^ (7 * n) : Nat) : Int) →
    pack_ReadUvarint.l0 k p (a : Int) x ((a + n : Nat) : Int) = some (match ru (p.drop (a + n)) n with | none => (0, 0, 3) | some (v, c) => (x + ((2 ^ (7 * n) : Nat) : Int) * (v : Int), ((a + n + c : Nat) : Int), 0)) := by
  induction m with
  | zero =>
    intro n k x hmn hk hx0 hx
    exact pack_ReadUvarint_round p a hp hl 0 n k x hmn hk hx0 hx (fun h => by omega)
  | succ m ih =>
    intro n k x hmn hk hx0 hx
    exact pack_ReadUvarint_round p a hp hl (m + 1) n k x hmn hk hx0 hx (fun _ k x hk' hx0 hx => ih (n + 1) k x (by omega) (by omega) hx0 hx)

theorem pack_ReadUvarint_is {p : List Int} {i : Int} {k : Nat} (hp : By p) (hl : p.length ≤ 140737488355328) (hk : 21 ≤ k) : pack_ReadUvarint.f k p i = some (readU p i) := by
  obtain ⟨k, rfl⟩ : ∃ j, k = j + 1 := ⟨k - 1, by omega⟩
  unfold pack_ReadUvarint.f readU
  by_cases h0 : i < 0
  · rw [if_pos h0, if_pos (Or.inl h0)]; simp only [pack_ReadUvarint.j0, if_true]
  · rw [if_neg h0]
    by_cases h1 : i > (p.length : Int)
    · rw [if_pos (Or.inr h1)]; simp only [pack_ReadUvarint.j0, decide_eq_true h1, if_true]
    · obtain ⟨a, rfl⟩ := Int.eq_ofNat_of_zero_le (show 0 ≤ i by omega)
      rw [if_neg (by omega)]
      simp only [pack_ReadUvarint.j0, decide_eq_true_eq]
      rw [if_neg h1]
      have e := pack_ReadUvarint_l p a hp hl 9 0 k 0 (by omega) (by omega) (by omega) (by simp)
      simp only [Nat.add_zero] at e
      rw [e, Int.toNat_natCast]
      cases ru (p.drop a) 0 with
      | none => rfl
      | some q => obtain ⟨v, c⟩ := q; simp

/-- the first loop: up to the first small byte, the end, or the tenth -/
theorem fascineref01_ReadUvarint_l0 (p : List Int) (a : Nat) (ha : a ≤ p.length) (hl : p.length ≤ 140737488355328) (m : Nat) : ∀ (n k : Nat), m + n = 10 → a + n ≤ p.length → m + 1 ≤ k →
    ∃ j k', n ≤ j ∧ j ≤ 10 ∧ k ≤ k' + m + 1 ∧ a + j ≤ p.length ∧ (∀ i, n ≤ i → i < j → ∃ b, p[a + i]? = some b ∧ 128 ≤ b) ∧ (j = 10 ∨ p.length ≤ a + j ∨ ∃ b, p[a + j]? = some b ∧ b < 128) ∧ fascineref01_ReadUvarint.l0 k p (a : Int) (n : Int) = fascineref01_ReadUvarint.j2 k' p (a : Int) (j : Int) := by
  induction m with
  | zero =>
    intro n k hmn hlen hk
    obtain ⟨k, rfl⟩ : ∃ j, k = j + 1 := ⟨k - 1, by omega⟩
    refine ⟨n, k, by omega, by omega, by omega, ?_, fun i h1 h2 => by omega, Or.inl (by omega), ?_⟩
    · omega
    · simp only [fascineref01_ReadUvarint.l0]; rw [if_neg (by omega)]
  | succ m ih =>
    intro n k hmn hlen hk
    obtain ⟨k, rfl⟩ : ∃ j, k = j + 1 := ⟨k - 1, by omega⟩
    simp only [fascineref01_ReadUvarint.l0]
    rw [if_pos (by omega), w64 (by omega) (by omega)]
    by_cases hlt : a + n < p.length
    · obtain ⟨b, t, hd⟩ := drop_cons_of hlt
      have hg : p[a + n]? = some b := by rw [← List.head?_drop, hd]; rfl
      have hr := rd_cons hd
      rw [if_pos (by omega), show wrap64 ((a : Int) + (n : Int)) = ((a + n : Nat) : Int) from by rw [w64 (by omega) (by omega)]; omega, if_pos (by omega), if_pos (by omega), hr]
      by_cases hb : b ≥ 128
      · rw [if_pos hb, show wrap64 ((n : Int) + 1) = ((n + 1 : Nat) : Int) from by rw [w64 (by omega) (by omega)]; omega]
        obtain ⟨j, k', h1, h2, h3, h4, h5, h6, h7⟩ := ih (n + 1) k (by omega) (by omega) (by omega)
        refine ⟨j, k', by omega, h2, by omega, by omega, ?_, h6, h7⟩
        intro i hi hj
        rcases Nat.lt_or_ge n i with h | h
        · exact h5 i (by omega) hj
        · have : i = n := by omega
          subst this; exact ⟨b, hg, by omega⟩
      · rw [if_neg hb]
        exact ⟨n, k, by omega, by omega, by omega, by omega, fun i h1 h2 => by omega, Or.inr (Or.inr ⟨b, hg, by omega⟩), rfl⟩
    · rw [if_neg (by omega)]
      refine ⟨n, k, by omega, by omega, by omega, ?_, fun i h1 h2 => by omega, Or.inr (Or.inl (by omega)), rfl⟩
      omega
/-- the second loop: the low bits, from the last to the first -/
theorem fascineref01_ReadUvarint_l1 (p : List Int) (a n : Nat) (hp : By p) (hn : n < 10) (hl : p.length ≤ 140737488355328) (han : a + n < p.length) (j : Nat) : ∀ (k : Nat), j ≤ n + 1 → j + 1 ≤ k →
    ∃ k', k ≤ k' + j + 1 ∧ fascineref01_ReadUvarint.l1 k p (a : Int) (n : Int) (fo (((p.drop a).take (n + 1)).drop j) % 18446744073709551616) ((j : Int) - 1) =
      (fascineref01_Uvarint.f k' (fo ((p.drop a).take (n + 1)) % 18446744073709551616)).bind fun t => if (strOfNums t).toList = (strOfNums ((p.drop a).take (n + 1))).toList then some (fo ((p.drop a).take (n + 1)) % 18446744073709551616, ((a + n + 1 : Nat) : Int), 0) else some (0, 0, 3) := by
  induction j with
  | zero =>
    intro k hj hk
    obtain ⟨k, rfl⟩ : ∃ j, k = j + 1 := ⟨k - 1, by omega⟩
    refine ⟨k, by omega, ?_⟩
    simp only [fascineref01_ReadUvarint.l1]
    rw [if_neg (by omega), show wrap64 (wrap64 ((a : Int) + (n : Int)) + 1) = ((a + n + 1 : Nat) : Int) from by rw [w64 (x := (a : Int) + (n : Int)) (by omega) (by omega), w64 (by omega) (by omega)]; omega]
    simp only [if_pos (show (0 : Int) ≤ (a : Int) by omega), if_pos (show (a : Int) ≤ ((a + n + 1 : Nat) : Int) by omega), if_pos (show ((a + n + 1 : Nat) : Int) ≤ (p.length : Int) by omega), List.drop_zero, Int.toNat_natCast, show (p.take (a + n + 1)).drop a = (p.drop a).take (n + 1) from by rw [List.drop_take]; congr 1; omega]
  | succ j ih =>
    intro k hj hk
    obtain ⟨k, rfl⟩ : ∃ j, k = j + 1 := ⟨k - 1, by omega⟩
    obtain ⟨k', h1, h2⟩ := ih k (by omega) (by omega)
    refine ⟨k', by omega, ?_⟩
    rw [← h2]
    obtain ⟨b, t, hd⟩ := drop_cons_of (l := p) (i := a + j) (by omega)
    have hb : 0 ≤ b ∧ b ≤ 255 := (hp.drop (a + j)) b (by rw [hd]; exact List.mem_cons_self)
    have hr := rd_cons hd
    have hdj : ((p.drop a).take (n + 1)).drop j = b :: ((p.drop a).take (n + 1)).drop (j + 1) := by
      have e1 : ((p.drop a).take (n + 1))[j]? = some b := by
        rw [List.getElem?_take, if_pos (by omega), List.getElem?_drop, ← List.head?_drop, hd]; rfl
      have hlt : j < ((p.drop a).take (n + 1)).length := by simp; omega
      rw [List.drop_eq_getElem_cons hlt]
      congr 1
      rw [List.getElem?_eq_getElem hlt] at e1
      exact Option.some.inj e1
    simp only [fascineref01_ReadUvarint.l1]
    rw [if_pos (by omega), show wrap64 ((a : Int) + (((j + 1 : Nat) : Int) - 1)) = ((a + j : Nat) : Int) from by rw [w64 (by omega) (by omega)]; omega, if_pos (by omega), if_pos (by omega), hr]
    rw [show wrap64 ((((j + 1 : Nat) : Int) - 1) - 1) = (j : Int) - 1 from by rw [w64 (by omega) (by omega)]; omega]
    congr 1
    rw [hdj, fo_cons, Int.tmod_eq_emod_of_nonneg (by omega), wu64_def, wu64_def, wu64_def]
    omega
theorem fascineref01_ReadUvarint_is {p : List Int} {i : Int} {k : Nat} (hp : By p) (hl : p.length ≤ 140737488355328) (hk : 40 ≤ k) : fascineref01_ReadUvarint.f k p i = some (readU p i) := by
  obtain ⟨k, rfl⟩ : ∃ j, k = j + 1 := ⟨k - 1, by omega⟩
  unfold fascineref01_ReadUvarint.f readU
  by_cases h0 : i < 0
  · rw [if_pos h0, if_pos (Or.inl h0)]; simp only [fascineref01_ReadUvarint.j0, if_true]
  · rw [if_neg h0]
    by_cases h1 : i > (p.length : Int)
    · rw [if_pos (Or.inr h1)]; simp only [fascineref01_ReadUvarint.j0, decide_eq_true h1, if_true]
    · obtain ⟨a, rfl⟩ := Int.eq_ofNat_of_zero_le (show 0 ≤ i by omega)
      rw [if_neg (by omega)]
      simp only [fascineref01_ReadUvarint.j0, decide_eq_true_eq]
      rw [if_neg h1, Int.toNat_natCast]
      obtain ⟨n, k1, g1, g2, g3, g4, g5, g6, g7⟩ := fascineref01_ReadUvarint_l0 p a (by omega) hl 10 0 k (by omega) (by omega) (by omega)
      rw [show ((0 : Nat) : Int) = 0 from rfl] at g7
      rw [g7]
      obtain ⟨k1, rfl⟩ : ∃ j, k1 = j + 2 := ⟨k1 - 2, by omega⟩
      have hj : fascineref01_ReadUvarint.j2 (k1 + 2) p (a : Int) (n : Int) = fascineref01_ReadUvarint.j3 (k1 + 1) p (a : Int) (n : Int) (decide (10 ≤ n ∨ p.length ≤ a + n)) := by
        simp only [fascineref01_ReadUvarint.j2]
        by_cases h : n ≥ 10
        · rw [if_pos (by omega)]; congr 1; simp; omega
        · rw [if_neg (by omega), w64 (by omega) (by omega)]; congr 1; rw [Bool.eq_iff_iff]; simp; omega
      rw [hj]
      simp only [fascineref01_ReadUvarint.j3, decide_eq_true_eq]
      by_cases hc : 10 ≤ n ∨ p.length ≤ a + n
      · rw [if_pos hc]
        cases hq : ru (p.drop a) 0 with
        | none => rfl
        | some q =>
          exfalso
          obtain ⟨v, c⟩ := q
          obtain ⟨⟨r, hr⟩, hcc, hv, _⟩ := ru_some _ 0 v c (hp.drop a) (by omega) hq
          rw [lim_zero] at hv
          have hlen := uv_len64 hv
          have hpos := uv_pos v
          have el := congrArg List.length hr
          simp at el
          obtain ⟨b, hb, hb1⟩ := uv_last v ((uv v).length - 1) (by omega)
          obtain ⟨b', hb', hb2⟩ := g5 ((uv v).length - 1) (by omega) (by omega)
          have : (p.drop a)[(uv v).length - 1]? = some b := by rw [hr, List.getElem?_append_left (by omega)]; exact hb
          rw [List.getElem?_drop, hb'] at this
          have := Option.some.inj this
          omega
      · rw [if_neg hc]
        obtain ⟨b, hb, hb1⟩ : ∃ b, p[a + n]? = some b ∧ b < 128 := by
          rcases g6 with h | h | h
          · omega
          · omega
          · exact h
        obtain ⟨k2, e1, e2⟩ := fascineref01_ReadUvarint_l1 p a n hp (by omega) hl (by omega) (n + 1) k1 (by omega) (by omega)
        have hz : fo (((p.drop a).take (n + 1)).drop (n + 1)) % 18446744073709551616 = 0 := by
          rw [List.drop_eq_nil_of_le (by rw [List.length_take]; omega)]; rfl
        rw [hz, show ((n + 1 : Nat) : Int) - 1 = (n : Int) from by omega] at e2
        rw [e2, fascineref01_Uvarint_is (by omega) (by omega) (by omega), Option.bind_some]
        have hby : By ((p.drop a).take (n + 1)) := (hp.drop a).take _
        cases hq : ru (p.drop a) 0 with
        | none =>
          rw [if_neg]
          rw [strOf_inj (uv_by _) hby]
          intro h
          have hr : p.drop a = uv (fo ((p.drop a).take (n + 1)) % 18446744073709551616).toNat ++ (p.drop a).drop (n + 1) := by rw [h, List.take_append_drop]
          have := ru_uv ((p.drop a).drop (n + 1)) (fo ((p.drop a).take (n + 1)) % 18446744073709551616).toNat 0 (by omega) (by rw [lim_zero]; omega) (Or.inl rfl)
          rw [← hr, hq] at this
          cases this
        | some q =>
          obtain ⟨v, c⟩ := q
          obtain ⟨⟨r, hr⟩, hcc, hv, _⟩ := ru_some _ 0 v c (hp.drop a) (by omega) hq
          rw [lim_zero] at hv
          have hpos := uv_pos v
          have hn : n + 1 = (uv v).length := by
            obtain ⟨b1, hb1', hb12⟩ := uv_last v ((uv v).length - 1) (by omega)
            have t1 : (p.drop a)[(uv v).length - 1]? = some b1 := by rw [hr, List.getElem?_append_left (by omega)]; exact hb1'
            rw [List.getElem?_drop] at t1
            rcases Nat.lt_trichotomy (n + 1) (uv v).length with h | h | h
            · obtain ⟨b2, hb2, hb22⟩ := uv_high v n h
              have t2 : (p.drop a)[n]? = some b2 := by rw [hr, List.getElem?_append_left (by omega)]; exact hb2
              rw [List.getElem?_drop, hb] at t2
              have := Option.some.inj t2; omega
            · exact h
            · obtain ⟨b3, hb3, hb32⟩ := g5 ((uv v).length - 1) (by omega) (by omega)
              rw [hb3] at t1
              have := Option.some.inj t1; omega
          have ht : (p.drop a).take (n + 1) = uv v := by rw [hn, hr]; simp
          rw [ht, fo_uv, show ((v : Int) % 18446744073709551616) = (v : Int) from by omega, Int.toNat_natCast, if_pos rfl]
          simp only [Option.some.injEq, Prod.mk.injEq, and_true, true_and]
          omega

theorem pack_Zig_minus : pack_Zig.f (-1) = some 1 := by
  unfold pack_Zig.f
  decide +kernel

theorem pack_Sum_l1 (l : List Int) (i : Nat) (j : Nat) : ∀ (k c : Nat), j ≤ 8 → j + 1 ≤ k → c < 2 ^ 32 → ∃ k', k ≤ k' + j + 1 ∧ pack_Sum.l1 k (c : Int) l (l.length : Int) (i : Int) ((8 - j : Nat) : Int) = pack_Sum.l0 k' ((crcBits j c : Nat) : Int) l (l.length : Int) (wrap64 ((i : Int) + 1)) := by
  induction j with
  | zero =>
    intro k c hj hk hc
    obtain ⟨k, rfl⟩ : ∃ m, k = m + 1 := ⟨k - 1, by omega⟩
    refine ⟨k, by omega, ?_⟩
    simp only [pack_Sum.l1]
    rw [if_neg (by omega)]; rfl
  | succ j ih =>
    intro k c hj hk hc
    obtain ⟨k, rfl⟩ : ∃ m, k = m + 1 := ⟨k - 1, by omega⟩
    obtain ⟨k', h1, h2⟩ := ih k (crcStep c) (by omega) (by omega) (crcStep_lt hc)
    refine ⟨k', by omega, ?_⟩
    show _ = pack_Sum.l0 k' ((crcBits j (crcStep c) : Nat) : Int) l (l.length : Int) (wrap64 ((i : Int) + 1))
    rw [← h2]
    simp only [pack_Sum.l1]
    rw [if_pos (by omega), and1_u32 (by omega) (by omega), show wrap64 (((8 - (j + 1) : Nat) : Int) + 1) = ((8 - j : Nat) : Int) from by rw [w64 (by omega) (by omega)]; omega]
    unfold crcStep
    by_cases h : c % 2 = 1
    · rw [if_pos (by omega), if_pos h, show ((c : Int) / 2) = ((c / 2 : Nat) : Int) from by omega]
      rw [show (3988292384 : Int) = ((3988292384 : Nat) : Int) from rfl, xor_u32 (by omega) (by omega)]
    · rw [if_neg (by omega), if_neg h, show ((c : Int) / 2) = ((c / 2 : Nat) : Int) from by omega]
theorem pack_Sum_l0 (l : List Int) (hl : By l) (hn : l.length ≤ 140737488355328) : ∀ (t : List Int) (i k c : Nat), l.drop i = t → 10 * t.length + 1 ≤ k → c < 2 ^ 32 → pack_Sum.l0 k (c : Int) l (l.length : Int) (i : Int) = some ((4294967295 ^^^ crc t c : Nat) : Int)
  | [], i, k, c, hd, hk, hc => by
    obtain ⟨k, rfl⟩ : ∃ m, k = m + 1 := ⟨k - 1, by omega⟩
    have := List.drop_eq_nil_iff.1 hd
    simp only [pack_Sum.l0]
    rw [if_neg (by omega), show (4294967295 : Int) = ((4294967295 : Nat) : Int) from rfl, xor_u32 (by omega) hc]; rfl
  | b :: t, i, k, c, hd, hk, hc => by
    simp only [List.length_cons] at hk
    obtain ⟨k, rfl⟩ : ∃ m, k = m + 1 := ⟨k - 1, by omega⟩
    have hlt := lt_of_drop hd
    have hb : 0 ≤ b ∧ b ≤ 255 := (hl.drop i) b (by rw [hd]; exact List.mem_cons_self)
    obtain ⟨n, rfl⟩ := Int.eq_ofNat_of_zero_le hb.1
    simp only [pack_Sum.l0]
    rw [if_pos (by omega), if_pos (by omega), if_pos (by omega), rd_cons hd, Int.emod_eq_of_lt (by omega) (by omega), xor_u32 hc (by omega)]
    obtain ⟨k', h1, h2⟩ := pack_Sum_l1 l i 8 k (c ^^^ n) (by omega) (by omega) (Nat.xor_lt_two_pow hc (by omega))
    rw [show ((8 - 8 : Nat) : Int) = 0 from rfl] at h2
    rw [h2, show wrap64 ((i : Int) + 1) = ((i + 1 : Nat) : Int) from by rw [w64 (by omega) (by omega)]; omega]
    rw [pack_Sum_l0 l hl hn t (i + 1) k' _ (drop_succ_of hd) (by omega) (crcBits_lt 8 (Nat.xor_lt_two_pow hc (by omega)))]
    rfl
theorem pack_Sum_is {l : List Int} {k : Nat} (hl : By l) (hn : l.length ≤ 140737488355328) (hk : 10 * l.length + 1 ≤ k) : pack_Sum.f k l = some (sumOf l : Int) :=
  pack_Sum_l0 l hl hn l 0 k 4294967295 rfl hk (by omega)

def refStep (c d : Nat) : Nat := if (c ^^^ d) % 2 = 1 then (c / 2) ^^^ 3988292384 else c / 2
def refBits : Nat → Nat → Nat → Nat
  | 0, c, _ => c
  | n + 1, c, d => refBits n (refStep c d) (d / 2)
theorem refStep_lt {c d : Nat} (h : c < 2 ^ 32) : refStep c d < 2 ^ 32 := by
  unfold refStep
  split
  · exact Nat.xor_lt_two_pow (by omega) (by omega)
  · omega
theorem refStep_is (c d : Nat) : refStep c d ^^^ (d / 2) = crcStep (c ^^^ d) := by
  have hd : (c ^^^ d) / 2 = c / 2 ^^^ d / 2 := Nat.xor_div_two
  unfold refStep crcStep
  by_cases h : (c ^^^ d) % 2 = 1
  · rw [if_pos h, if_pos h, hd, Nat.xor_assoc, Nat.xor_assoc]; congr 1; exact Nat.xor_comm _ _
  · rw [if_neg h, if_neg h, hd]
theorem refBits_is : ∀ (n c d : Nat), refBits n c d ^^^ (d / 2 ^ n) = crcBits n (c ^^^ d)
  | 0, c, d => by simp [refBits, crcBits]
  | n + 1, c, d => by
    have := refBits_is n (refStep c d) (d / 2)
    rw [refStep_is] at this
    show refBits n (refStep c d) (d / 2) ^^^ _ = crcBits n (crcStep (c ^^^ d))
    rw [← this, Nat.div_div_eq_div_mul, Nat.pow_succ, Nat.mul_comm 2]
theorem refBits_byte {c d : Nat} (h : d < 256) : refBits 8 c d = crcByte c d := by
  have := refBits_is 8 c d
  rw [show d / 2 ^ 8 = 0 from Nat.div_eq_of_lt h, Nat.xor_zero] at this
  exact this
theorem not_u32 {c : Nat} (h : c < 2 ^ 32) : 4294967295 - c = 4294967295 ^^^ c := by
  apply Nat.eq_of_testBit_eq
  intro i
  have := Nat.testBit_two_pow_sub_succ h i
  rw [show 4294967295 - c = 2 ^ 32 - (c + 1) from by omega, this, Nat.testBit_xor, show (4294967295 : Nat) = 2 ^ 32 - 1 from rfl, Nat.testBit_two_pow_sub_one]
  by_cases hi : i < 32
  · simp [hi]
  · have : c.testBit i = false := Nat.testBit_lt_two_pow (Nat.lt_of_lt_of_le h (Nat.pow_le_pow_right (by decide) (by omega)))
    simp [hi, this]
theorem fascineref01_Sum_l1 (l : List Int) (i b : Nat) (hi : i < l.length) (hr : rd l (i : Int) = (b : Int)) (hb : b < 256) (j : Nat) : ∀ (k c : Nat), j ≤ 8 → j + 1 ≤ k → c < 2 ^ 32 → ∃ k', k ≤ k' + j + 1 ∧ fascineref01_Sum.l1 k l (c : Int) (i : Int) ((8 - j : Nat) : Int) = fascineref01_Sum.l0 k' l ((refBits j c (b / 2 ^ (8 - j)) : Nat) : Int) (wrap64 ((i : Int) + 1)) := by
  induction j with
  | zero =>
    intro k c hj hk hc
    obtain ⟨k, rfl⟩ : ∃ m, k = m + 1 := ⟨k - 1, by omega⟩
    refine ⟨k, by omega, ?_⟩
    simp only [fascineref01_Sum.l1]
    rw [if_neg (by omega)]; rfl
  | succ j ih =>
    intro k c hj hk hc
    obtain ⟨k, rfl⟩ : ∃ m, k = m + 1 := ⟨k - 1, by omega⟩
    obtain ⟨d, hd⟩ : ∃ d, d = b / 2 ^ (8 - (j + 1)) := ⟨_, rfl⟩
    have hdb : d < 256 := by rw [hd]; exact Nat.lt_of_le_of_lt (Nat.div_le_self _ _) hb
    have hd2 : b / 2 ^ (8 - j) = d / 2 := by
      rw [hd, Nat.div_div_eq_div_mul, ← Nat.pow_succ]; congr 2; omega
    obtain ⟨k', h1, h2⟩ := ih k (refStep c d) (by omega) (by omega) (refStep_lt hc)
    refine ⟨k', by omega, ?_⟩
    rw [← hd]
    show _ = fascineref01_Sum.l0 k' l ((refBits j (refStep c d) (d / 2) : Nat) : Int) (wrap64 ((i : Int) + 1))
    rw [← hd2, ← h2]
    have hs : shr .u8 (b : Int) ((8 - (j + 1) : Nat) : Int) = (d : Int) := by
      unfold shr
      rw [Int.toNat_natCast, Nat.min_eq_left (show 8 - (j + 1) ≤ IntKind.bits .u8 from by show _ ≤ 8; omega), hd]
      push_cast
      rfl
    simp only [fascineref01_Sum.l1]
    rw [if_pos (by omega), if_pos (by omega), if_pos (by omega), if_pos (by omega), hr, hs, Int.emod_eq_of_lt (by omega) (by omega), and1_u32 (by omega) (by omega), and1_u32 (by omega) (by omega), show ((c : Int) % 2) = ((c % 2 : Nat) : Int) from by omega, show ((d : Int) % 2) = ((d % 2 : Nat) : Int) from by omega, xor_u32 (by omega) (by omega), show wrap64 (((8 - (j + 1) : Nat) : Int) + 1) = ((8 - j : Nat) : Int) from by rw [w64 (by omega) (by omega)]; omega]
    have hx : c % 2 ^^^ d % 2 = (c ^^^ d) % 2 := (Nat.xor_mod_two_pow (n := 1)).symm
    rw [hx]
    unfold refStep
    by_cases h : (c ^^^ d) % 2 = 1
    · rw [if_pos (by omega), if_pos h, show ((c : Int) / 2) = ((c / 2 : Nat) : Int) from by omega, show (3988292384 : Int) = ((3988292384 : Nat) : Int) from rfl, xor_u32 (by omega) (by omega)]
    · rw [if_neg (by omega), if_neg h, show ((c : Int) / 2) = ((c / 2 : Nat) : Int) from by omega]
theorem fascineref01_Sum_l0 (l : List Int) (hl : By l) (hn : l.length ≤ 140737488355328) : ∀ (t : List Int) (i k c : Nat), l.drop i = t → 10 * t.length + 1 ≤ k → c < 2 ^ 32 → fascineref01_Sum.l0 k l (c : Int) (i : Int) = some ((4294967295 ^^^ crc t c : Nat) : Int)
  | [], i, k, c, hd, hk, hc => by
    obtain ⟨k, rfl⟩ : ∃ m, k = m + 1 := ⟨k - 1, by omega⟩
    have := List.drop_eq_nil_iff.1 hd
    simp only [fascineref01_Sum.l0]
    rw [if_neg (by omega), Int.emod_eq_of_lt (by omega) (by omega)]
    congr 1
    show _ = ((4294967295 ^^^ c : Nat) : Int)
    rw [← not_u32 hc]
    omega
  | b :: t, i, k, c, hd, hk, hc => by
    simp only [List.length_cons] at hk
    obtain ⟨k, rfl⟩ : ∃ m, k = m + 1 := ⟨k - 1, by omega⟩
    have hlt := lt_of_drop hd
    have hb : 0 ≤ b ∧ b ≤ 255 := (hl.drop i) b (by rw [hd]; exact List.mem_cons_self)
    obtain ⟨n, rfl⟩ := Int.eq_ofNat_of_zero_le hb.1
    simp only [fascineref01_Sum.l0]
    rw [if_pos (by omega)]
    obtain ⟨k', h1, h2⟩ := fascineref01_Sum_l1 l i n hlt (rd_cons hd) (by omega) 8 k c (by omega) (by omega) hc
    rw [show ((8 - 8 : Nat) : Int) = 0 from rfl, show n / 2 ^ (8 - 8) = n from Nat.div_one n, refBits_byte (by omega)] at h2
    rw [h2, show wrap64 ((i : Int) + 1) = ((i + 1 : Nat) : Int) from by rw [w64 (by omega) (by omega)]; omega]
    rw [fascineref01_Sum_l0 l hl hn t (i + 1) k' _ (drop_succ_of hd) (by omega) (crcByte_lt hc (by omega))]
    rfl
theorem fascineref01_Sum_is {l : List Int} {k : Nat} (hl : By l) (hn : l.length ≤ 140737488355328) (hk : 10 * l.length + 1 ≤ k) : fascineref01_Sum.f k l = some (sumOf l : Int) :=
  fascineref01_Sum_l0 l hl hn l 0 k 4294967295 rfl hk (by omega)

theorem fascinelaw01_awake_is {k : Nat} (hk : 91 ≤ k) : fascinelaw01_awake.f k = some true := by
  unfold fascinelaw01_awake.f
  rw [pack_Uvarint_is (by omega) (by omega) (by omega), Option.bind_some, show uv (300 : Int).toNat = [172, 2] from by rw [uv_ge (by decide), uv_lt (by decide)]; rfl, if_pos (by rw [strOf_list]; rfl), pack_Zig_minus, Option.bind_some, if_pos rfl]
  rw [pack_Sum_is (fun x hx => by simp at hx; omega) (by simp) (by simpa using hk), Option.bind_some, crc_awake]
  rfl

def fourL (v : Nat) : List Int := [((v / 16777216 % 256 : Nat) : Int), ((v / 65536 % 256 : Nat) : Int), ((v / 256 % 256 : Nat) : Int), ((v % 256 : Nat) : Int)]
theorem fourL_by (v : Nat) : By (fourL v) := by
  intro x hx
  simp only [fourL, List.mem_cons, List.not_mem_nil, or_false] at hx
  omega
theorem fourL_inj {a b : Nat} (ha : a < 2 ^ 32) (hb : b < 2 ^ 32) (h : fourL a = fourL b) : a = b := by
  simp only [fourL, List.cons.injEq, and_true] at h
  omega
theorem pack_four_is (v : Nat) : pack_four.f (v : Int) = some (fourL v) := by
  unfold pack_four.f fourL
  congr 1
/-- a payload in its frame -/
def frameL (p : List Int) : List Int := 241 :: uv p.length ++ fourL (sumOf p) ++ p ++ [31]
theorem frameL_len (p : List Int) : (frameL p).length = 1 + (uv p.length).length + 4 + p.length + 1 := by
  simp [frameL, fourL]; omega
theorem pack_Frame_is {p : List Int} {k : Nat} (hp : By p) (hl : p.length ≤ 140737488351232) (hk : 655400 ≤ k) : pack_Frame.f k p = some (if p.length > 65535 then ([], 2) else (frameL p, 0)) := by
  unfold pack_Frame.f
  by_cases h : p.length > 65535
  · rw [if_pos (by omega), if_pos h]
  · have hu := uv_len64 (n := p.length) (by omega)
    rw [if_neg (by omega), if_neg h, Option.bind_some, wu64 (by omega) (by omega), pack_Uvarint_is (by omega) (by omega) (by omega), Option.bind_some, Int.toNat_natCast, if_pos (by simp; omega), Option.bind_some, pack_Sum_is hp (by omega) (by omega), Option.bind_some, pack_four_is, Option.bind_some]
    rw [if_pos (by simp [fourL]; omega), Option.bind_some, if_pos (by simp [fourL]; omega), Option.bind_some, if_pos (by simp [fourL]; omega)]
    simp [frameL]
/-- the frame at a place -/
def readF (p : List Int) (at_ : Int) : List Int × Int × Int :=
  if at_ < 0 ∨ at_ > (p.length : Int) then ([], 0, 1) else if at_ = (p.length : Int) then ([], 0, 8) else
    match readU p (at_ + 1) with
    | (n, i, e) =>
      if rd p at_ ≠ 241 ∨ e ≠ 0 ∨ n > 65535 ∨ n > (p.length : Int) - i - 5 ∨ rd p (i + 4 + n) ≠ 31 then ([], 0, 3) else
        if (p.take (i + 4).toNat).drop i.toNat = fourL (sumOf ((p.take (i + 4 + n).toNat).drop (i + 4).toNat)) then ((p.take (i + 4 + n).toNat).drop (i + 4).toNat, i + 5 + n, 0) else ([], 0, 5)
theorem pack_ReadFrame_is {p : List Int} {a : Int} {k : Nat} (hp : By p) (hl : p.length ≤ 140737488355328) (hk : 655400 ≤ k) : pack_ReadFrame.f k p a = some (readF p a) := by
  obtain ⟨k, rfl⟩ : ∃ j, k = j + 2 := ⟨k - 2, by omega⟩
  unfold pack_ReadFrame.f readF
  by_cases h0 : a < 0
  · rw [if_pos h0, if_pos (Or.inl h0)]; simp only [pack_ReadFrame.j0, if_true]
  · rw [if_neg h0]
    by_cases h1 : a > (p.length : Int)
    · rw [if_pos (Or.inr h1)]; simp only [pack_ReadFrame.j0, decide_eq_true h1, if_true]
    · rw [if_neg (by omega)]
      simp only [pack_ReadFrame.j0, decide_eq_true_eq]
      rw [if_neg h1]
      by_cases h2 : a = (p.length : Int)
      · rw [if_pos h2, if_pos h2]
      · rw [if_neg h2, if_neg h2, w64 (x := a + 1) (by omega) (by omega), pack_ReadUvarint_is hp hl (by omega), Option.bind_some]
        rcases hru : readU p (a + 1) with ⟨n, i, e⟩
        simp only
        rw [if_pos (by omega), if_pos (by omega)]
        have hbad : ∀ (n i : Int), pack_ReadFrame.j1 (k + 1) p n i true = some ([], 0, 3) := fun n i => by simp only [pack_ReadFrame.j1, if_true]
        by_cases c1 : rd p a = 241
        · rw [if_pos c1]
          rcases readU_ok hp hru with ⟨rfl, g1, g2, g3, ⟨r, hr⟩, g5, g6⟩ | ⟨rfl, rfl, h⟩
          · have hpos := uv_pos n.toNat
            rw [if_pos rfl]
            by_cases c2 : n > 65535
            · rw [if_pos c2, hbad, if_pos (Or.inr (Or.inr (Or.inl c2)))]
            · rw [if_neg c2, w64 (x := n) (by omega) (by omega), w64 (x := (p.length : Int) - i) (by omega) (by omega), w64 (x := (p.length : Int) - i - 5) (by omega) (by omega)]
              by_cases c3 : n > (p.length : Int) - i - 5
              · rw [if_pos c3, hbad, if_pos (Or.inr (Or.inr (Or.inr (Or.inl c3))))]
              · rw [if_neg c3, w64 (x := i + 4) (by omega) (by omega), w64 (x := i + 4 + n) (by omega) (by omega), if_pos (by omega), if_pos (by omega)]
                by_cases c4 : rd p (i + 4 + n) = 31
                · rw [if_neg (by omega), c4]
                  simp only [pack_ReadFrame.j1]
                  rw [if_neg (by simp), w64 (x := n) (by omega) (by omega), w64 (x := i + 4) (by omega) (by omega), w64 (x := i + 4 + n) (by omega) (by omega), w64 (x := i + 5) (by omega) (by omega), w64 (x := i + 5 + n) (by omega) (by omega)]
                  rw [if_pos (by omega), if_pos (by omega), if_pos (by omega)]
                  have hq : By ((p.take (i + 4 + n).toNat).drop (i + 4).toNat) := (hp.take _).drop _
                  have hql : ((p.take (i + 4 + n).toNat).drop (i + 4).toNat).length ≤ 65535 := by simp; omega
                  rw [if_pos (by simp only [List.length_nil]; omega), Option.bind_some, List.nil_append, if_pos (by omega), if_pos (by omega), if_pos (by omega), pack_Sum_is hq (by omega) (by omega), Option.bind_some, pack_four_is, Option.bind_some]
                  by_cases c5 : (p.take (i + 4).toNat).drop i.toNat = fourL (sumOf ((p.take (i + 4 + n).toNat).drop (i + 4).toNat))
                  · rw [if_pos ((strOf_inj ((hp.take _).drop _) (fourL_by _)).2 c5), if_pos c5]
                  · rw [if_neg (fun h => c5 ((strOf_inj ((hp.take _).drop _) (fourL_by _)).1 h)), if_neg c5]
                · rw [if_pos (Or.inr (Or.inr (Or.inr (Or.inr c4))))]
                  rw [show (rd p (i + 4 + n) != 31) = true from by simpa using c4, hbad]
          · rw [if_neg (by omega), hbad, if_pos (Or.inr (Or.inl (by omega)))]
        · rw [if_neg c1, hbad, if_pos (Or.inl c1)]

theorem fascineref01_Four_is (v : Nat) : fascineref01_Four.f (v : Int) = some (fourL v) := by
  unfold fascineref01_Four.f fourL
  congr 1
theorem fascineref01_Frame_is {p : List Int} {k : Nat} (hp : By p) (hl : p.length ≤ 65535) (hk : 655400 ≤ k) : fascineref01_Frame.f k p = some (frameL p) := by
  unfold fascineref01_Frame.f
  have hu := uv_len64 (n := p.length) (by omega)
  rw [Option.bind_some, wu64 (by omega) (by omega), fascineref01_Uvarint_is (by omega) (by omega) (by omega), Option.bind_some, Int.toNat_natCast, if_pos (by simp; omega), Option.bind_some, fascineref01_Sum_is hp (by omega) (by omega), Option.bind_some, fascineref01_Four_is, Option.bind_some]
  rw [if_pos (by simp [fourL]; omega), Option.bind_some, if_pos (by simp [fourL]; omega), Option.bind_some, if_pos (by simp [fourL]; omega)]
  simp [frameL]
theorem fascineref01_ReadFrame_is {p : List Int} {a : Int} {k : Nat} (hp : By p) (hl : p.length ≤ 140737488355328) (hk : 655400 ≤ k) : fascineref01_ReadFrame.f k p a = some (readF p a) := by
  obtain ⟨k, rfl⟩ : ∃ j, k = j + 2 := ⟨k - 2, by omega⟩
  unfold fascineref01_ReadFrame.f readF
  by_cases h0 : a < 0
  · rw [if_pos h0, if_pos (Or.inl h0)]; simp only [fascineref01_ReadFrame.j0, if_true]
  · rw [if_neg h0]
    by_cases h1 : a > (p.length : Int)
    · rw [if_pos (Or.inr h1)]; simp only [fascineref01_ReadFrame.j0, decide_eq_true h1, if_true]
    · rw [if_neg (by omega)]
      simp only [fascineref01_ReadFrame.j0, decide_eq_true_eq]
      rw [if_neg h1]
      by_cases h2 : a = (p.length : Int)
      · rw [if_pos h2, if_pos h2]
      · rw [if_neg h2, if_neg h2, w64 (x := a + 1) (by omega) (by omega), fascineref01_ReadUvarint_is hp hl (by omega), Option.bind_some]
        rcases hru : readU p (a + 1) with ⟨n, i, e⟩
        simp only
        rw [if_pos (by omega), if_pos (by omega)]
        have hbad : ∀ (n i : Int), fascineref01_ReadFrame.j1 (k + 1) p n i true = some ([], 0, 3) := fun n i => by simp only [fascineref01_ReadFrame.j1, if_true]
        by_cases c1 : rd p a = 241
        · rw [if_pos c1]
          rcases readU_ok hp hru with ⟨rfl, g1, g2, g3, ⟨r, hr⟩, g5, g6⟩ | ⟨rfl, rfl, h⟩
          · have hpos := uv_pos n.toNat
            rw [if_pos rfl]
            by_cases c2 : n > 65535
            · rw [if_pos c2, hbad, if_pos (Or.inr (Or.inr (Or.inl c2)))]
            · rw [if_neg c2, w64 (x := n) (by omega) (by omega), w64 (x := (p.length : Int) - i) (by omega) (by omega), w64 (x := n + 5) (by omega) (by omega)]
              by_cases c3 : n > (p.length : Int) - i - 5
              · rw [if_pos (show (p.length : Int) - i < n + 5 by omega), hbad, if_pos (Or.inr (Or.inr (Or.inr (Or.inl c3))))]
              · rw [if_neg (show ¬ (p.length : Int) - i < n + 5 by omega), w64 (x := i + n) (by omega) (by omega), w64 (x := i + n + 4) (by omega) (by omega), show i + n + 4 = i + 4 + n from by omega, if_pos (by omega), if_pos (by omega)]
                by_cases c4 : rd p (i + 4 + n) = 31
                · rw [if_neg (by omega), c4]
                  simp only [fascineref01_ReadFrame.j1]
                  rw [if_neg (by simp), w64 (x := n) (by omega) (by omega), w64 (x := i + 4) (by omega) (by omega), w64 (x := i + 4 + n) (by omega) (by omega), w64 (x := i + 5) (by omega) (by omega), w64 (x := i + 5 + n) (by omega) (by omega)]
                  rw [if_pos (by omega), if_pos (by omega), if_pos (by omega)]
                  have hq : By ((p.take (i + 4 + n).toNat).drop (i + 4).toNat) := (hp.take _).drop _
                  have hql : ((p.take (i + 4 + n).toNat).drop (i + 4).toNat).length ≤ 65535 := by simp; omega
                  rw [Option.bind_some, fascineref01_Sum_is hq (by omega) (by omega), Option.bind_some, fascineref01_Four_is, Option.bind_some, if_pos (by omega), if_pos (by omega), if_pos (by omega)]
                  by_cases c5 : (p.take (i + 4).toNat).drop i.toNat = fourL (sumOf ((p.take (i + 4 + n).toNat).drop (i + 4).toNat))
                  · rw [if_pos ((strOf_inj (fourL_by _) ((hp.take _).drop _)).2 c5.symm), if_pos c5]
                  · rw [if_neg (fun h => c5 ((strOf_inj (fourL_by _) ((hp.take _).drop _)).1 h).symm), if_neg c5]
                · rw [if_pos (Or.inr (Or.inr (Or.inr (Or.inr c4))))]
                  rw [show (rd p (i + 4 + n) != 31) = true from by simpa using c4, hbad]
          · rw [if_neg (by omega), hbad, if_pos (Or.inr (Or.inl (by omega)))]
        · rw [if_neg c1, hbad, if_pos (Or.inl c1)]

theorem PackFrames : fascinelaw01_PackFrames.Pure := by
  intro p q a hm hl hw hmq hlq hwq ha
  have hp := By.of_wf hw
  have hq := By.of_wf hwq
  obtain ⟨K, hK⟩ : ∃ K, K = 700000 + 10 * q.length := ⟨_, rfl⟩
  refine ⟨K + 3, ?_⟩
  have hj : fascinelaw01_PackFrames.j0 (K + 3) q a = some true := by
    show (pack_ReadFrame.f (K + 2) q a).bind _ = _
    rw [pack_ReadFrame_is hq (by omega) (by omega), Option.bind_some, fascineref01_ReadFrame_is hq (by omega) (by omega), Option.bind_some, if_pos rfl, if_pos rfl, if_pos rfl, pack_Sum_is hq (by omega) (by omega), Option.bind_some, fascineref01_Sum_is hq (by omega) (by omega), Option.bind_some, beq_self_eq_true]
  unfold fascinelaw01_PackFrames.f
  rw [fascinelaw01_awake_is (by omega), Option.bind_some, if_pos rfl, pack_Frame_is hp (by omega) (by omega), Option.bind_some]
  by_cases h : (p.length : Int) > 65535
  · rw [if_pos h, if_pos (show p.length > 65535 by omega)]
    simp only
    rw [if_pos trivial, if_neg (by simp), hj]
  · rw [if_neg h, if_neg (show ¬ p.length > 65535 by omega)]
    simp only
    rw [if_pos trivial, fascineref01_Frame_is hp (by omega) (by omega), Option.bind_some, if_pos rfl, hj]

end Go.Proofs.Ytifbpjkgckkalaa.Pure
