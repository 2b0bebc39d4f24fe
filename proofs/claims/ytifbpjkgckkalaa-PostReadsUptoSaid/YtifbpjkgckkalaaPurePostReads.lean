/- On the printed functions of PostReads: what each of them answers, in plain words. -/
import Derived.Test.YtifbpjkgckkalaaPPostReadsx
import Derived.Test.YtifbpjkgckkalaaMPost
import Derived.Test.YtifbpjkgckkalaaMOpen
import Derived.Test.YtifbpjkgckkalaaQPostReads
namespace Go.Proofs.Ytifbpjkgckkalaa.Pure
open Go.RowKit Go.Proofs.Ytifbpjkgckkalaa.PPostReads Go.Proofs.YtifbpjkgckkalaaW.PrintWords Go.Proofs.YtifbpjkgckkalaaW.PrintLast Go.Proofs.YtifbpjkgckkalaaW.PrintMore Go.Proofs.Ytifbpjkgckkalaa.M
set_option linter.unusedVariables false
set_option linter.unusedSimpArgs false

theorem pack_Uvarint_l (n : Nat) : ∀ (k : Nat) (acc : List Int), (uv n).length ≤ k → acc.length + (uv n).length ≤ 140737488355328 → pack_Uvarint.l0 k (n : Int) acc = some (acc ++ uv n) := by
  induction n using Nat.strongRecOn with
  | _ n ih =>
    intro k acc hk ha
    obtain ⟨k, rfl⟩ : ∃ m, k = m + 1 := ⟨k - 1, by have := uv_pos n; omega⟩
    by_cases h : n < 128
    · rw [uv_lt h] at ha ⊢
      simp only [List.length_cons, List.length_nil] at ha
      simp only [pack_Uvarint.l0]
      rw [if_neg (by omega), if_pos (by omega), Int.emod_eq_of_lt (by omega) (by omega)]
    · rw [uv_ge h] at hk ha ⊢
      simp only [List.length_cons] at hk ha
      simp only [pack_Uvarint.l0]
      rw [if_pos (by omega), if_pos (by omega), bits_or128 (by omega) (by omega), show ((n : Int) / 128) = ((n / 128 : Nat) : Int) from by omega, ih (n / 128) (by omega) k _ (by omega) (by simp; omega)]
      rw [List.append_assoc, List.cons_append, List.nil_append, show (if (n : Int) % 256 < 128 then (n : Int) % 256 + 128 else (n : Int) % 256) = ((n % 128 + 128 : Nat) : Int) from by split <;> omega]
theorem pack_Uvarint_is {n : Int} {k : Nat} (h0 : 0 ≤ n) (h1 : n < 18446744073709551616) (hk : 10 ≤ k) : pack_Uvarint.f k n = some (uv n.toNat) := by
  obtain ⟨n, rfl⟩ := Int.eq_ofNat_of_zero_le h0
  have := uv_len64 (n := n) (by omega)
  unfold pack_Uvarint.f
  rw [pack_Uvarint_l n k [] (by omega) (by simp; omega)]; simp

theorem fascineref01_Uvarint_l (n : Nat) : ∀ (k : Nat) (acc : List Int), n < 18446744073709551616 → (uv n).length ≤ k → acc.length + (uv n).length ≤ 140737488355328 → fascineref01_Uvarint.l0 k (n : Int) acc = some (acc ++ uv n) := by
  induction n using Nat.strongRecOn with
  | _ n ih =>
    intro k acc hn hk ha
    obtain ⟨k, rfl⟩ : ∃ m, k = m + 1 := ⟨k - 1, by have := uv_pos n; omega⟩
    by_cases h : n < 128
    · rw [uv_lt h] at ha ⊢
      simp only [List.length_cons, List.length_nil] at ha
      simp only [fascineref01_Uvarint.l0]
      rw [if_neg (by omega), if_pos (by omega), Int.emod_eq_of_lt (by omega) (by omega)]
    · rw [uv_ge h] at hk ha ⊢
      simp only [List.length_cons] at hk ha
      simp only [fascineref01_Uvarint.l0]
      rw [if_pos (by omega), if_pos (by omega), Int.tdiv_eq_ediv_of_nonneg (by omega), Int.tmod_eq_emod_of_nonneg (by omega), show ((n : Int) / 128) = ((n / 128 : Nat) : Int) from by omega, wu64 (by omega) (by omega), ih (n / 128) (by omega) k _ (by omega) (by omega) (by simp; omega)]
      rw [List.append_assoc, List.cons_append, List.nil_append, show ((n : Int) % 128 + 128) % 256 = ((n % 128 + 128 : Nat) : Int) from by omega]
theorem fascineref01_Uvarint_is {n : Int} {k : Nat} (h0 : 0 ≤ n) (h1 : n < 18446744073709551616) (hk : 10 ≤ k) : fascineref01_Uvarint.f k n = some (uv n.toNat) := by
  obtain ⟨n, rfl⟩ := Int.eq_ofNat_of_zero_le h0
  have := uv_len64 (n := n) (by omega)
  unfold fascineref01_Uvarint.f
  rw [fascineref01_Uvarint_l n k [] (by omega) (by omega) (by simp; omega)]; simp

theorem pack_ReadUvarint_step (x b : Int) (n i : Nat) (hb : 0 ≤ b ∧ b ≤ 255) (hn : n ≤ 9) (h9 : n = 9 → b ≤ 1) (hx0 : 0 ≤ x) (hx : x < ((2 ^ (7 * n) : Nat) : Int)) :
    Go.bits .or .u64 x (shl .u64 (IntKind.u64.wrap (Go.bits .and .u8 b 127)) ((7 * n : Nat) : Int)) = x + ((2 ^ (7 * n) : Nat) : Int) * (b % 128) ∧ (x + ((2 ^ (7 * n) : Nat) : Int) * (b % 128) < ((2 ^ (7 * n) : Nat) : Int) * 128) := by
  obtain ⟨y, rfl⟩ := Int.eq_ofNat_of_zero_le hx0
  obtain ⟨c, hc⟩ := Int.eq_ofNat_of_zero_le (show 0 ≤ b % 128 by omega)
  have hP : ∀ m : Fin 9, 2 ^ (7 * m.1) * 128 ≤ 9223372036854775808 := by decide
  have hP9 : 2 ^ (7 * 9) * 2 = 18446744073709551616 := by decide
  have hP9' : 2 ^ (7 * 9) = 9223372036854775808 := by decide
  have hy : y < 2 ^ (7 * n) := by omega
  have hm : 2 ^ (7 * n) * c ≤ 2 ^ (7 * n) * 127 := Nat.mul_le_mul_left _ (by omega)
  have hs : y + 2 ^ (7 * n) * c < 2 ^ 64 := by
    rcases Nat.lt_or_ge n 9 with h | h
    · have := hP ⟨n, h⟩; simp only at this; omega
    · have e : n = 9 := by omega
      subst e
      have h1 := h9 rfl
      have : 2 ^ (7 * 9) * c ≤ 2 ^ (7 * 9) * 1 := Nat.mul_le_mul_left _ (by omega)
      omega
  have e := or_u64 y c (7 * n) hy hs
  constructor
  · rw [bits_and127 hb.1 (by omega), hc, wu64 (by omega) (by omega)]
    unfold shl
    rw [show min (((7 * n : Nat) : Int)).toNat (IntKind.u64).bits = 7 * n from by rw [Int.toNat_natCast, show (IntKind.u64).bits = 64 from rfl]; omega]
    rw [show ((c : Int) * 2 ^ (7 * n)) = ((2 ^ (7 * n) * c : Nat) : Int) from by simp [Int.mul_comm], wu64 (by omega) (by omega), e]
    simp
  · rw [hc]
    have : y + 2 ^ (7 * n) * c < 2 ^ (7 * n) * 128 := by omega
    exact_mod_cast this

theorem pack_ReadUvarint_round (p : List Int) (a : Nat) (hp : By p) (hl : p.length ≤ 140737488355328) (m n k : Nat) (x : Int) (hmn : m + n = 9) (hk : 2 * m + 2 ≤ k) (hx0 : 0 ≤ x) (hx : x < ((2 ^ (7 * n) : Nat) : Int))
    (ih : 0 < m → ∀ (k : Nat) (x : Int), 2 * (m - 1) + 2 ≤ k → 0 ≤ x → x < ((2 ^ (7 * (n + 1)) : Nat) : Int) → pack_ReadUvarint.l0 k p (a : Int) x ((a + (n + 1) : Nat) : Int) = some (match ru (p.drop (a + (n + 1))) (n + 1) with | none => (0, 0, 3) | some (v, c) => (x + ((2 ^ (7 * (n + 1)) : Nat) : Int) * (v : Int), ((a + (n + 1) + c : Nat) : Int), 0))) :
    pack_ReadUvarint.l0 k p (a : Int) x ((a + n : Nat) : Int) = some (match ru (p.drop (a + n)) n with | none => (0, 0, 3) | some (v, c) => (x + ((2 ^ (7 * n) : Nat) : Int) * (v : Int), ((a + n + c : Nat) : Int), 0)) := by
  obtain ⟨k, rfl⟩ : ∃ j, k = j + 2 := ⟨k - 2, by omega⟩
  rcases hd : p.drop (a + n) with _ | ⟨b, t⟩
  · have hge : p.length ≤ a + n := List.drop_eq_nil_iff.1 hd
    simp only [pack_ReadUvarint.l0]
    rw [if_neg (by omega)]; simp only [ru]
  · have hlt := lt_of_drop hd
    have hr := rd_cons hd
    have hb : 0 ≤ b ∧ b ≤ 255 := (hp.drop (a + n)) b (by rw [hd]; exact List.mem_cons_self)
    have hs := drop_succ_of hd
    have hw : wrap64 (((a + n : Nat) : Int) - (a : Int)) = (n : Int) := by rw [w64 (by omega) (by omega)]; omega
    simp only [pack_ReadUvarint.l0]
    rw [if_pos (by omega), if_pos (by omega), hw, hr]
    have hall : ∀ (T : Bool → Option (Int × Int × Int)), (if (n : Int) = 9 then (if b > 1 then T true else (if b = 0 then T (decide ((n : Int) > 0)) else T false)) else (if b = 0 then T (decide ((n : Int) > 0)) else T false)) = T (decide (n = 9 ∧ b > 1 ∨ b = 0 ∧ n > 0)) := by
      intro T
      by_cases h1 : n = 9
      · subst h1
        rw [if_pos (by omega)]
        by_cases h2 : b > 1
        · rw [if_pos h2]; congr 1; first | (rw [decide_eq_decide]; omega) | (symm; rw [decide_eq_true_iff]; omega) | (symm; rw [decide_eq_false_iff_not]; omega)
        · rw [if_neg h2]
          by_cases h3 : b = 0
          · rw [if_pos h3]; congr 1; first | (rw [decide_eq_decide]; omega) | (symm; rw [decide_eq_true_iff]; omega) | (symm; rw [decide_eq_false_iff_not]; omega)
          · rw [if_neg h3]; congr 1; first | (rw [decide_eq_decide]; omega) | (symm; rw [decide_eq_true_iff]; omega) | (symm; rw [decide_eq_false_iff_not]; omega)
      · rw [if_neg (by omega)]
        by_cases h3 : b = 0
        · rw [if_pos h3]; congr 1; first | (rw [decide_eq_decide]; omega) | (symm; rw [decide_eq_true_iff]; omega) | (symm; rw [decide_eq_false_iff_not]; omega)
        · rw [if_neg h3]; congr 1; first | (rw [decide_eq_decide]; omega) | (symm; rw [decide_eq_true_iff]; omega) | (symm; rw [decide_eq_false_iff_not]; omega)
    have hall := hall (fun z => pack_ReadUvarint.j2 (k + 1) p (a : Int) x ((a + n : Nat) : Int) (n : Int) b z)
    rw [hall]
    simp only [pack_ReadUvarint.j2, ru, decide_eq_true_eq]
    by_cases hc : n = 9 ∧ b > 1 ∨ b = 0 ∧ n > 0
    · rw [if_pos hc, if_pos hc]
    · rw [if_neg hc, if_neg hc]
      obtain ⟨e1, e2⟩ := pack_ReadUvarint_step x b n 0 hb (by omega) (by omega) hx0 hx
      rw [show wrap64 (7 * (n : Int)) = ((7 * n : Nat) : Int) from by rw [w64 (by omega) (by omega)]; omega, if_pos (by omega), e1]
      rw [show wrap64 (((a + n : Nat) : Int) + 1) = ((a + (n + 1) : Nat) : Int) from by rw [w64 (by omega) (by omega)]; omega]
      by_cases h1 : b < 128
      · rw [if_pos h1, if_pos h1]
        simp only [Option.some.injEq, Prod.mk.injEq, and_true]
        refine ⟨?_, by omega⟩
        rw [show b % 128 = (b.toNat : Int) from by omega]
      · rw [if_neg h1, if_neg h1]
        have hP : (2 ^ (7 * (n + 1)) : Nat) = 2 ^ (7 * n) * 128 := by rw [show 7 * (n + 1) = 7 * n + 7 from by omega, Nat.pow_add]
        have h0 : 0 ≤ ((2 ^ (7 * n) : Nat) : Int) * (b % 128) := Int.mul_nonneg (by omega) (by omega)
        rw [ih (by omega) k _ (by omega) (by omega) (by rw [hP]; simpa using e2), show a + (n + 1) = a + n + 1 from by omega, hs]
        cases hq : ru t (n + 1) with
        | none => rfl
        | some q =>
          obtain ⟨v, c⟩ := q
          simp only [Option.some.injEq, Prod.mk.injEq, and_true]
          refine ⟨?_, by omega⟩
          rw [hP, show b % 128 = (((b - 128).toNat : Nat) : Int) from by omega]
          have hring : ∀ P y w : Int, x + P * y + P * 128 * w = x + P * (y + 128 * w) := fun P y w => by rw [Int.mul_add, Int.mul_assoc, Int.add_assoc]
          push_cast
          exact hring _ _ _

theorem pack_ReadUvarint_l (p : List Int) (a : Nat) (hp : By p) (hl : p.length ≤ 140737488355328) (m : Nat) : ∀ (n k : Nat) (x : Int), m + n = 9 → 2 * m + 2 ≤ k → 0 ≤ x → x < ((2 ^ (7 * n) : Nat) : Int) →
    pack_ReadUvarint.l0 k p (a : Int) x ((a + n : Nat) : Int) = some (match ru (p.drop (a + n)) n with | none => (0, 0, 3) | some (v, c) => (x + ((2 ^ (7 * n) : Nat) : Int) * (v : Int), ((a + n + c : Nat) : Int), 0)) := by
  induction m with
  | zero =>
    intro n k x hmn hk hx0 hx
    exact pack_ReadUvarint_round p a hp hl 0 n k x hmn hk hx0 hx (fun h => by omega)
  | succ m ih =>
    intro n k x hmn hk hx0 hx
    exact pack_ReadUvarint_round p a hp hl (m + 1) n k x hmn hk hx0 hx (fun _ k x hk' hx0 hx => ih (n + 1) k x (by omega) (by omega) hx0 hx)

theorem pack_ReadUvarint_is {p : List Int} {i : Int} {k : Nat} (hp : By p) (hl : p.length ≤ 140737488355328) (hk : 21 ≤ k) : pack_ReadUvarint.f k p i = some (readU p i) := by
  obtain ⟨k, rfl⟩ : ∃ j, k = j + 1 := ⟨k - 1, by omega⟩
  unfold pack_ReadUvarint.f readU
  by_cases h0 : i < 0
  · rw [if_pos h0, if_pos (Or.inl h0)]; simp only [pack_ReadUvarint.j0, if_true]
  · rw [if_neg h0]
    by_cases h1 : i > (p.length : Int)
    · rw [if_pos (Or.inr h1)]; simp only [pack_ReadUvarint.j0, decide_eq_true h1, if_true]
    · obtain ⟨a, rfl⟩ := Int.eq_ofNat_of_zero_le (show 0 ≤ i by omega)
      rw [if_neg (by omega)]
      simp only [pack_ReadUvarint.j0, decide_eq_true_eq]
      rw [if_neg h1]
      have e := pack_ReadUvarint_l p a hp hl 9 0 k 0 (by omega) (by omega) (by omega) (by simp)
      simp only [Nat.add_zero] at e
      rw [e, Int.toNat_natCast]
      cases ru (p.drop a) 0 with
      | none => rfl
      | some q => obtain ⟨v, c⟩ := q; simp

/-- the first loop: up to the first small byte, the end, or the tenth -/
theorem fascineref01_ReadUvarint_l0 (p : List Int) (a : Nat) (ha : a ≤ p.length) (hl : p.length ≤ 140737488355328) (m : Nat) : ∀ (n k : Nat), m + n = 10 → a + n ≤ p.length → m + 1 ≤ k →
    ∃ j k', n ≤ j ∧ j ≤ 10 ∧ k ≤ k' + m + 1 ∧ a + j ≤ p.length ∧ (∀ i, n ≤ i → i < j → ∃ b, p[a + i]? = some b ∧ 128 ≤ b) ∧ (j = 10 ∨ p.length ≤ a + j ∨ ∃ b, p[a + j]? = some b ∧ b < 128) ∧ fascineref01_ReadUvarint.l0 k p (a : Int) (n : Int) = fascineref01_ReadUvarint.j2 k' p (a : Int) (j : Int) := by
  induction m with
  | zero =>
    intro n k hmn hlen hk
    obtain ⟨k, rfl⟩ : ∃ j, k = j + 1 := ⟨k - 1, by omega⟩
    refine ⟨n, k, by omega, by omega, by omega, ?_, fun i h1 h2 => by omega, Or.inl (by omega), ?_⟩
    · omega
    · simp only [fascineref01_ReadUvarint.l0]; rw [if_neg (by omega)]
  | succ m ih =>
    intro n k hmn hlen hk
    obtain ⟨k, rfl⟩ : ∃ j, k = j + 1 := ⟨k - 1, by omega⟩
    simp only [fascineref01_ReadUvarint.l0]
    rw [if_pos (by omega), w64 (by omega) (by omega)]
    by_cases hlt : a + n < p.length
    · obtain ⟨b, t, hd⟩ := drop_cons_of hlt
      have hg : p[a + n]? = some b := by rw [← List.head?_drop, hd]; rfl
      have hr := rd_cons hd
      rw [if_pos (by omega), show wrap64 ((a : Int) + (n : Int)) = ((a + n : Nat) : Int) from by rw [w64 (by omega) (by omega)]; omega, if_pos (by omega), if_pos (by omega), hr]
      by_cases hb : b ≥ 128
      · rw [if_pos hb, show wrap64 ((n : Int) + 1) = ((n + 1 : Nat) : Int) from by rw [w64 (by omega) (by omega)]; omega]
        obtain ⟨j, k', h1, h2, h3, h4, h5, h6, h7⟩ := ih (n + 1) k (by omega) (by omega) (by omega)
        refine ⟨j, k', by omega, h2, by omega, by omega, ?_, h6, h7⟩
        intro i hi hj
        rcases Nat.lt_or_ge n i with h | h
        · exact h5 i (by omega) hj
        · have : i = n := by omega
          subst this; exact ⟨b, hg, by omega⟩
      · rw [if_neg hb]
        exact ⟨n, k, by omega, by omega, by omega, by omega, fun i h1 h2 => by omega, Or.inr (Or.inr ⟨b, hg, by omega⟩), rfl⟩
    · rw [if_neg (by omega)]
      refine ⟨n, k, by omega, by omega, by omega, ?_, fun i h1 h2 => by omega, Or.inr (Or.inl (by omega)), rfl⟩
      omega
/-- the second loop: the low bits, from the last to the first -/
theorem fascineref01_ReadUvarint_l1 (p : List Int) (a n : Nat) (hp : By p) (hn : n < 10) (hl : p.length ≤ 140737488355328) (han : a + n < p.length) (j : Nat) : ∀ (k : Nat), j ≤ n + 1 → j + 1 ≤ k →
    ∃ k', k ≤ k' + j + 1 ∧ fascineref01_ReadUvarint.l1 k p (a : Int) (n : Int) (fo (((p.drop a).take (n + 1)).drop j) % 18446744073709551616) ((j : Int) - 1) =
      (fascineref01_Uvarint.f k' (fo ((p.drop a).take (n + 1)) % 18446744073709551616)).bind fun t => if (strOfNums t).toList = (strOfNums ((p.drop a).take (n + 1))).toList then some (fo ((p.drop a).take (n + 1)) % 18446744073709551616, ((a + n + 1 : Nat) : Int), 0) else some (0, 0, 3) := by
  induction j with
  | zero =>
    intro k hj hk
    obtain ⟨k, rfl⟩ : ∃ j, k = j + 1 := ⟨k - 1, by omega⟩
    refine ⟨k, by omega, ?_⟩
    simp only [fascineref01_ReadUvarint.l1]
    rw [if_neg (by omega), show wrap64 (wrap64 ((a : Int) + (n : Int)) + 1) = ((a + n + 1 : Nat) : Int) from by rw [w64 (x := (a : Int) + (n : Int)) (by omega) (by omega), w64 (by omega) (by omega)]; omega]
    simp only [if_pos (show (0 : Int) ≤ (a : Int) by omega), if_pos (show (a : Int) ≤ ((a + n + 1 : Nat) : Int) by omega), if_pos (show ((a + n + 1 : Nat) : Int) ≤ (p.length : Int) by omega), List.drop_zero, Int.toNat_natCast, show (p.take (a + n + 1)).drop a = (p.drop a).take (n + 1) from by rw [List.drop_take]; congr 1; omega]
  | succ j ih =>
    intro k hj hk
    obtain ⟨k, rfl⟩ : ∃ j, k = j + 1 := ⟨k - 1, by omega⟩
    obtain ⟨k', h1, h2⟩ := ih k (by omega) (by omega)
    refine ⟨k', by omega, ?_⟩
    rw [← h2]
    obtain ⟨b, t, hd⟩ := drop_cons_of (l := p) (i := a + j) (by omega)
    have hb : 0 ≤ b ∧ b ≤ 255 := (hp.drop (a + j)) b (by rw [hd]; exact List.mem_cons_self)
    have hr := rd_cons hd
    have hdj : ((p.drop a).take (n + 1)).drop j = b :: ((p.drop a).take (n + 1)).drop (j + 1) := by
      have e1 : ((p.drop a).take (n + 1))[j]? = some b := by
        rw [List.getElem?_take, if_pos (by omega), List.getElem?_drop, ← List.head?_drop, hd]; rfl
      have hlt : j < ((p.drop a).take (n + 1)).length := by simp; omega
      rw [List.drop_eq_getElem_cons hlt]
      congr 1
      rw [List.getElem?_eq_getElem hlt] at e1
      exact Option.some.inj e1
    simp only [fascineref01_ReadUvarint.l1]
    rw [if_pos (by omega), show wrap64 ((a : Int) + (((j + 1 : Nat) : Int) - 1)) = ((a + j : Nat) : Int) from by rw [w64 (by omega) (by omega)]; omega, if_pos (by omega), if_pos (by omega), hr]
    rw [show wrap64 ((((j + 1 : Nat) : Int) - 1) - 1) = (j : Int) - 1 from by rw [w64 (by omega) (by omega)]; omega]
    congr 1
    rw [hdj, fo_cons, Int.tmod_eq_emod_of_nonneg (by omega), wu64_def, wu64_def, wu64_def]
    omega
theorem fascineref01_ReadUvarint_is {p : List Int} {i : Int} {k : Nat} (hp : By p) (hl : p.length ≤ 140737488355328) (hk : 40 ≤ k) : fascineref01_ReadUvarint.f k p i = some (readU p i) := by
  obtain ⟨k, rfl⟩ : ∃ j, k = j + 1 := ⟨k - 1, by omega⟩
  unfold fascineref01_ReadUvarint.f readU
  by_cases h0 : i < 0
  · rw [if_pos h0, if_pos (Or.inl h0)]; simp only [fascineref01_ReadUvarint.j0, if_true]
  · rw [if_neg h0]
    by_cases h1 : i > (p.length : Int)
    · rw [if_pos (Or.inr h1)]; simp only [fascineref01_ReadUvarint.j0, decide_eq_true h1, if_true]
    · obtain ⟨a, rfl⟩ := Int.eq_ofNat_of_zero_le (show 0 ≤ i by omega)
      rw [if_neg (by omega)]
      simp only [fascineref01_ReadUvarint.j0, decide_eq_true_eq]
      rw [if_neg h1, Int.toNat_natCast]
      obtain ⟨n, k1, g1, g2, g3, g4, g5, g6, g7⟩ := fascineref01_ReadUvarint_l0 p a (by omega) hl 10 0 k (by omega) (by omega) (by omega)
      rw [show ((0 : Nat) : Int) = 0 from rfl] at g7
      rw [g7]
      obtain ⟨k1, rfl⟩ : ∃ j, k1 = j + 2 := ⟨k1 - 2, by omega⟩
      have hj : fascineref01_ReadUvarint.j2 (k1 + 2) p (a : Int) (n : Int) = fascineref01_ReadUvarint.j3 (k1 + 1) p (a : Int) (n : Int) (decide (10 ≤ n ∨ p.length ≤ a + n)) := by
        simp only [fascineref01_ReadUvarint.j2]
        by_cases h : n ≥ 10
        · rw [if_pos (by omega)]; congr 1; simp; omega
        · rw [if_neg (by omega), w64 (by omega) (by omega)]; congr 1; rw [Bool.eq_iff_iff]; simp; omega
      rw [hj]
      simp only [fascineref01_ReadUvarint.j3, decide_eq_true_eq]
      by_cases hc : 10 ≤ n ∨ p.length ≤ a + n
      · rw [if_pos hc]
        cases hq : ru (p.drop a) 0 with
        | none => rfl
        | some q =>
          exfalso
          obtain ⟨v, c⟩ := q
          obtain ⟨⟨r, hr⟩, hcc, hv, _⟩ := ru_some _ 0 v c (hp.drop a) (by omega) hq
          rw [lim_zero] at hv
          have hlen := uv_len64 hv
          have hpos := uv_pos v
          have el := congrArg List.length hr
          simp at el
          obtain ⟨b, hb, hb1⟩ := uv_last v ((uv v).length - 1) (by omega)
          obtain ⟨b', hb', hb2⟩ := g5 ((uv v).length - 1) (by omega) (by omega)
          have : (p.drop a)[(uv v).length - 1]? = some b := by rw [hr, List.getElem?_append_left (by omega)]; exact hb
          rw [List.getElem?_drop, hb'] at this
          have := Option.some.inj this
          omega
      · rw [if_neg hc]
        obtain ⟨b, hb, hb1⟩ : ∃ b, p[a + n]? = some b ∧ b < 128 := by
          rcases g6 with h | h | h
          · omega
          · omega
          · exact h
        obtain ⟨k2, e1, e2⟩ := fascineref01_ReadUvarint_l1 p a n hp (by omega) hl (by omega) (n + 1) k1 (by omega) (by omega)
        have hz : fo (((p.drop a).take (n + 1)).drop (n + 1)) % 18446744073709551616 = 0 := by
          rw [List.drop_eq_nil_of_le (by rw [List.length_take]; omega)]; rfl
        rw [hz, show ((n + 1 : Nat) : Int) - 1 = (n : Int) from by omega] at e2
        rw [e2, fascineref01_Uvarint_is (by omega) (by omega) (by omega), Option.bind_some]
        have hby : By ((p.drop a).take (n + 1)) := (hp.drop a).take _
        cases hq : ru (p.drop a) 0 with
        | none =>
          rw [if_neg]
          rw [strOf_inj (uv_by _) hby]
          intro h
          have hr : p.drop a = uv (fo ((p.drop a).take (n + 1)) % 18446744073709551616).toNat ++ (p.drop a).drop (n + 1) := by rw [h, List.take_append_drop]
          have := ru_uv ((p.drop a).drop (n + 1)) (fo ((p.drop a).take (n + 1)) % 18446744073709551616).toNat 0 (by omega) (by rw [lim_zero]; omega) (Or.inl rfl)
          rw [← hr, hq] at this
          cases this
        | some q =>
          obtain ⟨v, c⟩ := q
          obtain ⟨⟨r, hr⟩, hcc, hv, _⟩ := ru_some _ 0 v c (hp.drop a) (by omega) hq
          rw [lim_zero] at hv
          have hpos := uv_pos v
          have hn : n + 1 = (uv v).length := by
            obtain ⟨b1, hb1', hb12⟩ := uv_last v ((uv v).length - 1) (by omega)
            have t1 : (p.drop a)[(uv v).length - 1]? = some b1 := by rw [hr, List.getElem?_append_left (by omega)]; exact hb1'
            rw [List.getElem?_drop] at t1
            rcases Nat.lt_trichotomy (n + 1) (uv v).length with h | h | h
            · obtain ⟨b2, hb2, hb22⟩ := uv_high v n h
              have t2 : (p.drop a)[n]? = some b2 := by rw [hr, List.getElem?_append_left (by omega)]; exact hb2
              rw [List.getElem?_drop, hb] at t2
              have := Option.some.inj t2; omega
            · exact h
            · obtain ⟨b3, hb3, hb32⟩ := g5 ((uv v).length - 1) (by omega) (by omega)
              rw [hb3] at t1
              have := Option.some.inj t1; omega
          have ht : (p.drop a).take (n + 1) = uv v := by rw [hn, hr]; simp
          rw [ht, fo_uv, show ((v : Int) % 18446744073709551616) = (v : Int) from by omega, Int.toNat_natCast, if_pos rfl]
          simp only [Option.some.injEq, Prod.mk.injEq, and_true, true_and]
          omega

theorem post_Encode_l (l : List Int) (h64 : I64 l) (hl : l.length ≤ 17592186044416) : ∀ (t : List Int) (i k : Nat) (acc : List Int) (last : Int), l.drop i = t → i ≤ l.length → t.length + 11 ≤ k → -1 ≤ last → last ≤ 9223372036854775807 → (acc.length : Int) ≤ 10 + 4 * i + (last + 1) / 268435456 →
    post_Encode.l0 k acc last l (l.length : Int) (i : Int) = some (if rise last t = true then (acc ++ enc last t, 0) else ([], 3))
  | [], i, k, acc, last, hd, hi, hk, h0, h1, ha => by
    obtain ⟨k, rfl⟩ : ∃ j, k = j + 1 := ⟨k - 1, by omega⟩
    have hge := List.drop_eq_nil_iff.1 hd
    simp only [post_Encode.l0]
    rw [if_neg (by omega)]
    simp [rise, enc]
  | n :: t, i, k, acc, last, hd, hi, hk, h0, h1, ha => by
    obtain ⟨k, rfl⟩ : ∃ j, k = j + 1 := ⟨k - 1, by omega⟩
    have hlt := lt_of_drop hd
    have hr := rd_cons hd
    have hn : -9223372036854775808 ≤ n ∧ n ≤ 9223372036854775807 := h64 n (List.mem_of_mem_drop (i := i) (by rw [hd]; exact List.mem_cons_self))
    simp only [List.length_cons] at hk
    simp only [post_Encode.l0]
    rw [if_pos (by omega), if_pos (by omega), if_pos (by omega), hr]
    by_cases hle : n ≤ last
    · rw [if_pos hle, if_neg (by simp [rise]; omega)]
    · rw [if_neg hle]
      have hw : IntKind.u64.wrap (wrap64 (wrap64 (n - last) - 1)) = n - last - 1 := by rw [wu64_def, wrap64_def, wrap64_def]; omega
      rw [hw, pack_Uvarint_is (by omega) (by omega) (by omega), Option.bind_some]
      have hg := uv_len_gap (g := (n - last - 1).toNat) (by omega)
      rw [if_pos (by omega), show wrap64 ((i : Int) + 1) = ((i + 1 : Nat) : Int) from by rw [w64 (by omega) (by omega)]; omega]
      rw [post_Encode_l l h64 hl t (i + 1) k _ n (drop_succ_of hd) (by omega) (by omega) (by omega) (by omega) (by simp only [List.length_append]; omega)]
      simp only [rise, enc, Bool.and_eq_true, decide_eq_true_eq, List.append_assoc]
      by_cases h2 : rise n t = true
      · rw [if_pos h2, if_pos ⟨by omega, h2⟩]
      · rw [if_neg h2, if_neg (fun h => h2 h.2)]
theorem post_Encode_is {l : List Int} {k : Nat} (h64 : I64 l) (hl : l.length ≤ 17592186044416) (hk : l.length + 11 ≤ k) : post_Encode.f k l = some (if rise (-1) l = true then (uv l.length ++ enc (-1) l, 0) else ([], 3)) := by
  unfold post_Encode.f
  rw [wu64 (by omega) (by omega), pack_Uvarint_is (by omega) (by omega) (by omega), Option.bind_some]
  have := uv_len64 (n := l.length) (by omega)
  exact post_Encode_l l h64 hl l 0 k _ (-1) rfl (by omega) hk (by omega) (by omega) (by simp; omega)

theorem enc_awake : uv 3 ++ enc (-1) [0, 1, 5] = [3, 0, 0, 3] := by
  simp only [enc]
  rw [uv_lt (by omega), uv_lt (by omega), uv_lt (by omega), uv_lt (by omega)]
  rfl
theorem fascinelaw08_awake_is {k : Nat} (hk : 14 ≤ k) : fascinelaw08_awake.f k = some true := by
  unfold fascinelaw08_awake.f
  rw [post_Encode_is (fun x hx => by simp at hx; omega) (by simp) (by simpa using hk), if_pos (by decide)]
  simp only [Option.bind_some, if_true, List.length_cons, List.length_nil, Nat.zero_add, Nat.reduceAdd]
  rw [enc_awake, strOf_list]
  rfl

theorem post_Decode_l (p : List Int) (hp : By p) (hl : p.length ≤ 140737488355328) (below : Int) (hb : below ≤ 9223372036854775807) (d : Nat) : ∀ (k m : Nat) (at_ next n i : Int) (acc : List Int), (p.length : Int) - at_ ≤ d → at_ ≤ p.length → 0 ≤ at_ → d + 23 ≤ k → n - i = m → 0 ≤ i → n ≤ 9223372036854775807 → 0 ≤ next → next ≤ below → (acc.length + m ≤ 17592186044416 ∨ acc.length + d < 17592186044416) →
    post_Decode.l0 k p at_ below acc (next - 1) n i = some (decs p below m at_ next acc) := by
  induction d with
  | zero =>
    intro k m at_ next n i acc hd ha0 ha hk hm hi hn h0 hnb hacc
    obtain ⟨k, rfl⟩ : ∃ j, k = j + 1 := ⟨k - 1, by omega⟩
    simp only [post_Decode.l0]
    cases m with
    | zero => rw [if_neg (by omega)]; rfl
    | succ m =>
      rw [if_pos (by omega), pack_ReadUvarint_is hp hl (by omega), Option.bind_some]
      have e : readU p at_ = (0, 0, 3) := by
        unfold readU
        rw [if_neg (by omega), show p.drop at_.toNat = [] from List.drop_eq_nil_of_le (by omega)]; rfl
      simp only [decs, e]
      rw [if_neg (by omega), if_neg (by omega)]
  | succ d ih =>
    intro k m at_ next n i acc hd ha0 ha hk hm hi hn h0 hnb hacc
    obtain ⟨k, rfl⟩ : ∃ j, k = j + 1 := ⟨k - 1, by omega⟩
    simp only [post_Decode.l0]
    cases m with
    | zero => rw [if_neg (by omega)]; rfl
    | succ m =>
      rw [if_pos (by omega), pack_ReadUvarint_is hp hl (by omega), Option.bind_some]
      rcases hru : readU p at_ with ⟨g, at2, e⟩
      simp only [decs, hru]
      rcases readU_ok hp hru with ⟨rfl, h1, h2, h3, ⟨r, hr⟩, h5, h6⟩ | ⟨rfl, rfl, h⟩
      · have hpos := uv_pos g.toNat
        simp only [if_true]
        have hw : IntKind.u64.wrap (wrap64 (wrap64 (below - (next - 1)) - 1)) = below - next := by rw [wu64_def, wrap64_def, wrap64_def]; omega
        rw [hw]
        by_cases hg : g ≥ below - next
        · rw [if_pos hg, if_pos hg]
        · rw [if_neg hg, if_neg hg]
          have hw2 : wrap64 (next - 1 + wrap64 (wrap64 g + 1)) = next + g := by rw [w64 (x := g) (by omega) (by omega), w64 (x := g + 1) (by omega) (by omega), w64 (by omega) (by omega)]; omega
          have hw3 : IntKind.u64.wrap (i + 1) = i + 1 := wu64 (by omega) (by omega)
          rw [hw2, hw3, if_pos (by omega)]
          have := ih k m at2 (next + g + 1) n (i + 1) (acc ++ [next + g]) (by omega) (by omega) (by omega) (by omega) (by omega) (by omega) (by omega) (by omega) (by omega) (by simp only [List.length_append, List.length_cons, List.length_nil]; omega)
          rw [show next + g + 1 - 1 = next + g from by omega] at this
          exact this
      · rw [if_neg (by omega), if_neg (by omega)]
theorem post_Decode_is {p : List Int} {at_ below : Int} {k : Nat} (hp : By p) (hl : p.length ≤ 140737488355328) (hb : below ≤ 9223372036854775807) (hk : p.length + 24 ≤ k) (hs : p.length < 17592186044416 ∨ ∀ g j, readU p at_ = (g, j, 0) → g ≤ 17592186044416) :
    post_Decode.f k p at_ below = some (decU p at_ below) := by
  obtain ⟨k, rfl⟩ : ∃ j, k = j + 1 := ⟨k - 1, by omega⟩
  unfold post_Decode.f decU
  rw [pack_ReadUvarint_is hp hl (by omega), Option.bind_some]
  rcases hru : readU p at_ with ⟨n, at2, e⟩
  simp only
  rcases readU_ok hp hru with ⟨rfl, h1, h2, h3, ⟨r, hr⟩, h5, h6⟩ | ⟨rfl, rfl, h⟩
  · have hpos := uv_pos n.toNat
    simp only [if_true]
    by_cases h0 : below < 0
    · rw [if_pos h0, if_pos (Or.inl h0)]; simp only [post_Decode.j0, if_true]
    · rw [if_neg h0, wu64 (by omega) (by omega)]
      by_cases h4 : n > below
      · rw [if_pos (Or.inr h4)]; simp only [post_Decode.j0, decide_eq_true h4, if_true]
      · rw [if_neg (by omega)]
        simp only [post_Decode.j0, decide_eq_true_eq]
        rw [if_neg h4]
        have := post_Decode_l p hp hl below hb ((p.length : Int) - at2).toNat k n.toNat at2 0 n 0 [] (by omega) (by omega) (by omega) (by omega) (by omega) (by omega) (by omega) (by omega) (by omega) (by
          rcases hs with hs | hs
          · right; simp; omega
          · left; have := hs n at2 hru; simp; omega)
        rw [show (0 : Int) - 1 = -1 from rfl] at this
        exact this
  · rw [if_neg (by omega), if_neg (by omega)]

theorem fascineref08_Decode_l (p : List Int) (hp : By p) (hl : p.length ≤ 17592186000000) (below : Int) (hb : below ≤ 9223372036854775807) (d : Nat) : ∀ (k m : Nat) (at_ next n i : Int) (acc : List Int), (p.length : Int) - at_ ≤ d → at_ ≤ p.length → 0 ≤ at_ → d + 42 ≤ k → n - i = m → 0 ≤ i → n ≤ 9223372036854775807 → 0 ≤ next → next ≤ below → acc.length + d < 17592186044416 →
    fascineref08_Decode.l0 k p at_ below n acc next i = some (decs p below m at_ next acc) := by
  induction d with
  | zero =>
    intro k m at_ next n i acc hd ha0 ha hk hm hi hn h0 hnb hacc
    obtain ⟨k, rfl⟩ : ∃ j, k = j + 1 := ⟨k - 1, by omega⟩
    simp only [fascineref08_Decode.l0]
    rw [w64 (x := n) (by omega) (by omega)]
    cases m with
    | zero => rw [if_neg (by omega)]; rfl
    | succ m =>
      rw [if_pos (by omega), fascineref01_ReadUvarint_is hp (by omega) (by omega), Option.bind_some]
      have e : readU p at_ = (0, 0, 3) := by
        unfold readU
        rw [if_neg (by omega), show p.drop at_.toNat = [] from List.drop_eq_nil_of_le (by omega)]; rfl
      simp only [decs, e]
      rw [if_neg (by omega), if_neg (by omega)]
  | succ d ih =>
    intro k m at_ next n i acc hd ha0 ha hk hm hi hn h0 hnb hacc
    obtain ⟨k, rfl⟩ : ∃ j, k = j + 1 := ⟨k - 1, by omega⟩
    simp only [fascineref08_Decode.l0]
    rw [w64 (x := n) (by omega) (by omega)]
    cases m with
    | zero => rw [if_neg (by omega)]; rfl
    | succ m =>
      rw [if_pos (by omega), fascineref01_ReadUvarint_is hp (by omega) (by omega), Option.bind_some]
      rcases hru : readU p at_ with ⟨g, at2, e⟩
      simp only [decs, hru]
      rcases readU_ok hp hru with ⟨rfl, h1, h2, h3, ⟨r, hr⟩, h5, h6⟩ | ⟨rfl, rfl, h⟩
      · have hpos := uv_pos g.toNat
        simp only [if_true]
        by_cases hg : g ≥ below - next
        · rw [if_pos hg]
          by_cases h7 : next ≥ below
          · rw [if_pos h7]
          · rw [if_neg h7, w64 (x := below - 1) (by omega) (by omega), w64 (x := below - 1 - next) (by omega) (by omega), wu64 (by omega) (by omega), if_pos (by omega)]
        · rw [if_neg hg, if_neg (by omega), w64 (x := below - 1) (by omega) (by omega), w64 (x := below - 1 - next) (by omega) (by omega), wu64 (by omega) (by omega), if_neg (by omega), if_pos (by omega)]
          rw [w64 (x := g) (by omega) (by omega), w64 (x := g + 1) (by omega) (by omega), w64 (x := next + g) (by omega) (by omega), w64 (x := next + (g + 1)) (by omega) (by omega), w64 (x := i + 1) (by omega) (by omega)]
          rw [show next + (g + 1) = next + g + 1 from by omega]
          exact ih k m at2 (next + g + 1) n (i + 1) (acc ++ [next + g]) (by omega) (by omega) (by omega) (by omega) (by omega) (by omega) (by omega) (by omega) (by omega) (by simp only [List.length_append, List.length_cons, List.length_nil]; omega)
      · rw [if_neg (by omega), if_neg (by omega)]
theorem fascineref08_Decode_is {p : List Int} {at_ below : Int} {k : Nat} (hp : By p) (hl : p.length ≤ 17592186000000) (hb : below ≤ 9223372036854775807) (hk : p.length + 44 ≤ k) :
    fascineref08_Decode.f k p at_ below = some (decU p at_ below) := by
  obtain ⟨k, rfl⟩ : ∃ j, k = j + 1 := ⟨k - 1, by omega⟩
  unfold fascineref08_Decode.f decU
  rw [fascineref01_ReadUvarint_is hp (by omega) (by omega), Option.bind_some]
  rcases hru : readU p at_ with ⟨n, at2, e⟩
  simp only
  rcases readU_ok hp hru with ⟨rfl, h1, h2, h3, ⟨r, hr⟩, h5, h6⟩ | ⟨rfl, rfl, h⟩
  · have hpos := uv_pos n.toNat
    simp only [if_true]
    by_cases h0 : below < 0
    · rw [if_pos h0, if_pos (Or.inl h0)]; simp only [fascineref08_Decode.j0, if_true]
    · rw [if_neg h0, wu64 (by omega) (by omega)]
      by_cases h4 : n > below
      · rw [if_pos (Or.inr h4)]; simp only [fascineref08_Decode.j0, decide_eq_true h4, if_true]
      · rw [if_neg (by omega)]
        simp only [fascineref08_Decode.j0, decide_eq_true_eq]
        rw [if_neg h4]
        exact fascineref08_Decode_l p hp hl below hb ((p.length : Int) - at2).toNat k n.toNat at2 0 n 0 [] (by omega) (by omega) (by omega) (by omega) (by omega) (by omega) (by omega) (by omega) (by omega) (by simp; omega)
  · rw [if_neg (by omega), if_neg (by omega)]

theorem fascineref08_Same_l (a b : List Int) (hl : a.length ≤ 140737488355328) (hab : a.length = b.length) (d : Nat) : ∀ (i k : Nat), i + d = a.length → d + 1 ≤ k → fascineref08_Same.l0 k a b (i : Int) = some (decide (a.drop i = b.drop i)) := by
  induction d with
  | zero =>
    intro i k hi hk
    obtain ⟨k, rfl⟩ : ∃ j, k = j + 1 := ⟨k - 1, by omega⟩
    simp only [fascineref08_Same.l0]
    rw [if_neg (by omega), List.drop_eq_nil_of_le (by omega), List.drop_eq_nil_of_le (by omega)]; simp
  | succ d ih =>
    intro i k hi hk
    obtain ⟨k, rfl⟩ : ∃ j, k = j + 1 := ⟨k - 1, by omega⟩
    obtain ⟨x, t, hx⟩ := drop_cons_of (l := a) (i := i) (by omega)
    obtain ⟨y, u, hy⟩ := drop_cons_of (l := b) (i := i) (by omega)
    simp only [fascineref08_Same.l0]
    rw [if_pos (by omega), if_pos (by omega), if_pos (by omega), rd_cons hx, rd_cons hy, hx, hy]
    by_cases h : x = y
    · rw [if_pos h, show wrap64 ((i : Int) + 1) = ((i + 1 : Nat) : Int) from by rw [w64 (by omega) (by omega)]; omega, ih (i + 1) k (by omega) (by omega), drop_succ_of hx, drop_succ_of hy]
      simp [h]
    · rw [if_neg h]; simp [h]
theorem fascineref08_Same_is {a b : List Int} {k : Nat} (hl : a.length ≤ 140737488355328) (hk : a.length + 1 ≤ k) : fascineref08_Same.f k a b = some (decide (a = b)) := by
  unfold fascineref08_Same.f
  by_cases h : a.length = b.length
  · rw [if_pos (by omega)]
    have := fascineref08_Same_l a b hl h a.length 0 k (by omega) hk
    simpa using this
  · rw [if_neg (by omega)]
    rw [decide_eq_false (fun e => h (by rw [e]))]

theorem decs_len (p : List Int) (hp : By p) (below : Int) (m : Nat) : ∀ (at_ next : Int) (acc : List Int), 0 ≤ at_ → at_ ≤ p.length → ((decs p below m at_ next acc).1.length : Int) ≤ acc.length + ((p.length : Int) - at_) := by
  induction m with
  | zero => intro at_ next acc h0 h1; simp only [decs]; omega
  | succ m ih =>
    intro at_ next acc h0 h1
    rcases hru : readU p at_ with ⟨g, at2, e⟩
    simp only [decs, hru]
    rcases readU_ok hp hru with ⟨rfl, h1, h2, h3, ⟨r, hr⟩, h5, h6⟩ | ⟨rfl, rfl, h⟩
    · have hpos := uv_pos g.toNat
      simp only [if_true]
      split
      · simp; omega
      · have := ih at2 (next + g + 1) (acc ++ [next + g]) (by omega) (by omega)
        simp only [List.length_append, List.length_cons, List.length_nil] at this
        omega
    · rw [if_neg (by omega)]; simp; omega
theorem decU_len {p : List Int} (hp : By p) (at_ below : Int) : ((decU p at_ below).1.length : Int) ≤ p.length := by
  unfold decU
  rcases hru : readU p at_ with ⟨n, at2, e⟩
  simp only
  rcases readU_ok hp hru with ⟨rfl, h1, h2, h3, ⟨r, hr⟩, h5, h6⟩ | ⟨rfl, rfl, h⟩
  · have hpos := uv_pos n.toNat
    simp only [if_true]
    split
    · simp
    · have := decs_len p hp below n.toNat at2 0 [] (by omega) (by omega)
      simp at this ⊢; omega
  · rw [if_neg (by omega)]; simp
theorem PostReads : PostReads_PureU := by
  intro l a b hs hw ha hb
  rw [sumB_one] at hs
  have hp := By.of_wf hw
  have hb := wf_i64 hb
  refine ⟨l.length + 200, ?_⟩
  unfold fascinelaw08_PostReads.f
  have hlen := decU_len hp a b
  rw [fascinelaw08_awake_is (by omega), Option.bind_some, if_pos rfl, post_Decode_is hp (by omega) (by omega) (by omega) (Or.inl (by omega)), Option.bind_some, fascineref08_Decode_is hp (by omega) (by omega) (by omega), Option.bind_some, fascineref08_Same_is (by omega) (by omega), Option.bind_some]
  simp

end Go.Proofs.Ytifbpjkgckkalaa.Pure
