/- On the printed functions of MetaCodes: what each of them answers, in plain words. -/
import Derived.Test.YtkoaeiiaagipeaaPMetaCodesx
import Derived.Test.YtkoaeiiaagipeaaMPack
import Derived.Test.YtkoaeiiaagipeaaQMetaCodes
namespace Go.Proofs.Ytkoaeiiaagipeaa.Pure
open Go.RowKit Go.Proofs.Ytkoaeiiaagipeaa.PMetaCodes Go.Proofs.YtkoaeiiaagipeaaW.PrintWords Go.Proofs.YtkoaeiiaagipeaaW.PrintLast Go.Proofs.YtkoaeiiaagipeaaW.PrintMore Go.Proofs.Ytkoaeiiaagipeaa.M
set_option linter.unusedVariables false
set_option linter.unusedSimpArgs false

theorem pack_Uvarint_l (n : Nat) : ∀ (k : Nat) (acc : List Int), (uv n).length ≤ k → acc.length + (uv n).length ≤ 140737488355328 → pack_Uvarint.l0 k (n : Int) acc = some (acc ++ uv n) := by
  induction n using Nat.strongRecOn with
  | _ n ih =>
    intro k acc hk ha
    obtain ⟨k, rfl⟩ : ∃ m, k = m + 1 := ⟨k - 1, by have := uv_pos n; omega⟩
    by_cases h : n < 128
    · rw [uv_lt h] at ha ⊢
      simp only [List.length_cons, List.length_nil] at ha
      simp only [pack_Uvarint.l0]
      rw [if_neg (by omega), if_pos (by omega), Int.emod_eq_of_lt (by omega) (by omega)]
    · rw [uv_ge h] at hk ha ⊢
      simp only [List.length_cons] at hk ha
      simp only [pack_Uvarint.l0]
      rw [if_pos (by omega), if_pos (by omega), bits_or128 (by omega) (by omega), show ((n : Int) / 128) = ((n / 128 : Nat) : Int) from by omega, ih (n / 128) (by omega) k _ (by omega) (by simp; omega)]
      rw [List.append_assoc, List.cons_append, List.nil_append, show (if (n : Int) % 256 < 128 then (n : Int) % 256 + 128 else (n : Int) % 256) = ((n % 128 + 128 : Nat) : Int) from by split <;> omega]
theorem pack_Uvarint_is {n : Int} {k : Nat} (h0 : 0 ≤ n) (h1 : n < 18446744073709551616) (hk : 10 ≤ k) : pack_Uvarint.f k n = some (uv n.toNat) := by
  obtain ⟨n, rfl⟩ := Int.eq_ofNat_of_zero_le h0
  have := uv_len64 (n := n) (by omega)
  unfold pack_Uvarint.f
  rw [pack_Uvarint_l n k [] (by omega) (by simp; omega)]; simp

theorem fascineref01_Uvarint_l (n : Nat) : ∀ (k : Nat) (acc : List Int), n < 18446744073709551616 → (uv n).length ≤ k → acc.length + (uv n).length ≤ 140737488355328 → fascineref01_Uvarint.l0 k (n : Int) acc = some (acc ++ uv n) := by
  induction n using Nat.strongRecOn with
  | _ n ih =>
    intro k acc hn hk ha
    obtain ⟨k, rfl⟩ : ∃ m, k = m + 1 := ⟨k - 1, by have := uv_pos n; omega⟩
    by_cases h : n < 128
    · rw [uv_lt h] at ha ⊢
      simp only [List.length_cons, List.length_nil] at ha
      simp only [fascineref01_Uvarint.l0]
      rw [if_neg (by omega), if_pos (by omega), Int.emod_eq_of_lt (by omega) (by omega)]
    · rw [uv_ge h] at hk ha ⊢
      simp only [List.length_cons] at hk ha
      simp only [fascineref01_Uvarint.l0]
      rw [if_pos (by omega), if_pos (by omega), Int.tdiv_eq_ediv_of_nonneg (by omega), Int.tmod_eq_emod_of_nonneg (by omega), show ((n : Int) / 128) = ((n / 128 : Nat) : Int) from by omega, wu64 (by omega) (by omega), ih (n / 128) (by omega) k _ (by omega) (by omega) (by simp; omega)]
      rw [List.append_assoc, List.cons_append, List.nil_append, show ((n : Int) % 128 + 128) % 256 = ((n % 128 + 128 : Nat) : Int) from by omega]
theorem fascineref01_Uvarint_is {n : Int} {k : Nat} (h0 : 0 ≤ n) (h1 : n < 18446744073709551616) (hk : 10 ≤ k) : fascineref01_Uvarint.f k n = some (uv n.toNat) := by
  obtain ⟨n, rfl⟩ := Int.eq_ofNat_of_zero_le h0
  have := uv_len64 (n := n) (by omega)
  unfold fascineref01_Uvarint.f
  rw [fascineref01_Uvarint_l n k [] (by omega) (by omega) (by simp; omega)]; simp

theorem pack_ReadUvarint_step (x b : Int) (n i : Nat) (hb : 0 ≤ b ∧ b ≤ 255) (hn : n ≤ 9) (h9 : n = 9 → b ≤ 1) (hx0 : 0 ≤ x) (hx : x < ((2 ^ (7 * n) : Nat) : Int)) :
    Go.bits .or .u64 x (shl .u64 (IntKind.u64.wrap (Go.bits .and .u8 b 127)) ((7 * n : Nat) : Int)) = x + ((2 ^ (7 * n) : Nat) : Int) * (b % 128) ∧ (x + ((2 ^ (7 * n) : Nat) : Int) * (b % 128) < ((2 ^ (7 * n) : Nat) : Int) * 128) := by
  obtain ⟨y, rfl⟩ := Int.eq_ofNat_of_zero_le hx0
  obtain ⟨c, hc⟩ := Int.eq_ofNat_of_zero_le (show 0 ≤ b % 128 by omega)
  have hP : ∀ m : Fin 9, 2 ^ (7 * m.1) * 128 ≤ 9223372036854775808 := by decide
  have hP9 : 2 ^ (7 * 9) * 2 = 18446744073709551616 := by decide
  have hP9' : 2 ^ (7 * 9) = 9223372036854775808 := by decide
  have hy : y < 2 ^ (7 * n) := by omega
  have hm : 2 ^ (7 * n) * c ≤ 2 ^ (7 * n) * 127 := Nat.mul_le_mul_left _ (by omega)
  have hs : y + 2 ^ (7 * n) * c < 2 ^ 64 := by
    rcases Nat.lt_or_ge n 9 with h | h
    · have := hP ⟨n, h⟩; simp only at this; omega
    · have e : n = 9 := by omega
      subst e
      have h1 := h9 rfl
      have : 2 ^ (7 * 9) * c ≤ 2 ^ (7 * 9) * 1 := Nat.mul_le_mul_left _ (by omega)
      omega
  have e := or_u64 y c (7 * n) hy hs
  constructor
  · rw [bits_and127 hb.1 (by omega), hc, wu64 (by omega) (by omega)]
    unfold shl
    rw [show min (((7 * n : Nat) : Int)).toNat (IntKind.u64).bits = 7 * n from by rw [Int.toNat_natCast, show (IntKind.u64).bits = 64 from rfl]; omega]
    rw [show ((c : Int) * 2 ^ (7 * n)) = ((2 ^ (7 * n) * c : Nat) : Int) from by simp [Int.mul_comm], wu64 (by omega) (by omega), e]
    simp
  · rw [hc]
    have : y + 2 ^ (7 * n) * c < 2 ^ (7 * n) * 128 := by omega
    exact_mod_cast this

theorem pack_ReadUvarint_round (p : List Int) (a : Nat) (hp : By p) (hl : p.length ≤ 140737488355328) (m n k : Nat) (x : Int) (hmn : m + n = 9) (hk : 2 * m + 2 ≤ k) (hx0 : 0 ≤ x) (hx : x < ((2 ^ (7 * n) : Nat) : Int))
    (ih : 0 < m → ∀ (k : Nat) (x : Int), 2 * (m - 1) + 2 ≤ k → 0 ≤ x → x < ((2 ^ (7 * (n + 1)) : Nat) : Int) → pack_ReadUvarint.l0 k p (a : Int) x ((a + (n + 1) : Nat) : Int) = some (match ru (p.drop (a + (n + 1))) (n + 1) with | none => (0, 0, 3) | some (v, c) => (x + ((2 ^ (7 * (n + 1)) : Nat) : Int) * (v : Int), ((a + (n + 1) + c : Nat) : Int), 0))) :
    pack_ReadUvarint.l0 k p (a : Int) x ((a + n : Nat) : Int) = some (match ru (p.drop (a + n)) n with | none => (0, 0, 3) | some (v, c) => (x + ((2 ^ (7 * n) : Nat) : Int) * (v : Int), ((a + n + c : Nat) : Int), 0)) := by
  obtain ⟨k, rfl⟩ : ∃ j, k = j + 2 := ⟨k - 2, by omega⟩
  rcases hd : p.drop (a + n) with _ | ⟨b, t⟩
  · have hge : p.length ≤ a + n := List.drop_eq_nil_iff.1 hd
    simp only [pack_ReadUvarint.l0]
    rw [if_neg (by omega)]; simp only [ru]
  · have hlt := lt_of_drop hd
    have hr := rd_cons hd
    have hb : 0 ≤ b ∧ b ≤ 255 := (hp.drop (a + n)) b (by rw [hd]; exact List.mem_cons_self)
    have hs := drop_succ_of hd
    have hw : wrap64 (((a + n : Nat) : Int) - (a : Int)) = (n : Int) := by rw [w64 (by omega) (by omega)]; omega
    simp only [pack_ReadUvarint.l0]
    rw [if_pos (by omega), if_pos (by omega), hw, hr]
    have hall : ∀ (T : Bool → Option (Int × Int × Int)), (if (n : Int) = 9 then (if b > 1 then T true else (if b = 0 then T (decide ((n : Int) > 0)) else T false)) else (if b = 0 then T (decide ((n : Int) > 0)) else T false)) = T (decide (n = 9 ∧ b > 1 ∨ b = 0 ∧ n > 0)) := by
      intro T
      by_cases h1 : n = 9
      · subst h1
        rw [if_pos (by omega)]
        by_cases h2 : b > 1
        · rw [if_pos h2]; congr 1; first | (rw [decide_eq_decide]; omega) | (symm; rw [decide_eq_true_iff]; omega) | (symm; rw [decide_eq_false_iff_not]; omega)
        · rw [if_neg h2]
          by_cases h3 : b = 0
          · rw [if_pos h3]; congr 1; first | (rw [decide_eq_decide]; omega) | (symm; rw [decide_eq_true_iff]; omega) | (symm; rw [decide_eq_false_iff_not]; omega)
          · rw [if_neg h3]; congr 1; first | (rw [decide_eq_decide]; omega) | (symm; rw [decide_eq_true_iff]; omega) | (symm; rw [decide_eq_false_iff_not]; omega)
      · rw [if_neg (by omega)]
        by_cases h3 : b = 0
        · rw [if_pos h3]; congr 1; first | (rw [decide_eq_decide]; omega) | (symm; rw [decide_eq_true_iff]; omega) | (symm; rw [decide_eq_false_iff_not]; omega)
        · rw [if_neg h3]; congr 1; first | (rw [decide_eq_decide]; omega) | (symm; rw [decide_eq_true_iff]; omega) | (symm; rw [decide_eq_false_iff_not]; omega)
    have hall := hall (fun z => pack_ReadUvarint.j2 (k + 1) p (a : Int) x ((a + n : Nat) : Int) (n : Int) b z)
    rw [hall]
    simp only [pack_ReadUvarint.j2, ru, decide_eq_true_eq]
    by_cases hc : n = 9 ∧ b > 1 ∨ b = 0 ∧ n > 0
    · rw [if_pos hc, if_pos hc]
    · rw [if_neg hc, if_neg hc]
      obtain ⟨e1, e2⟩ := pack_ReadUvarint_step x b n 0 hb (by omega) (by omega) hx0 hx
      rw [show wrap64 (7 * (n : Int)) = ((7 * n : Nat) : Int) from by rw [w64 (by omega) (by omega)]; omega, if_pos (by omega), e1]
      rw [show wrap64 (((a + n : Nat) : Int) + 1) = ((a + (n + 1) : Nat) : Int) from by rw [w64 (by omega) (by omega)]; omega]
      by_cases h1 : b < 128
      · rw [if_pos h1, if_pos h1]
        simp only [Option.some.injEq, Prod.mk.injEq, and_true]
        refine ⟨?_, by omega⟩
        rw [show b % 128 = (b.toNat : Int) from by omega]
      · rw [if_neg h1, if_neg h1]
        have hP : (2 ^ (7 * (n + 1)) : Nat) = 2 ^ (7 * n) * 128 := by rw [show 7 * (n + 1) = 7 * n + 7 from by omega, Nat.pow_add]
        have h0 : 0 ≤ ((2 ^ (7 * n) : Nat) : Int) * (b % 128) := Int.mul_nonneg (by omega) (by omega)
        rw [ih (by omega) k _ (by omega) (by omega) (by rw [hP]; simpa using e2), show a + (n + 1) = a + n + 1 from by omega, hs]
        cases hq : ru t (n + 1) with
        | none => rfl
        | some q =>
          obtain ⟨v, c⟩ := q
          simp only [Option.some.injEq, Prod.mk.injEq, and_true]
          refine ⟨?_, by omega⟩
          rw [hP, show b % 128 = (((b - 128).toNat : Nat) : Int) from by omega]
          have hring : ∀ P y w : Int, x + P * y + P * 128 * w = x + P * (y + 128 * w) := fun P y w => by rw [Int.mul_add, Int.mul_assoc, Int.add_assoc]
          push_cast
          exact hring _ _ _

theorem pack_ReadUvarint_l (p : List Int) (a : Nat) (hp : By p) (hl : p.length ≤ 140737488355328) (m : Nat) : ∀ (n k : Nat) (x : Int), m + n = 9 → 2 * m + 2 ≤ k → 0 ≤ x → x < ((2 ^ (7 * n) : Nat) : Int) →
    pack_ReadUvarint.l0 k p (a : Int) x ((a + n : Nat) : Int) = some (match ru (p.drop (a + n)) n with | none => (0, 0, 3) | some (v, c) => (x + ((2 ^ (7 * n) : Nat) : Int) * (v : Int), ((a + n + c : Nat) : Int), 0)) := by
  induction m with
  | zero =>
    intro n k x hmn hk hx0 hx
    exact pack_ReadUvarint_round p a hp hl 0 n k x hmn hk hx0 hx (fun h => by omega)
  | succ m ih =>
    intro n k x hmn hk hx0 hx
    exact pack_ReadUvarint_round p a hp hl (m + 1) n k x hmn hk hx0 hx (fun _ k x hk' hx0 hx => ih (n + 1) k x (by omega) (by omega) hx0 hx)

theorem pack_ReadUvarint_is {p : List Int} {i : Int} {k : Nat} (hp : By p) (hl : p.length ≤ 140737488355328) (hk : 21 ≤ k) : pack_ReadUvarint.f k p i = some (readU p i) := by
  obtain ⟨k, rfl⟩ : ∃ j, k = j + 1 := ⟨k - 1, by omega⟩
  unfold pack_ReadUvarint.f readU
  by_cases h0 : i < 0
  · rw [if_pos h0, if_pos (Or.inl h0)]; simp only [pack_ReadUvarint.j0, if_true]
  · rw [if_neg h0]
    by_cases h1 : i > (p.length : Int)
    · rw [if_pos (Or.inr h1)]; simp only [pack_ReadUvarint.j0, decide_eq_true h1, if_true]
    · obtain ⟨a, rfl⟩ := Int.eq_ofNat_of_zero_le (show 0 ≤ i by omega)
      rw [if_neg (by omega)]
      simp only [pack_ReadUvarint.j0, decide_eq_true_eq]
      rw [if_neg h1]
      have e := pack_ReadUvarint_l p a hp hl 9 0 k 0 (by omega) (by omega) (by omega) (by simp)
      simp only [Nat.add_zero] at e
      rw [e, Int.toNat_natCast]
      cases ru (p.drop a) 0 with
      | none => rfl
      | some q => obtain ⟨v, c⟩ := q; simp

theorem fascinelaw14_awake_40 : fascinelaw14_awake.f 40 = some true := by decide +kernel
theorem fascinelaw14_awake_is {k : Nat} (hk : 40 ≤ k) : fascinelaw14_awake.f k = some true := by
  obtain ⟨d, rfl⟩ := Nat.exists_eq_add_of_le hk
  induction d with
  | zero => exact fascinelaw14_awake_40
  | succ d ih => exact fascinelaw14_awake.mono (40 + d) true (ih (by omega))

def CmdOk (a b c : Int) : Prop := 1 ≤ a ∧ a ≤ 3 ∧ 0 ≤ b ∧ b < 8 ∧ 0 ≤ c ∧ c < 5
instance (a b c : Int) : Decidable (CmdOk a b c) := by unfold CmdOk; infer_instance
def encC (a b c v : Int) : List Int := [a, b, c] ++ uv v.toNat
theorem encC_by {a b c v : Int} (h : CmdOk a b c) : By (encC a b c v) := by
  unfold CmdOk at h
  intro x hx
  rcases List.mem_append.1 hx with h1 | h1
  · simp only [List.mem_cons, List.not_mem_nil, or_false] at h1; omega
  · exact uv_by _ x h1
theorem meta_Encode_is {a b c v : Int} {k : Nat} (hv0 : 0 ≤ v) (hv : v ≤ 18446744073709551615) (hk : 10 ≤ k) : meta_Encode.f k a b c v = some (if CmdOk a b c then (encC a b c v, 0) else ([], 3)) := by
  unfold meta_Encode.f
  have hu := uv_len64 (n := v.toNat) (by omega)
  by_cases h : CmdOk a b c
  · rw [if_pos h]
    obtain ⟨h1, h2, h3, h4, h5, h6⟩ := h
    rw [if_neg (by omega), if_neg (by omega), if_neg (by omega), if_neg (by omega), if_neg (by omega), if_neg (by omega), Option.bind_some, pack_Uvarint_is (by omega) (by omega) (by omega), Option.bind_some, if_pos (by simp; omega), Int.emod_eq_of_lt (by omega) (by omega), Int.emod_eq_of_lt (by omega) (by omega)]
    rfl
  · rw [if_neg h]
    split; · rfl
    split; · rfl
    split; · rfl
    split; · rfl
    split; · rfl
    split; · rfl
    exact absurd ⟨by omega, by omega, by omega, by omega, by omega, by omega⟩ h
theorem fascineref14_Encode_is {a b c v : Int} {k : Nat} (hv0 : 0 ≤ v) (hv : v ≤ 18446744073709551615) (hk : 10 ≤ k) : fascineref14_Encode.f k a b c v = some (if CmdOk a b c then encC a b c v else []) := by
  unfold fascineref14_Encode.f
  have hu := uv_len64 (n := v.toNat) (by omega)
  by_cases h : CmdOk a b c
  · rw [if_pos h]
    obtain ⟨h1, h2, h3, h4, h5, h6⟩ := h
    rw [if_neg (by omega), if_neg (by omega), if_neg (by omega), if_neg (by omega), if_neg (by omega), if_neg (by omega), Option.bind_some, fascineref01_Uvarint_is (by omega) (by omega) (by omega), Option.bind_some, if_pos (by simp; omega), Int.emod_eq_of_lt (by omega) (by omega), Int.emod_eq_of_lt (by omega) (by omega)]
    rfl
  · rw [if_neg h]
    split; · rfl
    split; · rfl
    split; · rfl
    split; · rfl
    split; · rfl
    split; · rfl
    exact absurd ⟨by omega, by omega, by omega, by omega, by omega, by omega⟩ h
def decC (l : List Int) : Int × Int × Int × Int × Int :=
  if l.length < 4 then (0, 0, 0, 0, 3) else
    match readU l 3 with
    | (v, i, e) => if e = 0 ∧ i = (l.length : Int) ∧ CmdOk (rd l 0) (rd l 1) (rd l 2) then (rd l 0, rd l 1, rd l 2, v, 0) else (0, 0, 0, 0, 3)
theorem rd_by {l : List Int} (hl : By l) {i : Nat} (h : i < l.length) : 0 ≤ rd l (i : Int) ∧ rd l (i : Int) ≤ 255 := by
  unfold rd
  rw [Int.toNat_natCast, List.getD_eq_getElem?_getD, List.getElem?_eq_getElem h]
  exact hl _ (List.getElem_mem h)
theorem meta_Decode_is {l : List Int} {k : Nat} (hl : By l) (hn : l.length ≤ 140737488355328) (hk : 30 ≤ k) : meta_Decode.f k l = some (decC l) := by
  obtain ⟨k, rfl⟩ : ∃ j, k = j + 1 := ⟨k - 1, by omega⟩
  unfold meta_Decode.f decC
  by_cases h : l.length < 4
  · rw [if_pos (by omega), if_pos h]
  · have r1 := rd_by hl (i := 1) (by omega)
    have r2 := rd_by hl (i := 2) (by omega)
    rw [show ((1 : Nat) : Int) = 1 from rfl] at r1
    rw [show ((2 : Nat) : Int) = 2 from rfl] at r2
    rw [if_neg (by omega), if_neg h, pack_ReadUvarint_is hl hn (by omega), Option.bind_some, if_pos (by omega), if_pos (by omega), if_pos (by omega), w64 (x := rd l 1) (by omega) (by omega), w64 (x := rd l 2) (by omega) (by omega)]
    rcases hru : readU l 3 with ⟨v, i, e⟩
    simp only
    have hbad : meta_Decode.j0 (k + 1) true (rd l 0) (rd l 1) (rd l 2) v = some (0, 0, 0, 0, 3) := by simp only [meta_Decode.j0, if_true]
    by_cases he : e = 0
    · rw [if_pos he]
      by_cases hi : i = (l.length : Int)
      · rw [show (i != (l.length : Int)) = false from by simp [hi]]
        have hv : 0 ≤ v ∧ v < 18446744073709551616 := by
          rcases readU_ok hl hru with ⟨_, _, g2, g3, _⟩ | ⟨g, _, _⟩
          · exact ⟨g2, g3⟩
          · omega
        simp only [meta_Decode.j0]
        rw [if_neg (by simp), meta_Encode_is (by omega) (by omega) (by omega), Option.bind_some]
        by_cases hc : CmdOk (rd l 0) (rd l 1) (rd l 2)
        · rw [if_pos hc]
          simp only
          rw [if_pos trivial, if_pos ⟨he, hi, hc⟩]
        · rw [if_neg hc]
          simp only
          rw [if_neg (by omega), if_neg (fun z => hc z.2.2)]
      · rw [show (i != (l.length : Int)) = true from by simpa using hi, hbad, if_neg (fun z => hi z.2.1)]
    · rw [if_neg he, hbad, if_neg (fun z => he z.1)]
theorem three_of {l : List Int} (h : 4 ≤ l.length) : l = [rd l 0, rd l 1, rd l 2] ++ l.drop 3 := by
  match l, h with
  | a :: b :: c :: t, _ => rfl
theorem decC_enc {a b c v : Int} (h : CmdOk a b c) (hv0 : 0 ≤ v) (hv : v ≤ 18446744073709551615) : decC (encC a b c v) = (a, b, c, v, 0) := by
  have hup := uv_pos v.toNat
  have hl : (encC a b c v).length = 3 + (uv v.toNat).length := by simp [encC]; omega
  unfold decC
  rw [if_neg (by omega)]
  have e := readU_at (p := encC a b c v) (i := 3) (v := v.toNat) (r := []) (by simp [encC]) (by omega) (by omega)
  rw [show ((3 : Nat) : Int) = 3 from rfl] at e
  rw [e]
  simp only
  have h0 : rd (encC a b c v) 0 = a := rfl
  have h1 : rd (encC a b c v) 1 = b := rfl
  have h2 : rd (encC a b c v) 2 = c := rfl
  rw [h0, h1, h2, if_pos ⟨trivial, by omega, h⟩, Int.toNat_of_nonneg hv0]
theorem decC_ok {l : List Int} (hl : By l) {a b c v e : Int} (h : decC l = (a, b, c, v, e)) : (e = 0 ∧ CmdOk a b c ∧ 0 ≤ v ∧ v ≤ 18446744073709551615 ∧ l = encC a b c v) ∨ (a = 0 ∧ b = 0 ∧ c = 0 ∧ v = 0 ∧ e = 3) := by
  unfold decC at h
  split at h
  · simp only [Prod.mk.injEq] at h
    right; omega
  · rename_i hlen
    rcases hru : readU l 3 with ⟨v', i, e'⟩
    rw [hru] at h
    simp only at h
    split at h
    · rename_i hc
      obtain ⟨he, hi, hc⟩ := hc
      simp only [Prod.mk.injEq] at h
      obtain ⟨rfl, rfl, rfl, rfl, rfl⟩ := h
      left
      rcases readU_ok hl hru with ⟨_, _, g2, g3, ⟨r, hr⟩, g5, _⟩ | ⟨_, _, g⟩
      · have e1 := three_of (l := l) (by omega)
        have hr' : l.drop 3 = uv v'.toNat ++ r := hr
        have hlen2 := congrArg List.length hr'
        simp only [List.length_drop, List.length_append] at hlen2
        have r0 : r = [] := List.eq_nil_of_length_eq_zero (by omega)
        refine ⟨rfl, hc, g2, by omega, ?_⟩
        rw [hr', r0, List.append_nil] at e1
        exact e1
      · omega
    · simp only [Prod.mk.injEq] at h
      right; omega

theorem MetaCodes : MetaCodes_PureS := by
  intro a b c v p ha hb hc hv hsz hp
  have hv := wf_u64 hv
  have hpb := By.of_wf hp.2
  have hpl : p.length ≤ 140737488355328 := by omega
  refine ⟨102, ?_⟩
  have hj1 : fascinelaw14_MetaCodes.j1 101 p = some true := by
    show (meta_Decode.f 100 p).bind _ = _
    rw [meta_Decode_is hpb hpl (by omega), Option.bind_some]
    rcases hd : decC p with ⟨x, y, z, w, e⟩
    simp only
    rcases decC_ok hpb hd with ⟨rfl, hok, h0, h1, hpe⟩ | ⟨rfl, rfl, rfl, rfl, rfl⟩
    · rw [if_pos rfl, fascineref14_Encode_is h0 h1 (by omega), Option.bind_some, if_pos hok, ← hpe, beq_self_eq_true]
    · rfl
  unfold fascinelaw14_MetaCodes.f
  rw [fascinelaw14_awake_is (by omega), Option.bind_some, if_pos rfl, meta_Encode_is hv.1 hv.2 (by omega), Option.bind_some, fascineref14_Encode_is hv.1 hv.2 (by omega), Option.bind_some]
  by_cases hok : CmdOk a b c
  · have hlen : (encC a b c v).length = 3 + (uv v.toNat).length := by simp [encC]; omega
    have hu := uv_len64 (n := v.toNat) (by omega)
    have h1 : (((0 : Int) == 0) != decide (((encC a b c v).length : Int) > 0)) = false := by rw [decide_eq_true (by omega)]; rfl
    rw [if_pos hok, if_pos hok]
    simp only
    rw [if_pos trivial, h1, if_neg (by decide), if_pos trivial]
    simp only [fascinelaw14_MetaCodes.j0]
    rw [if_neg (by decide), if_pos trivial, meta_Decode_is (encC_by hok) (by omega) (by omega), Option.bind_some, decC_enc hok hv.1 hv.2]
    simp only
    rw [if_pos trivial, if_neg (by simp), hj1]
  · rw [if_neg hok, if_neg hok]
    simp only
    rw [if_pos trivial, if_neg (by decide), if_neg (by decide)]
    simp only [fascinelaw14_MetaCodes.j0]
    rw [if_neg (by decide), if_neg (by decide), hj1]

end Go.Proofs.Ytkoaeiiaagipeaa.Pure
