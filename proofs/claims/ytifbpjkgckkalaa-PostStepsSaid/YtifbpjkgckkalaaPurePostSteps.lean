/- On the printed functions of PostSteps: what each of them answers, in plain words. -/
import Derived.Test.YtifbpjkgckkalaaPPostStepsx
import Derived.Test.YtifbpjkgckkalaaMPost
namespace Go.Proofs.Ytifbpjkgckkalaa.Pure
open Go.RowKit Go.Proofs.Ytifbpjkgckkalaa.PPostSteps Go.Proofs.YtifbpjkgckkalaaW.PrintWords Go.Proofs.YtifbpjkgckkalaaW.PrintLast Go.Proofs.YtifbpjkgckkalaaW.PrintMore Go.Proofs.Ytifbpjkgckkalaa.M
set_option linter.unusedVariables false
set_option linter.unusedSimpArgs false

theorem pack_Uvarint_l (n : Nat) : ∀ (k : Nat) (acc : List Int), (uv n).length ≤ k → acc.length + (uv n).length ≤ 140737488355328 → pack_Uvarint.l0 k (n : Int) acc = some (acc ++ uv n) := by
  induction n using Nat.strongRecOn with
  | _ n ih =>
    intro k acc hk ha
    obtain ⟨k, rfl⟩ : ∃ m, k = m + 1 := ⟨k - 1, by have := uv_pos n; omega⟩
    by_cases h : n < 128
    · rw [uv_lt h] at ha ⊢
      simp only [List.length_cons, List.length_nil] at ha
      simp only [pack_Uvarint.l0]
      rw [if_neg (by omega), if_pos (by omega), Int.emod_eq_of_lt (by omega) (by omega)]
    · rw [uv_ge h] at hk ha ⊢
      simp only [List.length_cons] at hk ha
      simp only [pack_Uvarint.l0]
      rw [if_pos (by omega), if_pos (by omega), bits_or128 (by omega) (by omega), show ((n : Int) / 128) = ((n / 128 : Nat) : Int) from by omega, ih (n / 128) (by omega) k _ (by omega) (by simp; omega)]
      rw [List.append_assoc, List.cons_append, List.nil_append, show (if (n : Int) % 256 < 128 then (n : Int) % 256 + 128 else (n : Int) % 256) = ((n % 128 + 128 : Nat) : Int) from by split <;> omega]
theorem pack_Uvarint_is {n : Int} {k : Nat} (h0 : 0 ≤ n) (h1 : n < 18446744073709551616) (hk : 10 ≤ k) : pack_Uvarint.f k n = some (uv n.toNat) := by
  obtain ⟨n, rfl⟩ := Int.eq_ofNat_of_zero_le h0
  have := uv_len64 (n := n) (by omega)
  unfold pack_Uvarint.f
  rw [pack_Uvarint_l n k [] (by omega) (by simp; omega)]; simp

theorem pack_ReadUvarint_step (x b : Int) (n i : Nat) (hb : 0 ≤ b ∧ b ≤ 255) (hn : n ≤ 9) (h9 : n = 9 → b ≤ 1) (hx0 : 0 ≤ x) (hx : x < ((2 ^ (7 * n) : Nat) : Int)) :
    Go.bits .or .u64 x (shl .u64 (IntKind.u64.wrap (Go.bits .and .u8 b 127)) ((7 * n : Nat) : Int)) = x + ((2 ^ (7 * n) : Nat) : Int) * (b % 128) ∧ (x + ((2 ^ (7 * n) : Nat) : Int) * (b % 128) < ((2 ^ (7 * n) : Nat) : Int) * 128) := by
  obtain ⟨y, rfl⟩ := Int.eq_ofNat_of_zero_le hx0
  obtain ⟨c, hc⟩ := Int.eq_ofNat_of_zero_le (show 0 ≤ b % 128 by omega)
  have hP : ∀ m : Fin 9, 2 ^ (7 * m.1) * 128 ≤ 9223372036854775808 := by decide
  have hP9 : 2 ^ (7 * 9) * 2 = 18446744073709551616 := by decide
  have hP9' : 2 ^ (7 * 9) = 9223372036854775808 := by decide
  have hy : y < 2 ^ (7 * n) := by omega
  have hm : 2 ^ (7 * n) * c ≤ 2 ^ (7 * n) * 127 := Nat.mul_le_mul_left _ (by omega)
  have hs : y + 2 ^ (7 * n) * c < 2 ^ 64 := by
    rcases Nat.lt_or_ge n 9 with h | h
    · have := hP ⟨n, h⟩; simp only at this; omega
    · have e : n = 9 := by omega
      subst e
      have h1 := h9 rfl
      have : 2 ^ (7 * 9) * c ≤ 2 ^ (7 * 9) * 1 := Nat.mul_le_mul_left _ (by omega)
      omega
  have e := or_u64 y c (7 * n) hy hs
  constructor
  · rw [bits_and127 hb.1 (by omega), hc, wu64 (by omega) (by omega)]
    unfold shl
    rw [show min (((7 * n : Nat) : Int)).toNat (IntKind.u64).bits = 7 * n from by rw [Int.toNat_natCast, show (IntKind.u64).bits = 64 from rfl]; omega]
    rw [show ((c : Int) * 2 ^ (7 * n)) = ((2 ^ (7 * n) * c : Nat) : Int) from by simp [Int.mul_comm], wu64 (by omega) (by omega), e]
    simp
  · rw [hc]
    have : y + 2 ^ (7 * n) * c < 2 ^ (7 * n) * 128 := by omega
    exact_mod_cast this

theorem pack_ReadUvarint_round (p : List Int) (a : Nat) (hp : By p) (hl : p.length ≤ 140737488355328) (m n k : Nat) (x : Int) (hmn : m + n = 9) (hk : 2 * m + 2 ≤ k) (hx0 : 0 ≤ x) (hx : x < ((2 ^ (7 * n) : Nat) : Int))
    (ih : 0 < m → ∀ (k : Nat) (x : Int), 2 * (m - 1) + 2 ≤ k → 0 ≤ x → x < ((2 ^ (7 * (n + 1)) : Nat) : Int) → pack_ReadUvarint.l0 k p (a : Int) x ((a + (n + 1) : Nat) : Int) = some (match ru (p.drop (a + (n + 1))) (n + 1) with | none => (0, 0, 3) | some (v, c) => (x + ((2 ^ (7 * (n + 1)) : Nat) : Int) * (v : Int), ((a + (n + 1) + c : Nat) : Int), 0))) :
    pack_ReadUvarint.l0 k p (a : Int) x ((a + n : Nat) : Int) = some (match ru (p.drop (a + n)) n with | none => (0, 0, 3) | some (v, c) => (x + ((2 ^ (7 * n) : Nat) : Int) * (v : Int), ((a + n + c : Nat) : Int), 0)) := by
  obtain ⟨k, rfl⟩ : ∃ j, k = j + 2 := ⟨k - 2, by omega⟩
  rcases hd : p.drop (a + n) with _ | ⟨b, t⟩
  · have hge : p.length ≤ a + n := List.drop_eq_nil_iff.1 hd
    simp only [pack_ReadUvarint.l0]
    rw [if_neg (by omega)]; simp only [ru]
  · have hlt := lt_of_drop hd
    have hr := rd_cons hd
    have hb : 0 ≤ b ∧ b ≤ 255 := (hp.drop (a + n)) b (by rw [hd]; exact List.mem_cons_self)
    have hs := drop_succ_of hd
    have hw : wrap64 (((a + n : Nat) : Int) - (a : Int)) = (n : Int) := by rw [w64 (by omega) (by omega)]; omega
    simp only [pack_ReadUvarint.l0]
    rw [if_pos (by omega), if_pos (by omega), hw, hr]
    have hall : ∀ (T : Bool → Option (Int × Int × Int)), (if (n : Int) = 9 then (if b > 1 then T true else (if b = 0 then T (decide ((n : Int) > 0)) else T false)) else (if b = 0 then T (decide ((n : Int) > 0)) else T false)) = T (decide (n = 9 ∧ b > 1 ∨ b = 0 ∧ n > 0)) := by
      intro T
      by_cases h1 : n = 9
      · subst h1
        rw [if_pos (by omega)]
        by_cases h2 : b > 1
        · rw [if_pos h2]; congr 1; first | (rw [decide_eq_decide]; omega) | (symm; rw [decide_eq_true_iff]; omega) | (symm; rw [decide_eq_false_iff_not]; omega)
        · rw [if_neg h2]
          by_cases h3 : b = 0
          · rw [if_pos h3]; congr 1; first | (rw [decide_eq_decide]; omega) | (symm; rw [decide_eq_true_iff]; omega) | (symm; rw [decide_eq_false_iff_not]; omega)
          · rw [if_neg h3]; congr 1; first | (rw [decide_eq_decide]; omega) | (symm; rw [decide_eq_true_iff]; omega) | (symm; rw [decide_eq_false_iff_not]; omega)
      · rw [if_neg (by omega)]
        by_cases h3 : b = 0
        · rw [if_pos h3]; congr 1; first | (rw [decide_eq_decide]; omega) | (symm; rw [decide_eq_true_iff]; omega) | (symm; rw [decide_eq_false_iff_not]; omega)
        · rw [if_neg h3]; congr 1; first | (rw [decide_eq_decide]; omega) | (symm; rw [decide_eq_true_iff]; omega) | (symm; rw [decide_eq_false_iff_not]; omega)
    have hall := hall (fun z => pack_ReadUvarint.j2 (k + 1) p (a : Int) x ((a + n : Nat) : Int) (n : Int) b z)
    rw [hall]
    simp only [pack_ReadUvarint.j2, ru, decide_eq_true_eq]
    by_cases hc : n = 9 ∧ b > 1 ∨ b = 0 ∧ n > 0
    · rw [if_pos hc, if_pos hc]
    · rw [if_neg hc, if_neg hc]
      obtain ⟨e1, e2⟩ := pack_ReadUvarint_step x b n 0 hb (by omega) (by omega) hx0 hx
      rw [show wrap64 (7 * (n : Int)) = ((7 * n : Nat) : Int) from by rw [w64 (by omega) (by omega)]; omega, if_pos (by omega), e1]
      rw [show wrap64 (((a + n : Nat) : Int) + 1) = ((a + (n + 1) : Nat) : Int) from by rw [w64 (by omega) (by omega)]; omega]
      by_cases h1 : b < 128
      · rw [if_pos h1, if_pos h1]
        simp only [Option.some.injEq, Prod.mk.injEq, and_true]
        refine ⟨?_, by omega⟩
        rw [show b % 128 = (b.toNat : Int) from by omega]
      · rw [if_neg h1, if_neg h1]
        have hP : (2 ^ (7 * (n + 1)) : Nat) = 2 ^ (7 * n) * 128 := by rw [show 7 * (n + 1) = 7 * n + 7 from by omega, Nat.pow_add]
        have h0 : 0 ≤ ((2 ^ (7 * n) : Nat) : Int) * (b % 128) := Int.mul_nonneg (by omega) (by omega)
        rw [ih (by omega) k _ (by omega) (by omega) (by rw [hP]; simpa using e2), show a + (n + 1) = a + n + 1 from by omega, hs]
        cases hq : ru t (n + 1) with
        | none => rfl
        | some q =>
          obtain ⟨v, c⟩ := q
          simp only [Option.some.injEq, Prod.mk.injEq, and_true]
          refine ⟨?_, by omega⟩
          rw [hP, show b % 128 = (((b - 128).toNat : Nat) : Int) from by omega]
          have hring : ∀ P y w : Int, x + P * y + P * 128 * w = x + P * (y + 128 * w) := fun P y w => by rw [Int.mul_add, Int.mul_assoc, Int.add_assoc]
          push_cast
          exact hring _ _ _

theorem pack_ReadUvarint_l (p : List Int) (a : Nat) (hp : By p) (hl : p.length ≤ 140737488355328) (m : Nat) : ∀ (n k : Nat) (x : Int), m + n = 9 → 2 * m + 2 ≤ k → 0 ≤ x → x < ((2 ^ (7 * n) : Nat) : Int) →
    pack_ReadUvarint.l0 k p (a : Int) x ((a + n : Nat) : Int) = some (match ru (p.drop (a + n)) n with | none => (0, 0, 3) | some (v, c) => (x + ((2 ^ (7 * n) : Nat) : Int) * (v : Int), ((a + n + c : Nat) : Int), 0)) := by
  induction m with
  | zero =>
    intro n k x hmn hk hx0 hx
    exact pack_ReadUvarint_round p a hp hl 0 n k x hmn hk hx0 hx (fun h => by omega)
  | succ m ih =>
    intro n k x hmn hk hx0 hx
    exact pack_ReadUvarint_round p a hp hl (m + 1) n k x hmn hk hx0 hx (fun _ k x hk' hx0 hx => ih (n + 1) k x (by omega) (by omega) hx0 hx)

theorem pack_ReadUvarint_is {p : List Int} {i : Int} {k : Nat} (hp : By p) (hl : p.length ≤ 140737488355328) (hk : 21 ≤ k) : pack_ReadUvarint.f k p i = some (readU p i) := by
  obtain ⟨k, rfl⟩ : ∃ j, k = j + 1 := ⟨k - 1, by omega⟩
  unfold pack_ReadUvarint.f readU
  by_cases h0 : i < 0
  · rw [if_pos h0, if_pos (Or.inl h0)]; simp only [pack_ReadUvarint.j0, if_true]
  · rw [if_neg h0]
    by_cases h1 : i > (p.length : Int)
    · rw [if_pos (Or.inr h1)]; simp only [pack_ReadUvarint.j0, decide_eq_true h1, if_true]
    · obtain ⟨a, rfl⟩ := Int.eq_ofNat_of_zero_le (show 0 ≤ i by omega)
      rw [if_neg (by omega)]
      simp only [pack_ReadUvarint.j0, decide_eq_true_eq]
      rw [if_neg h1]
      have e := pack_ReadUvarint_l p a hp hl 9 0 k 0 (by omega) (by omega) (by omega) (by simp)
      simp only [Nat.add_zero] at e
      rw [e, Int.toNat_natCast]
      cases ru (p.drop a) 0 with
      | none => rfl
      | some q => obtain ⟨v, c⟩ := q; simp

theorem post_Encode_l (l : List Int) (h64 : I64 l) (hl : l.length ≤ 17592186044416) : ∀ (t : List Int) (i k : Nat) (acc : List Int) (last : Int), l.drop i = t → i ≤ l.length → t.length + 11 ≤ k → -1 ≤ last → last ≤ 9223372036854775807 → (acc.length : Int) ≤ 10 + 4 * i + (last + 1) / 268435456 →
    post_Encode.l0 k acc last l (l.length : Int) (i : Int) = some (if rise last t = true then (acc ++ enc last t, 0) else ([], 3))
  | [], i, k, acc, last, hd, hi, hk, h0, h1, ha => by
    obtain ⟨k, rfl⟩ : ∃ j, k = j + 1 := ⟨k - 1, by omega⟩
    have hge := List.drop_eq_nil_iff.1 hd
    simp only [post_Encode.l0]
    rw [if_neg (by omega)]
    simp [rise, enc]
  | n :: t, i, k, acc, last, hd, hi, hk, h0, h1, ha => by
    obtain ⟨k, rfl⟩ : ∃ j, k = j + 1 := ⟨k - 1, by omega⟩
    have hlt := lt_of_drop hd
    have hr := rd_cons hd
    have hn : -9223372036854775808 ≤ n ∧ n ≤ 9223372036854775807 := h64 n (List.mem_of_mem_drop (i := i) (by rw [hd]; exact List.mem_cons_self))
    simp only [List.length_cons] at hk
    simp only [post_Encode.l0]
    rw [if_pos (by omega), if_pos (by omega), if_pos (by omega), hr]
    by_cases hle : n ≤ last
    · rw [if_pos hle, if_neg (by simp [rise]; omega)]
    · rw [if_neg hle]
      have hw : IntKind.u64.wrap (wrap64 (wrap64 (n - last) - 1)) = n - last - 1 := by rw [wu64_def, wrap64_def, wrap64_def]; omega
      rw [hw, pack_Uvarint_is (by omega) (by omega) (by omega), Option.bind_some]
      have hg := uv_len_gap (g := (n - last - 1).toNat) (by omega)
      rw [if_pos (by omega), show wrap64 ((i : Int) + 1) = ((i + 1 : Nat) : Int) from by rw [w64 (by omega) (by omega)]; omega]
      rw [post_Encode_l l h64 hl t (i + 1) k _ n (drop_succ_of hd) (by omega) (by omega) (by omega) (by omega) (by simp only [List.length_append]; omega)]
      simp only [rise, enc, Bool.and_eq_true, decide_eq_true_eq, List.append_assoc]
      by_cases h2 : rise n t = true
      · rw [if_pos h2, if_pos ⟨by omega, h2⟩]
      · rw [if_neg h2, if_neg (fun h => h2 h.2)]
theorem post_Encode_is {l : List Int} {k : Nat} (h64 : I64 l) (hl : l.length ≤ 17592186044416) (hk : l.length + 11 ≤ k) : post_Encode.f k l = some (if rise (-1) l = true then (uv l.length ++ enc (-1) l, 0) else ([], 3)) := by
  unfold post_Encode.f
  rw [wu64 (by omega) (by omega), pack_Uvarint_is (by omega) (by omega) (by omega), Option.bind_some]
  have := uv_len64 (n := l.length) (by omega)
  exact post_Encode_l l h64 hl l 0 k _ (-1) rfl (by omega) hk (by omega) (by omega) (by simp; omega)

theorem enc_awake : uv 3 ++ enc (-1) [0, 1, 5] = [3, 0, 0, 3] := by
  simp only [enc]
  rw [uv_lt (by omega), uv_lt (by omega), uv_lt (by omega), uv_lt (by omega)]
  rfl
theorem fascinelaw08_awake_is {k : Nat} (hk : 14 ≤ k) : fascinelaw08_awake.f k = some true := by
  unfold fascinelaw08_awake.f
  rw [post_Encode_is (fun x hx => by simp at hx; omega) (by simp) (by simpa using hk), if_pos (by decide)]
  simp only [Option.bind_some, if_true, List.length_cons, List.length_nil, Nat.zero_add, Nat.reduceAdd]
  rw [enc_awake, strOf_list]
  rfl

theorem post_Decode_l (p : List Int) (hp : By p) (hl : p.length ≤ 140737488355328) (below : Int) (hb : below ≤ 9223372036854775807) (d : Nat) : ∀ (k m : Nat) (at_ next n i : Int) (acc : List Int), (p.length : Int) - at_ ≤ d → at_ ≤ p.length → 0 ≤ at_ → d + 23 ≤ k → n - i = m → 0 ≤ i → n ≤ 9223372036854775807 → 0 ≤ next → next ≤ below → (acc.length + m ≤ 17592186044416 ∨ acc.length + d < 17592186044416) →
    post_Decode.l0 k p at_ below acc (next - 1) n i = some (decs p below m at_ next acc) := by
  induction d with
  | zero =>
    intro k m at_ next n i acc hd ha0 ha hk hm hi hn h0 hnb hacc
    obtain ⟨k, rfl⟩ : ∃ j, k = j + 1 := ⟨k - 1, by omega⟩
    simp only [post_Decode.l0]
    cases m with
    | zero => rw [if_neg (by omega)]; rfl
    | succ m =>
      rw [if_pos (by omega), pack_ReadUvarint_is hp hl (by omega), Option.bind_some]
      have e : readU p at_ = (0, 0, 3) := by
        unfold readU
        rw [if_neg (by omega), show p.drop at_.toNat = [] from List.drop_eq_nil_of_le (by omega)]; rfl
      simp only [decs, e]
      rw [if_neg (by omega), if_neg (by omega)]
  | succ d ih =>
    intro k m at_ next n i acc hd ha0 ha hk hm hi hn h0 hnb hacc
    obtain ⟨k, rfl⟩ : ∃ j, k = j + 1 := ⟨k - 1, by omega⟩
    simp only [post_Decode.l0]
    cases m with
    | zero => rw [if_neg (by omega)]; rfl
    | succ m =>
      rw [if_pos (by omega), pack_ReadUvarint_is hp hl (by omega), Option.bind_some]
      rcases hru : readU p at_ with ⟨g, at2, e⟩
      simp only [decs, hru]
      rcases readU_ok hp hru with ⟨rfl, h1, h2, h3, ⟨r, hr⟩, h5, h6⟩ | ⟨rfl, rfl, h⟩
      · have hpos := uv_pos g.toNat
        simp only [if_true]
        have hw : IntKind.u64.wrap (wrap64 (wrap64 (below - (next - 1)) - 1)) = below - next := by rw [wu64_def, wrap64_def, wrap64_def]; omega
        rw [hw]
        by_cases hg : g ≥ below - next
        · rw [if_pos hg, if_pos hg]
        · rw [if_neg hg, if_neg hg]
          have hw2 : wrap64 (next - 1 + wrap64 (wrap64 g + 1)) = next + g := by rw [w64 (x := g) (by omega) (by omega), w64 (x := g + 1) (by omega) (by omega), w64 (by omega) (by omega)]; omega
          have hw3 : IntKind.u64.wrap (i + 1) = i + 1 := wu64 (by omega) (by omega)
          rw [hw2, hw3, if_pos (by omega)]
          have := ih k m at2 (next + g + 1) n (i + 1) (acc ++ [next + g]) (by omega) (by omega) (by omega) (by omega) (by omega) (by omega) (by omega) (by omega) (by omega) (by simp only [List.length_append, List.length_cons, List.length_nil]; omega)
          rw [show next + g + 1 - 1 = next + g from by omega] at this
          exact this
      · rw [if_neg (by omega), if_neg (by omega)]
theorem post_Decode_is {p : List Int} {at_ below : Int} {k : Nat} (hp : By p) (hl : p.length ≤ 140737488355328) (hb : below ≤ 9223372036854775807) (hk : p.length + 24 ≤ k) (hs : p.length < 17592186044416 ∨ ∀ g j, readU p at_ = (g, j, 0) → g ≤ 17592186044416) :
    post_Decode.f k p at_ below = some (decU p at_ below) := by
  obtain ⟨k, rfl⟩ : ∃ j, k = j + 1 := ⟨k - 1, by omega⟩
  unfold post_Decode.f decU
  rw [pack_ReadUvarint_is hp hl (by omega), Option.bind_some]
  rcases hru : readU p at_ with ⟨n, at2, e⟩
  simp only
  rcases readU_ok hp hru with ⟨rfl, h1, h2, h3, ⟨r, hr⟩, h5, h6⟩ | ⟨rfl, rfl, h⟩
  · have hpos := uv_pos n.toNat
    simp only [if_true]
    by_cases h0 : below < 0
    · rw [if_pos h0, if_pos (Or.inl h0)]; simp only [post_Decode.j0, if_true]
    · rw [if_neg h0, wu64 (by omega) (by omega)]
      by_cases h4 : n > below
      · rw [if_pos (Or.inr h4)]; simp only [post_Decode.j0, decide_eq_true h4, if_true]
      · rw [if_neg (by omega)]
        simp only [post_Decode.j0, decide_eq_true_eq]
        rw [if_neg h4]
        have := post_Decode_l p hp hl below hb ((p.length : Int) - at2).toNat k n.toNat at2 0 n 0 [] (by omega) (by omega) (by omega) (by omega) (by omega) (by omega) (by omega) (by omega) (by omega) (by
          rcases hs with hs | hs
          · right; simp; omega
          · left; have := hs n at2 hru; simp; omega)
        rw [show (0 : Int) - 1 = -1 from rfl] at this
        exact this
  · rw [if_neg (by omega), if_neg (by omega)]

theorem fascineref08_Same_l (a b : List Int) (hl : a.length ≤ 140737488355328) (hab : a.length = b.length) (d : Nat) : ∀ (i k : Nat), i + d = a.length → d + 1 ≤ k → fascineref08_Same.l0 k a b (i : Int) = some (decide (a.drop i = b.drop i)) := by
  induction d with
  | zero =>
    intro i k hi hk
    obtain ⟨k, rfl⟩ : ∃ j, k = j + 1 := ⟨k - 1, by omega⟩
    simp only [fascineref08_Same.l0]
    rw [if_neg (by omega), List.drop_eq_nil_of_le (by omega), List.drop_eq_nil_of_le (by omega)]; simp
  | succ d ih =>
    intro i k hi hk
    obtain ⟨k, rfl⟩ : ∃ j, k = j + 1 := ⟨k - 1, by omega⟩
    obtain ⟨x, t, hx⟩ := drop_cons_of (l := a) (i := i) (by omega)
    obtain ⟨y, u, hy⟩ := drop_cons_of (l := b) (i := i) (by omega)
    simp only [fascineref08_Same.l0]
    rw [if_pos (by omega), if_pos (by omega), if_pos (by omega), rd_cons hx, rd_cons hy, hx, hy]
    by_cases h : x = y
    · rw [if_pos h, show wrap64 ((i : Int) + 1) = ((i + 1 : Nat) : Int) from by rw [w64 (by omega) (by omega)]; omega, ih (i + 1) k (by omega) (by omega), drop_succ_of hx, drop_succ_of hy]
      simp [h]
    · rw [if_neg h]; simp [h]
theorem fascineref08_Same_is {a b : List Int} {k : Nat} (hl : a.length ≤ 140737488355328) (hk : a.length + 1 ≤ k) : fascineref08_Same.f k a b = some (decide (a = b)) := by
  unfold fascineref08_Same.f
  by_cases h : a.length = b.length
  · rw [if_pos (by omega)]
    have := fascineref08_Same_l a b hl h a.length 0 k (by omega) hk
    simpa using this
  · rw [if_neg (by omega)]
    rw [decide_eq_false (fun e => h (by rw [e]))]

theorem decU_enc {l r : List Int} {below : Int} (hb : below ≤ 9223372036854775807) (hr : rise (-1) l = true) (hx : ∀ x ∈ l, x < below) (h0 : 0 ≤ below) (hl : l.length ≤ 140737488355328) :
    decU (uv l.length ++ enc (-1) l ++ r) 0 below = (l, (((uv l.length).length + (enc (-1) l).length : Nat) : Int), 0) := by
  have hc := rise_count l 0 below (by simpa using hr) hx h0
  unfold decU
  have e := readU_at (p := uv l.length ++ enc (-1) l ++ r) (i := 0) (v := l.length) (r := enc (-1) l ++ r) (by simp) (by omega) (by omega)
  rw [show ((0 : Nat) : Int) = 0 from rfl] at e
  rw [e]
  simp only [if_true]
  rw [if_neg (by omega), Int.toNat_natCast]
  have := decs_enc (uv l.length ++ enc (-1) l ++ r) below hb l (uv l.length).length 0 [] r (by omega) (by rw [List.append_assoc, List.drop_left]; rfl) (by simp) (by simpa using hr) hx
  rw [show (0 : Int) + ((uv l.length).length : Int) = ((uv l.length).length : Int) from by omega, this]
  simp
theorem decU_enc_bad {l r : List Int} {below : Int} (hb : below ≤ 9223372036854775807) (hr : rise (-1) l = true) (h64 : I64 l) (hx : ∃ x ∈ l, below ≤ x) (hl : l.length ≤ 140737488355328) :
    (decU (uv l.length ++ enc (-1) l ++ r) 0 below).2.2 = 6 := by
  unfold decU
  have e := readU_at (p := uv l.length ++ enc (-1) l ++ r) (i := 0) (v := l.length) (r := enc (-1) l ++ r) (by simp) (by omega) (by omega)
  rw [show ((0 : Nat) : Int) = 0 from rfl] at e
  rw [e]
  simp only [if_true]
  split
  · rfl
  · rw [Int.toNat_natCast]
    have := decs_enc_bad (uv l.length ++ enc (-1) l ++ r) below hb l (uv l.length).length 0 [] r (by omega) (by rw [List.append_assoc, List.drop_left]; rfl) (by simp) (by simpa using hr) h64 hx
    rw [show (0 : Int) + ((uv l.length).length : Int) = ((uv l.length).length : Int) from by omega, this]
theorem rise_last {l : List Int} {last top : Int} (hr : rise last l = true) (ht : l[l.length - 1]? = some top) : ∀ x ∈ l, x ≤ top := by
  induction l generalizing last with
  | nil => intro x hx; simp at hx
  | cons n t ih =>
    simp only [rise, Bool.and_eq_true, decide_eq_true_eq] at hr
    intro x hx
    cases t with
    | nil => simp at ht hx; omega
    | cons m t =>
      have h2 := ih hr.2 (by simpa using ht)
      rcases List.mem_cons.1 hx with rfl | hx
      · have := h2 m List.mem_cons_self
        simp only [rise, Bool.and_eq_true, decide_eq_true_eq] at hr
        omega
      · exact h2 x hx


/-- the numbers that the steps give, from one on -/
def stepsFrom : Int → List Int → List Int
  | x, [] => [x]
  | x, s :: t => x :: stepsFrom (x + 1 + s) t
theorem stepsFrom_len : ∀ (t : List Int) (x : Int), (stepsFrom x t).length = t.length + 1
  | [], _ => rfl
  | s :: t, x => by simp [stepsFrom, stepsFrom_len t]
theorem stepsFrom_rise : ∀ (t : List Int) (x : Int), By t → rise (x - 1) (stepsFrom x t) = true
  | [], x, _ => by simp [stepsFrom, rise]; omega
  | s :: t, x, h => by
    have hs := h.head
    have := stepsFrom_rise t (x + 1 + s) h.tail
    simp only [stepsFrom]
    exact rise_cons.2 ⟨by omega, rise_mono (by omega) this⟩
theorem stepsFrom_le : ∀ (t : List Int) (x y : Int), By t → y ∈ stepsFrom x t → x ≤ y ∧ y ≤ x + 256 * t.length
  | [], x, y, _, hy => by simp [stepsFrom] at hy; simp; omega
  | s :: t, x, y, h, hy => by
    have hs := h.head
    simp only [stepsFrom] at hy
    rcases List.mem_cons.1 hy with rfl | hy
    · simp; omega
    · have := stepsFrom_le t _ y h.tail hy
      simp only [List.length_cons]; omega
/-- the loop that makes them -/
theorem PostSteps_l0 (s : List Int) (hs : By s) (hl : s.length ≤ 200) : ∀ (t : List Int) (i k : Nat) (acc : List Int) (x : Int), s.drop i = t → i ≤ s.length → acc.length = i → t.length + 1 ≤ k → 0 ≤ x → x ≤ 65535 + 256 * i →
    ∃ k', k ≤ k' + t.length + 1 ∧ fascinelaw08_PostSteps.l0 k s (acc ++ [x]) (i : Int) = fascinelaw08_PostSteps.l0 (k' + 1) s (acc ++ stepsFrom x t) (s.length : Int)
  | [], i, k, acc, x, hd, hi, ha, hk, h0, h1 => by
    have hge := List.drop_eq_nil_iff.1 hd
    obtain ⟨k, rfl⟩ : ∃ j, k = j + 1 := ⟨k - 1, by omega⟩
    refine ⟨k, by omega, ?_⟩
    rw [show i = s.length from by omega]; rfl
  | g :: t, i, k, acc, x, hd, hi, ha, hk, h0, h1 => by
    obtain ⟨k, rfl⟩ : ∃ j, k = j + 1 := ⟨k - 1, by omega⟩
    have hlt := lt_of_drop hd
    have hg : 0 ≤ g ∧ g ≤ 255 := (hs.drop i) g (by rw [hd]; exact List.mem_cons_self)
    simp only [List.length_cons] at hk
    obtain ⟨k', e1, e2⟩ := PostSteps_l0 s hs hl t (i + 1) k (acc ++ [x]) (x + 1 + g) (drop_succ_of hd) (by omega) (by simp; omega) (by omega) (by omega) (by omega)
    refine ⟨k', by simp only [List.length_cons]; omega, ?_⟩
    rw [show acc ++ stepsFrom x (g :: t) = acc ++ [x] ++ stepsFrom (x + 1 + g) t from by simp [stepsFrom], ← e2]
    simp only [fascinelaw08_PostSteps.l0]
    have hrx : rd (acc ++ [x]) (i : Int) = x := by
      unfold rd; rw [Int.toNat_natCast, List.getD_eq_getElem?_getD, ← ha]; simp
    rw [if_pos (by omega), if_pos (by omega), if_pos (by simp; omega), if_pos (by simp; omega), hrx, rd_cons hd]
    rw [w64 (x := x + 1) (by omega) (by omega), w64 (x := g) (by omega) (by omega), w64 (x := x + 1 + g) (by omega) (by omega), show wrap64 ((i : Int) + 1) = ((i + 1 : Nat) : Int) from by rw [w64 (by omega) (by omega)]; omega]
theorem PostSteps : fascinelaw08_PostSteps.Pure := by
  intro x s hx hm hl hw
  have hs := By.of_wf hw
  have hx := wf_u16 hx
  obtain ⟨K, hK⟩ : ∃ K, K = 20000 := ⟨_, rfl⟩
  refine ⟨K + 2, ?_⟩
  unfold fascinelaw08_PostSteps.f
  rw [fascinelaw08_awake_is (by omega), Option.bind_some, if_pos rfl]
  simp only [fascinelaw08_PostSteps.j0]
  by_cases h200 : (s.length : Int) > 200
  · rw [if_pos (by simpa using h200), fascinelaw08_awake_is (by omega)]; rfl
  · rw [if_neg (by simpa using h200), w64 (by omega) (by omega)]
    obtain ⟨k', e1, e2⟩ := PostSteps_l0 s hs (by omega) s 0 (K + 1) [] x rfl (by omega) rfl (by omega) (by omega) (by omega)
    simp only [List.nil_append] at e2
    rw [show ((0 : Nat) : Int) = 0 from rfl] at e2
    rw [e2]
    obtain ⟨l, hlst⟩ : ∃ l, l = stepsFrom x s := ⟨_, rfl⟩
    have hlen : l.length = s.length + 1 := by rw [hlst, stepsFrom_len]
    have hr0 : rise (x - 1) l = true := by rw [hlst]; exact stepsFrom_rise s x hs
    have hr : rise (-1) l = true := rise_mono (by omega) hr0
    have hle : ∀ y ∈ l, x ≤ y ∧ y ≤ x + 256 * s.length := fun y hy => stepsFrom_le s x y hs (by rw [← hlst]; exact hy)
    have h64 : I64 l := fun y hy => by have := hle y hy; omega
    rw [← hlst]
    obtain ⟨k', rfl⟩ : ∃ j, k' = j + 1 := ⟨k' - 1, by omega⟩
    simp only [fascinelaw08_PostSteps.l0]
    rw [if_neg (by omega), post_Encode_is h64 (by omega) (by omega), Option.bind_some, if_pos hr]
    simp only [if_true, fascinelaw08_PostSteps.j2]
    have hel := enc_len l (-1) (by omega) hr h64
    have hul := uv_len64 (n := l.length) (by omega)
    have hup := uv_pos l.length
    have hpb : By (uv l.length ++ enc (-1) l) := (uv_by _).append (enc_by _ _)
    rw [if_neg (by simp; omega), w64 (x := (l.length : Int) - 1) (by omega) (by omega), if_pos (by omega), if_pos (by omega)]
    obtain ⟨top, ht⟩ : ∃ top, l[l.length - 1]? = some top := ⟨l[l.length - 1], List.getElem?_eq_getElem (by omega)⟩
    have hrd : rd l ((l.length : Int) - 1) = top := by
      rw [show (l.length : Int) - 1 = ((l.length - 1 : Nat) : Int) from by omega]
      unfold rd; rw [Int.toNat_natCast, List.getD_eq_getElem?_getD, ht]; rfl
    have hmem : top ∈ l := List.mem_of_getElem? ht
    have htop := hle top hmem
    have hlast := rise_last hr ht
    have hsum : (enc (-1) l).length ≤ 4 * 201 + 34359738368 := by omega
    have hsmall : (enc (-1) l).length ≤ 2010 := by
      have : ∀ (l : List Int) (last : Int), I64 l → -1 ≤ last → rise last l = true → (enc last l).length ≤ 10 * l.length := by
        intro l
        induction l with
        | nil => intro last _ _ _; simp [enc]
        | cons n t ih =>
          intro last h h0 hr
          have hr := rise_cons.1 hr
          have := ih n h.tail (by omega) hr.2
          have := h.head
          have := uv_len64 (n := (n - last - 1).toNat) (by omega)
          simp only [enc, List.length_append, List.length_cons]; omega
      have := this l (-1) h64 (by omega) hr
      omega
    rw [hrd, w64 (x := top + 1) (by omega) (by omega), post_Decode_is hpb (by simp; omega) (by omega) (by simp; omega) (Or.inl (by simp; omega)), Option.bind_some]
    rw [w64 (by simp; omega) (by simp; omega), if_pos (by simp; omega), if_pos (by simp; omega)]
    rw [post_Decode_is (hpb.take _) (by simp; omega) (by omega) (by simp; omega) (Or.inl (by simp; omega)), Option.bind_some]
    have e1 := decU_enc (l := l) (r := []) (below := top + 1) (by omega) hr (fun y hy => by have := hlast y hy; omega) (by omega) (by omega)
    rw [List.append_nil] at e1
    rw [e1]
    simp only
    rw [if_pos trivial, if_pos (by simp), fascineref08_Same_is (by omega) (by omega), Option.bind_some, if_pos (by simp)]
    have hne : 1 ≤ (enc (-1) l).length := by
      rcases l with _ | ⟨y, t⟩
      · simp at hlen
      · have := uv_pos (y - -1 - 1).toNat
        simp only [enc, List.length_append]; omega
    have hcut : (uv l.length ++ enc (-1) l).take (((uv l.length ++ enc (-1) l).length : Int) - 1).toNat = uv l.length ++ (enc (-1) l).take ((enc (-1) l).length - 1) := by
      rw [show (((uv l.length ++ enc (-1) l).length : Int) - 1).toNat = (uv l.length).length + ((enc (-1) l).length - 1) from by simp only [List.length_append]; omega]
      rw [List.take_length_add_append]
    have e3 : (decU (uv l.length ++ (enc (-1) l).take ((enc (-1) l).length - 1)) 0 (top + 1)).2.2 = 3 := by
      have hpb2 : By (uv l.length ++ (enc (-1) l).take ((enc (-1) l).length - 1)) := (uv_by _).append ((enc_by _ _).take _)
      have hrd0 := readU_at (p := uv l.length ++ (enc (-1) l).take ((enc (-1) l).length - 1)) (i := 0) (v := l.length) (r := (enc (-1) l).take ((enc (-1) l).length - 1)) (by simp) (by omega) (by omega)
      have hc := rise_count l 0 (top + 1) (by simpa using hr) (fun y hy => by have := hlast y hy; omega) (by omega)
      unfold decU
      rw [show ((0 : Nat) : Int) = 0 from rfl] at hrd0
      rw [hrd0]
      simp only [if_true]
      rw [if_neg (by omega), Int.toNat_natCast, show (0 : Int) + ((uv l.length).length : Int) = ((uv l.length).length : Int) from by omega]
      refine decs_enc_short _ (top + 1) (by omega) hpb2 l (uv l.length).length 0 [] (fun h => by rw [h] at hlen; simp at hlen) (by omega) ?_ (by simp) (by simpa using hr) (fun y hy => by have := hlast y hy; omega)
      rw [List.drop_left]; rfl
    rw [hcut, e3]
    rfl

end Go.Proofs.Ytifbpjkgckkalaa.Pure
