/- On the printed functions of PostLaws: what each of them answers, in plain words. -/
import Derived.Test.YtifbpjkgckkalaaPPostLawsx
import Derived.Test.YtifbpjkgckkalaaMPost
namespace Go.Proofs.Ytifbpjkgckkalaa.Pure
open Go.RowKit Go.Proofs.Ytifbpjkgckkalaa.PPostLaws Go.Proofs.YtifbpjkgckkalaaW.PrintWords Go.Proofs.YtifbpjkgckkalaaW.PrintLast Go.Proofs.YtifbpjkgckkalaaW.PrintMore Go.Proofs.Ytifbpjkgckkalaa.M
set_option linter.unusedVariables false
set_option linter.unusedSimpArgs false

theorem pack_Uvarint_l (n : Nat) : ∀ (k : Nat) (acc : List Int), (uv n).length ≤ k → acc.length + (uv n).length ≤ 140737488355328 → pack_Uvarint.l0 k (n : Int) acc = some (acc ++ uv n) := by
  induction n using Nat.strongRecOn with
  | _ n ih =>
    intro k acc hk ha
    obtain ⟨k, rfl⟩ : ∃ m, k = m + 1 := ⟨k - 1, by have := uv_pos n; omega⟩
    by_cases h : n < 128
    · rw [uv_lt h] at ha ⊢
      simp only [List.length_cons, List.length_nil] at ha
      simp only [pack_Uvarint.l0]
      rw [if_neg (by omega), if_pos (by omega), Int.emod_eq_of_lt (by omega) (by omega)]
    · rw [uv_ge h] at hk ha ⊢
      simp only [List.length_cons] at hk ha
      simp only [pack_Uvarint.l0]
      rw [if_pos (by omega), if_pos (by omega), bits_or128 (by omega) (by omega), show ((n : Int) / 128) = ((n / 128 : Nat) : Int) from by omega, ih (n / 128) (by omega) k _ (by omega) (by simp; omega)]
      rw [List.append_assoc, List.cons_append, List.nil_append, show (if (n : Int) % 256 < 128 then (n : Int) % 256 + 128 else (n : Int) % 256) = ((n % 128 + 128 : Nat) : Int) from by split <;> omega]
theorem pack_Uvarint_is {n : Int} {k : Nat} (h0 : 0 ≤ n) (h1 : n < 18446744073709551616) (hk : 10 ≤ k) : pack_Uvarint.f k n = some (uv n.toNat) := by
  obtain ⟨n, rfl⟩ := Int.eq_ofNat_of_zero_le h0
  have := uv_len64 (n := n) (by omega)
  unfold pack_Uvarint.f
  rw [pack_Uvarint_l n k [] (by omega) (by simp; omega)]; simp

theorem post_Encode_l (l : List Int) (h64 : I64 l) (hl : l.length ≤ 17592186044416) : ∀ (t : List Int) (i k : Nat) (acc : List Int) (last : Int), l.drop i = t → i ≤ l.length → t.length + 11 ≤ k → -1 ≤ last → last ≤ 9223372036854775807 → (acc.length : Int) ≤ 10 + 4 * i + (last + 1) / 268435456 →
    post_Encode.l0 k acc last l (l.length : Int) (i : Int) = some (if rise last t = true then (acc ++ enc last t, 0) else ([], 3))
  | [], i, k, acc, last, hd, hi, hk, h0, h1, ha => by
    obtain ⟨k, rfl⟩ : ∃ j, k = j + 1 := ⟨k - 1, by omega⟩
    have hge := List.drop_eq_nil_iff.1 hd
    simp only [post_Encode.l0]
    rw [if_neg (by omega)]
    simp [rise, enc]
  | n :: t, i, k, acc, last, hd, hi, hk, h0, h1, ha => by
    obtain ⟨k, rfl⟩ : ∃ j, k = j + 1 := ⟨k - 1, by omega⟩
    have hlt := lt_of_drop hd
    have hr := rd_cons hd
    have hn : -9223372036854775808 ≤ n ∧ n ≤ 9223372036854775807 := h64 n (List.mem_of_mem_drop (i := i) (by rw [hd]; exact List.mem_cons_self))
    simp only [List.length_cons] at hk
    simp only [post_Encode.l0]
    rw [if_pos (by omega), if_pos (by omega), if_pos (by omega), hr]
    by_cases hle : n ≤ last
    · rw [if_pos hle, if_neg (by simp [rise]; omega)]
    · rw [if_neg hle]
      have hw : IntKind.u64.wrap (wrap64 (wrap64 (n - last) - 1)) = n - last - 1 := by rw [wu64_def, wrap64_def, wrap64_def]; omega
      rw [hw, pack_Uvarint_is (by omega) (by omega) (by omega), Option.bind_some]
      have hg := uv_len_gap (g := (n - last - 1).toNat) (by omega)
      rw [if_pos (by omega), show wrap64 ((i : Int) + 1) = ((i + 1 : Nat) : Int) from by rw [w64 (by omega) (by omega)]; omega]
      rw [post_Encode_l l h64 hl t (i + 1) k _ n (drop_succ_of hd) (by omega) (by omega) (by omega) (by omega) (by simp only [List.length_append]; omega)]
      simp only [rise, enc, Bool.and_eq_true, decide_eq_true_eq, List.append_assoc]
      by_cases h2 : rise n t = true
      · rw [if_pos h2, if_pos ⟨by omega, h2⟩]
      · rw [if_neg h2, if_neg (fun h => h2 h.2)]
theorem post_Encode_is {l : List Int} {k : Nat} (h64 : I64 l) (hl : l.length ≤ 17592186044416) (hk : l.length + 11 ≤ k) : post_Encode.f k l = some (if rise (-1) l = true then (uv l.length ++ enc (-1) l, 0) else ([], 3)) := by
  unfold post_Encode.f
  rw [wu64 (by omega) (by omega), pack_Uvarint_is (by omega) (by omega) (by omega), Option.bind_some]
  have := uv_len64 (n := l.length) (by omega)
  exact post_Encode_l l h64 hl l 0 k _ (-1) rfl (by omega) hk (by omega) (by omega) (by simp; omega)

theorem enc_awake : uv 3 ++ enc (-1) [0, 1, 5] = [3, 0, 0, 3] := by
  simp only [enc]
  rw [uv_lt (by omega), uv_lt (by omega), uv_lt (by omega), uv_lt (by omega)]
  rfl
theorem fascinelaw08_awake_is {k : Nat} (hk : 14 ≤ k) : fascinelaw08_awake.f k = some true := by
  unfold fascinelaw08_awake.f
  rw [post_Encode_is (fun x hx => by simp at hx; omega) (by simp) (by simpa using hk), if_pos (by decide)]
  simp only [Option.bind_some, if_true, List.length_cons, List.length_nil, Nat.zero_add, Nat.reduceAdd]
  rw [enc_awake, strOf_list]
  rfl

theorem fascineref08_Rises_l (l : List Int) (hl : l.length ≤ 140737488355328) : ∀ (t : List Int) (i k : Nat) (last : Int), l.drop i = t → t.length + 1 ≤ k → (i = 0 ∧ last = -1 ∨ 0 < i ∧ l[i - 1]? = some last ∧ 0 ≤ last) →
    fascineref08_Rises.l0 k l (i : Int) = some (rise last t)
  | [], i, k, last, hd, hk, h => by
    obtain ⟨k, rfl⟩ : ∃ j, k = j + 1 := ⟨k - 1, by omega⟩
    have hge := List.drop_eq_nil_iff.1 hd
    simp only [fascineref08_Rises.l0]
    rw [if_neg (by omega)]
    rfl
  | n :: t, i, k, last, hd, hk, h => by
    obtain ⟨k, rfl⟩ : ∃ j, k = j + 1 := ⟨k - 1, by omega⟩
    have hlt := lt_of_drop hd
    have hr := rd_cons hd
    have hg : l[i]? = some n := by rw [← List.head?_drop, hd]; rfl
    simp only [List.length_cons] at hk
    simp only [fascineref08_Rises.l0]
    rw [if_pos (by omega), if_pos (by omega), hr]
    by_cases hn : n < 0
    · rw [if_pos hn]; simp [rise]; omega
    · rw [if_neg hn]
      rcases h with ⟨h0, rfl⟩ | ⟨h0, hp, hlast⟩
      · subst h0
        rw [if_neg (by omega), show wrap64 (((0 : Nat) : Int) + 1) = ((0 + 1 : Nat) : Int) from by rw [w64 (by omega) (by omega)]; omega]
        rw [fascineref08_Rises_l l hl t 1 k n (drop_succ_of hd) (by omega) (Or.inr ⟨by omega, hg, by omega⟩)]
        simp [rise]; omega
      · have hw : wrap64 ((i : Int) - 1) = ((i - 1 : Nat) : Int) := by rw [w64 (by omega) (by omega)]; omega
        have hr2 : rd l ((i - 1 : Nat) : Int) = last := by
          unfold rd; rw [Int.toNat_natCast, List.getD_eq_getElem?_getD, hp]; rfl
        rw [if_pos (by omega), hw, if_pos (by omega), if_pos (by omega), hr2]
        by_cases hle : n ≤ last
        · rw [if_pos hle]; simp [rise]; omega
        · rw [if_neg hle, show wrap64 ((i : Int) + 1) = ((i + 1 : Nat) : Int) from by rw [w64 (by omega) (by omega)]; omega]
          rw [fascineref08_Rises_l l hl t (i + 1) k n (drop_succ_of hd) (by omega) (Or.inr ⟨by omega, by simpa using hg, by omega⟩)]
          simp [rise]; omega
theorem fascineref08_Rises_is {l : List Int} {k : Nat} (hl : l.length ≤ 140737488355328) (hk : l.length + 1 ≤ k) : fascineref08_Rises.f k l = some (rise (-1) l) :=
  fascineref08_Rises_l l hl l 0 k (-1) rfl hk (Or.inl ⟨rfl, rfl⟩)

theorem fascineref08_Same_l (a b : List Int) (hl : a.length ≤ 140737488355328) (hab : a.length = b.length) (d : Nat) : ∀ (i k : Nat), i + d = a.length → d + 1 ≤ k → fascineref08_Same.l0 k a b (i : Int) = some (decide (a.drop i = b.drop i)) := by
  induction d with
  | zero =>
    intro i k hi hk
    obtain ⟨k, rfl⟩ : ∃ j, k = j + 1 := ⟨k - 1, by omega⟩
    simp only [fascineref08_Same.l0]
    rw [if_neg (by omega), List.drop_eq_nil_of_le (by omega), List.drop_eq_nil_of_le (by omega)]; simp
  | succ d ih =>
    intro i k hi hk
    obtain ⟨k, rfl⟩ : ∃ j, k = j + 1 := ⟨k - 1, by omega⟩
    obtain ⟨x, t, hx⟩ := drop_cons_of (l := a) (i := i) (by omega)
    obtain ⟨y, u, hy⟩ := drop_cons_of (l := b) (i := i) (by omega)
    simp only [fascineref08_Same.l0]
    rw [if_pos (by omega), if_pos (by omega), if_pos (by omega), rd_cons hx, rd_cons hy, hx, hy]
    by_cases h : x = y
    · rw [if_pos h, show wrap64 ((i : Int) + 1) = ((i + 1 : Nat) : Int) from by rw [w64 (by omega) (by omega)]; omega, ih (i + 1) k (by omega) (by omega), drop_succ_of hx, drop_succ_of hy]
      simp [h]
    · rw [if_neg h]; simp [h]
theorem fascineref08_Same_is {a b : List Int} {k : Nat} (hl : a.length ≤ 140737488355328) (hk : a.length + 1 ≤ k) : fascineref08_Same.f k a b = some (decide (a = b)) := by
  unfold fascineref08_Same.f
  by_cases h : a.length = b.length
  · rw [if_pos (by omega)]
    have := fascineref08_Same_l a b hl h a.length 0 k (by omega) hk
    simpa using this
  · rw [if_neg (by omega)]
    rw [decide_eq_false (fun e => h (by rw [e]))]

theorem post_And_l (a b : List Int) (hla : a.length ≤ 100000) (hlb : b.length ≤ 100000) (d : Nat) : ∀ (i j k : Nat) (acc : List Int), (a.length - i) + (b.length - j) ≤ d → i ≤ a.length → j ≤ b.length → 2 * d + 2 ≤ k → acc.length + d ≤ 1000000 →
    post_And.l0 k a b acc (i : Int) (j : Int) = some (acc ++ andL (a.drop i) (b.drop j)) := by
  induction d with
  | zero =>
    intro i j k acc hd hi hj hk ha
    obtain ⟨k, rfl⟩ : ∃ m, k = m + 2 := ⟨k - 2, by omega⟩
    simp only [post_And.l0]
    rw [if_neg (by omega), List.drop_eq_nil_of_le (by omega)]
    simp [post_And.j1, andL]
  | succ d ih =>
    intro i j k acc hd hi hj hk ha
    obtain ⟨k, rfl⟩ : ∃ m, k = m + 2 := ⟨k - 2, by omega⟩
    simp only [post_And.l0]
    rcases hx : a.drop i with _ | ⟨x, t⟩
    · have := List.drop_eq_nil_iff.1 hx
      rw [if_neg (by omega)]
      simp [post_And.j1, andL]
    · have hlt := lt_of_drop hx
      rw [if_pos (by omega)]
      rcases hy : b.drop j with _ | ⟨y, u⟩
      · have := List.drop_eq_nil_iff.1 hy
        rw [show decide ((j : Int) < (b.length : Int)) = false from by simp; omega]
        simp [post_And.j1, andL]
      · have hlt2 := lt_of_drop hy
        rw [show decide ((j : Int) < (b.length : Int)) = true from by simp; omega]
        simp only [post_And.j1, if_true]
        rw [if_pos (by omega), if_pos (by omega), if_pos (by omega), if_pos (by omega), rd_cons hx, rd_cons hy]
        rw [show wrap64 ((i : Int) + 1) = ((i + 1 : Nat) : Int) from by rw [w64 (by omega) (by omega)]; omega, show wrap64 ((j : Int) + 1) = ((j + 1 : Nat) : Int) from by rw [w64 (by omega) (by omega)]; omega]
        rw [andL]
        by_cases h1 : x < y
        · rw [if_pos h1, if_pos h1, ih (i + 1) j k acc (by omega) (by omega) (by omega) (by omega) (by omega), drop_succ_of hx, hy]
        · rw [if_neg h1, if_neg h1]
          by_cases h2 : x > y
          · rw [if_pos h2, if_pos h2, ih i (j + 1) k acc (by omega) (by omega) (by omega) (by omega) (by omega), drop_succ_of hy, hx]
          · rw [if_neg h2, if_neg h2, if_pos (by omega), ih (i + 1) (j + 1) k _ (by omega) (by omega) (by omega) (by omega) (by simp; omega), drop_succ_of hx, drop_succ_of hy]
            simp
theorem post_And_is {a b : List Int} {k : Nat} (hla : a.length ≤ 100000) (hlb : b.length ≤ 100000) (hk : 2 * (a.length + b.length) + 2 ≤ k) : post_And.f k a b = some (andL a b) := by
  have := post_And_l a b hla hlb (a.length + b.length) 0 0 k [] (by omega) (by omega) (by omega) (by omega) (by simp; omega)
  simpa [post_And.f] using this

theorem post_Or_l (a b : List Int) (hla : a.length ≤ 100000) (hlb : b.length ≤ 100000) (d : Nat) : ∀ (i j k : Nat) (acc : List Int), (a.length - i) + (b.length - j) ≤ d → i ≤ a.length → j ≤ b.length → 3 * d + 3 ≤ k → acc.length + d ≤ 1000000 →
    post_Or.l0 k a b acc (i : Int) (j : Int) = some (acc ++ orL (a.drop i) (b.drop j)) := by
  induction d with
  | zero =>
    intro i j k acc hd hi hj hk ha
    obtain ⟨k, rfl⟩ : ∃ m, k = m + 3 := ⟨k - 3, by omega⟩
    simp only [post_Or.l0]
    rw [if_neg (by omega), List.drop_eq_nil_of_le (by omega), List.drop_eq_nil_of_le (by omega), show decide ((j : Int) < (b.length : Int)) = false from by simp; omega]
    simp [post_Or.j1, orL_nil]
  | succ d ih =>
    intro i j k acc hd hi hj hk ha
    obtain ⟨k, rfl⟩ : ∃ m, k = m + 3 := ⟨k - 3, by omega⟩
    simp only [post_Or.l0]
    rcases hx : a.drop i with _ | ⟨x, t⟩
    · have h0 := List.drop_eq_nil_iff.1 hx
      rw [if_neg (by omega)]
      rcases hy : b.drop j with _ | ⟨y, u⟩
      · have := List.drop_eq_nil_iff.1 hy
        rw [show decide ((j : Int) < (b.length : Int)) = false from by simp; omega]
        simp [post_Or.j1, orL_nil]
      · have hlt2 := lt_of_drop hy
        rw [show decide ((j : Int) < (b.length : Int)) = true from by simp; omega]
        simp only [post_Or.j1, if_true]
        rw [if_neg (by omega), if_neg (by omega)]
        simp only [post_Or.j2]
        rw [if_neg (by simp), if_pos (by omega), if_pos (by omega), if_pos (by omega), if_pos (by omega), rd_cons hy, wsucc (i := j) (by omega)]
        rw [ih i (j + 1) k _ (by omega) (by omega) (by omega) (by omega) (by simp; omega), drop_succ_of hy, hx]
        simp [orL_nil]
    · have hlt := lt_of_drop hx
      rw [if_pos (by omega)]
      simp only [post_Or.j1, if_true]
      rcases hy : b.drop j with _ | ⟨y, u⟩
      · have := List.drop_eq_nil_iff.1 hy
        rw [if_pos (by omega)]
        simp only [post_Or.j2, if_true]
        rw [if_pos (by omega), if_pos (by omega), if_pos (by omega), rd_cons hx, wsucc (i := i) (by omega)]
        rw [ih (i + 1) j k _ (by omega) (by omega) (by omega) (by omega) (by simp; omega), drop_succ_of hx, hy]
        simp [orL_nil']
      · have hlt2 := lt_of_drop hy
        rw [if_neg (by omega), if_pos (by omega), if_pos (by omega), if_pos (by omega), if_pos (by omega), rd_cons hx, rd_cons hy]
        simp only [post_Or.j2, decide_eq_true_eq]
        rw [orL_cons]
        by_cases h1 : x < y
        · rw [if_pos h1, if_pos h1, if_pos (by omega), if_pos (by omega), if_pos (by omega), rd_cons hx, wsucc (i := i) (by omega), ih (i + 1) j k _ (by omega) (by omega) (by omega) (by omega) (by simp; omega), drop_succ_of hx, hy]
          simp
        · rw [if_neg h1, if_neg h1, if_neg (by omega), if_pos (by omega), if_pos (by omega), if_pos (by omega), if_pos (by omega), rd_cons hx, rd_cons hy]
          by_cases h2 : x > y
          · rw [if_pos h2, if_pos h2, if_pos (by omega), wsucc (i := j) (by omega), ih i (j + 1) k _ (by omega) (by omega) (by omega) (by omega) (by simp; omega), drop_succ_of hy, hx]
            simp
          · rw [if_neg h2, if_neg h2, if_pos (by omega), wsucc (i := i) (by omega), wsucc (i := j) (by omega), ih (i + 1) (j + 1) k _ (by omega) (by omega) (by omega) (by omega) (by simp; omega), drop_succ_of hx, drop_succ_of hy]
            simp
theorem post_Or_is {a b : List Int} {k : Nat} (hla : a.length ≤ 100000) (hlb : b.length ≤ 100000) (hk : 3 * (a.length + b.length) + 3 ≤ k) : post_Or.f k a b = some (orL a b) := by
  have := post_Or_l a b hla hlb (a.length + b.length) 0 0 k [] (by omega) (by omega) (by omega) (by omega) (by simp; omega)
  simpa [post_Or.f] using this

theorem post_Less_l (a b : List Int) (hla : a.length ≤ 100000) (hlb : b.length ≤ 100000) (d : Nat) : ∀ (i j k : Nat) (acc : List Int), (a.length - i) + (b.length - j) ≤ d → i ≤ a.length → j ≤ b.length → 2 * d + 2 ≤ k → acc.length + d ≤ 1000000 →
    (post_Less.l0 k b acc (j : Int) a (a.length : Int) (i : Int) = some (acc ++ lessL (a.drop i) (b.drop j))) ∧
    (∀ x t, a.drop i = x :: t → post_Less.l1 k b acc (j : Int) x a (a.length : Int) (i : Int) = some (acc ++ lessL (a.drop i) (b.drop j))) := by
  induction d with
  | zero =>
    intro i j k acc hd hi hj hk ha
    obtain ⟨k, rfl⟩ : ∃ m, k = m + 2 := ⟨k - 2, by omega⟩
    constructor
    · simp only [post_Less.l0]
      rw [if_neg (by omega), List.drop_eq_nil_of_le (by omega)]
      simp [lessL_nil]
    · intro x t hx
      have := lt_of_drop hx
      omega
  | succ d ih =>
    intro i j k acc hd hi hj hk ha
    have key : ∀ k, 2 * d + 3 ≤ k → ∀ x t, a.drop i = x :: t → post_Less.l1 k b acc (j : Int) x a (a.length : Int) (i : Int) = some (acc ++ lessL (a.drop i) (b.drop j)) := by
      intro k hk x t hx
      obtain ⟨k, rfl⟩ : ∃ m, k = m + 1 := ⟨k - 1, by omega⟩
      have hlt := lt_of_drop hx
      simp only [post_Less.l1]
      rcases hy : b.drop j with _ | ⟨y, u⟩
      · have := List.drop_eq_nil_iff.1 hy
        rw [if_neg (by omega), if_pos (by omega), if_pos (by omega), wsucc (i := i) (by omega), (ih (i + 1) j k _ (by omega) (by omega) (by omega) (by omega) (by simp; omega)).1, drop_succ_of hx, hy, hx]
        simp [lessL_nil']
      · have hlt2 := lt_of_drop hy
        rw [if_pos (by omega), if_pos (by omega), rd_cons hy, hx, lessL_cons]
        by_cases h1 : y < x
        · rw [if_pos h1, if_pos h1, wsucc (i := j) (by omega), (ih i (j + 1) k _ (by omega) (by omega) (by omega) (by omega) (by omega)).2 x t hx, drop_succ_of hy, hx]
        · rw [if_neg h1, if_neg h1, if_neg (by omega)]
          by_cases h2 : y = x
          · rw [if_pos h2, if_pos h2, wsucc (i := i) (by omega), (ih (i + 1) j k _ (by omega) (by omega) (by omega) (by omega) (by omega)).1, drop_succ_of hx, hy]
          · rw [if_neg h2, if_neg h2, if_pos (by omega), wsucc (i := i) (by omega), (ih (i + 1) j k _ (by omega) (by omega) (by omega) (by omega) (by simp; omega)).1, drop_succ_of hx, hy]
            simp
    constructor
    · obtain ⟨k, rfl⟩ : ∃ m, k = m + 1 := ⟨k - 1, by omega⟩
      simp only [post_Less.l0]
      rcases hx : a.drop i with _ | ⟨x, t⟩
      · have := List.drop_eq_nil_iff.1 hx
        rw [if_neg (by omega)]
        simp [lessL_nil]
      · have hlt := lt_of_drop hx
        rw [if_pos (by omega), if_pos (by omega), if_pos (by omega), rd_cons hx, ← hx]
        exact key k (by omega) x t hx
    · intro x t hx
      exact key k (by omega) x t hx
theorem post_Less_is {a b : List Int} {k : Nat} (hla : a.length ≤ 100000) (hlb : b.length ≤ 100000) (hk : 2 * (a.length + b.length) + 2 ≤ k) : post_Less.f k a b = some (lessL a b) := by
  have := (post_Less_l a b hla hlb (a.length + b.length) 0 0 k [] (by omega) (by omega) (by omega) (by omega) (by simp; omega)).1
  simpa [post_Less.f] using this

theorem len_andL_le (a b : List Int) : (andL a b).length ≤ a.length := by
  fun_induction andL a b with
  | case1 b => simp
  | case2 x a => simp
  | case3 x a y b h ih => simp only [List.length_cons]; omega
  | case4 x a y b h h' ih => exact ih
  | case5 x a y b h h' ih => simp only [List.length_cons]; omega
theorem len_and_less (a b : List Int) : ∀ {l m : Int}, rise l a = true → rise m b = true → (andL a b).length + (lessL a b).length = a.length := by
  fun_induction andL a b with
  | case1 b => intro l m ha hb; simp [lessL]
  | case2 x a =>
    intro l m ha hb
    have : ∀ a : List Int, (lessL a []).length = a.length := by
      intro a
      induction a with
      | nil => simp [lessL]
      | cons x a ih => simp [lessL, ih]
    rw [this]; simp
  | case3 x a y b h ih =>
    intro l m ha hb
    have := ih (rise_cons.1 ha).2 hb
    rw [lessL, if_neg (by omega), if_neg (by omega)]
    simp only [List.length_cons]; omega
  | case4 x a y b h h' ih =>
    intro l m ha hb
    have := ih ha (rise_cons.1 hb).2
    rw [lessL, if_pos (by omega)]
    exact this
  | case5 x a y b h h' ih =>
    intro l m ha hb
    have e : x = y := by omega
    subst e
    have := ih (rise_cons.1 ha).2 (rise_cons.1 hb).2
    rw [lessL, if_neg (by omega), if_pos rfl]
    have hx : lessL a (x :: b) = lessL a b := by
      apply rise_ext (rise_lessL a (x :: b) (rise_cons.1 ha).2) (rise_lessL a b (rise_cons.1 ha).2)
      intro z
      rw [mem_lessL a (x :: b) (rise_cons.1 ha).2 hb, mem_lessL a b (rise_cons.1 ha).2 (rise_cons.1 hb).2]
      constructor
      · exact fun h => ⟨h.1, fun h1 => h.2 (List.mem_cons_of_mem _ h1)⟩
      · rintro ⟨h1, h2⟩
        refine ⟨h1, fun h3 => ?_⟩
        rcases List.mem_cons.1 h3 with rfl | h3
        · have := rise_lt (rise_cons.1 ha).2 h1; omega
        · exact h2 h3
    rw [hx]
    simp only [List.length_cons]; omega


theorem PostLaws : fascinelaw08_PostLaws.Pure := by
  intro a b c hma hla hwa hmb hlb hwb hmc hlc hwc
  obtain ⟨K, hK⟩ : ∃ K, K = a.length + b.length + c.length + 20000 := ⟨_, rfl⟩
  refine ⟨K + 2, ?_⟩
  unfold fascinelaw08_PostLaws.f
  rw [fascinelaw08_awake_is (by omega), Option.bind_some, if_pos rfl, fascineref08_Rises_is (by omega) (by omega), Option.bind_some, fascineref08_Rises_is (by omega) (by omega), Option.bind_some, fascineref08_Rises_is (by omega) (by omega), Option.bind_some]
  have hj : ∀ z, z = true → fascinelaw08_PostLaws.j0 (K + 2) a b c z = some true := by
    rintro z rfl
    simp only [fascinelaw08_PostLaws.j0, if_true]
    rw [fascinelaw08_awake_is (by omega)]; rfl
  by_cases ha : rise (-1) a = true
  · rw [if_pos ha]
    by_cases hb : rise (-1) b = true
    · rw [if_pos hb]
      by_cases hc : rise (-1) c = true
      · rw [if_pos hc]
        by_cases hl : a.length + b.length + c.length > 300
        · exact hj _ (by rw [w64 (x := (a.length : Int) + (b.length : Int)) (by omega) (by omega), w64 (by omega) (by omega)]; simp; omega)
        · rw [show decide (wrap64 (wrap64 ((a.length : Int) + (b.length : Int)) + (c.length : Int)) > 300) = false from by rw [w64 (x := (a.length : Int) + (b.length : Int)) (by omega) (by omega), w64 (by omega) (by omega)]; simp; omega]
          simp only [fascinelaw08_PostLaws.j0]
          rw [if_neg (by simp)]
          have e1 : andL a b = andL b a := rise_ext (rise_andL a b ha) (rise_andL b a hb) fun z => by rw [mem_andL a b ha hb, mem_andL b a hb ha]; exact And.comm
          have e2 : orL a b = orL b a := rise_ext (rise_orL a b ha hb) (rise_orL b a hb ha) fun z => by rw [mem_orL, mem_orL]; exact Or.comm
          have e3 : orL a a = a := rise_ext (rise_orL a a ha ha) ha fun z => by rw [mem_orL]; simp
          have e4 : andL a a = a := rise_ext (rise_andL a a ha) ha fun z => by rw [mem_andL a a ha ha]; simp
          have e5 : lessL a a = [] := rise_ext (l := -1) (rise_lessL a a ha) rfl fun z => by rw [mem_lessL a a ha ha]; simp
          have e6 : orL (andL a b) (lessL a b) = a := rise_ext (rise_orL _ _ (rise_andL a b ha) (rise_lessL a b ha)) ha fun z => by
            rw [mem_orL, mem_andL a b ha hb, mem_lessL a b ha hb]
            by_cases h : z ∈ b <;> simp [h]
          have rbc := rise_orL b c hb hc
          have e7 : andL a (orL b c) = orL (andL a b) (andL a c) := rise_ext (rise_andL _ _ ha) (rise_orL _ _ (rise_andL a b ha) (rise_andL a c ha)) fun z => by
            rw [mem_andL a _ ha rbc, mem_orL, mem_orL, mem_andL a b ha hb, mem_andL a c ha hc]; exact and_or_left
          have rl := rise_lessL a b ha
          have e8 : lessL a (orL b c) = lessL (lessL a b) c := rise_ext (rise_lessL _ _ ha) (rise_lessL _ _ rl) fun z => by
            rw [mem_lessL a _ ha rbc, mem_orL, mem_lessL _ c rl hc, mem_lessL a b ha hb, not_or, and_assoc]
          have l1 := len_andL_le a b
          have l2 := len_andL_le b a
          have l3 := len_and_or a b
          have l4 := len_and_or b c
          have l5 := len_and_less a b ha hb
          have l6 := len_andL_le a c
          have l7 := len_andL_le a (orL b c)
          have l8 := len_and_less a (orL b c) ha rbc
          have l9 := len_and_or b a
          have qA : ∀ x y : List Int, x.length ≤ 700 → y.length ≤ 700 → post_And.f (K + 1) x y = some (andL x y) := fun x y h1 h2 => post_And_is (by omega) (by omega) (by omega)
          have qO : ∀ x y : List Int, x.length ≤ 700 → y.length ≤ 700 → post_Or.f (K + 1) x y = some (orL x y) := fun x y h1 h2 => post_Or_is (by omega) (by omega) (by omega)
          have qL : ∀ x y : List Int, x.length ≤ 700 → y.length ≤ 700 → post_Less.f (K + 1) x y = some (lessL x y) := fun x y h1 h2 => post_Less_is (by omega) (by omega) (by omega)
          have qS : ∀ x y : List Int, x.length ≤ 700 → x = y → fascineref08_Same.f (K + 1) x y = some true := fun x y h1 h2 => by rw [fascineref08_Same_is (by omega) (by omega), decide_eq_true h2]
          rw [qA a b (by omega) (by omega), qA b a (by omega) (by omega), qO a b (by omega) (by omega), qO b a (by omega) (by omega), qO a a (by omega) (by omega), qA a a (by omega) (by omega), qL a a (by omega) (by omega), qL a b (by omega) (by omega), qO b c (by omega) (by omega), qA a c (by omega) (by omega), e3, e4, e5]
          simp only [Option.bind_some]
          rw [qS (andL a b) (andL b a) (by omega) e1, qS (orL a b) (orL b a) (by omega) e2, qS a a (by omega) rfl, qO (andL a b) (lessL a b) (by omega) (by omega), e6, qA a (orL b c) (by omega) (by omega), qO (andL a b) (andL a c) (by omega) (by omega), qL a (orL b c) (by omega) (by omega), qL (lessL a b) c (by omega) (by omega)]
          simp only [Option.bind_some, if_true]
          rw [qS a a (by omega) rfl, qS _ _ (by omega) e7, qS _ _ (by omega) e8]
          simp
      · rw [if_neg hc]; exact hj _ rfl
    · rw [if_neg hb]; exact hj _ rfl
  · rw [if_neg ha]; exact hj _ rfl

end Go.Proofs.Ytifbpjkgckkalaa.Pure
