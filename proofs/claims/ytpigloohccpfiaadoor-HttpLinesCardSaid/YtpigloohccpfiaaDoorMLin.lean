/- Plain facts on requests of many lines, or of a long one. -/
import Derived.Test.YtpigloohccpfiaaDoorMReq
namespace Go.Proofs.YtpigloohccpfiaaDoor.M
open Go.RowKit Go.Lib Go.Proofs.YtpigloohccpfiaaDoor.G Go.Proofs.YtpigloohccpfiaaDoorW.PrintWords Go.Proofs.YtpigloohccpfiaaDoorW.PrintLast Go.Proofs.YtpigloohccpfiaaDoorW.PrintMore
set_option linter.unusedVariables false
set_option linter.unusedSimpArgs false

theorem rd_big (p : Tx) (f : Nat) (ls : List Tx) (at_ : Nat) (line rest : Tx) (h : p.drop at_ = line ++ 13 :: 10 :: rest) (hl : (10 : UInt8) ∉ line) (hn : ls.length ≤ 32) (hb : 2048 < at_ + line.length + 2) :
    rdV p (f + 1) ls at_ = no 431 := by
  have hi : ix (p.drop at_) 10 = some (line.length + 1) := by
    rw [h, show line ++ 13 :: 10 :: rest = (line ++ [13]) ++ 10 :: rest by simp, ix_app 10 (line ++ [13]) rest (by simp [hl])]; simp
  rw [rdV, if_neg (by omega), hi]
  dsimp only
  rw [if_pos (by omega)]
theorem rd_many (p : Tx) : ∀ (lns ls : List Tx) (f at_ : Nat) (rest : Tx), p.drop at_ = jl lns ++ rest → (∀ l ∈ lns, (10 : UInt8) ∉ l ∧ l ≠ []) → ls.length + lns.length ≤ 33 → at_ + (jl lns).length ≤ 2048 →
    rdV p (f + lns.length) ls at_ = rdV p f (ls ++ lns) (at_ + (jl lns).length)
  | [], ls, f, at_, rest, h, hl, hn, hb => by simp [jl]
  | l :: r, ls, f, at_, rest, h, hl, hn, hb => by
    simp only [jl, List.length_append, List.length_cons, List.append_assoc, List.cons_append] at h hb hn
    have hll := hl l (by simp)
    rw [List.length_cons, show f + (r.length + 1) = (f + r.length) + 1 by omega, rd_step p _ ls at_ l (jl r ++ rest) h hll.1 (by omega) (by omega), if_neg (fun x => hll.2 x.1)]
    have hd : p.drop (at_ + l.length + 2) = jl r ++ rest := by
      rw [Nat.add_assoc, ← List.drop_drop, h, ← List.drop_drop, List.drop_left]; rfl
    rw [rd_many p r (ls ++ [l]) f (at_ + l.length + 2) rest hd (fun x hx => hl x (by simp [hx])) (by simp; omega) (by omega)]
    congr 1
    · simp
    · simp only [jl, List.length_append, List.length_cons]; omega
theorem rd_full (p : Tx) (f : Nat) (ls : List Tx) (at_ : Nat) (h : 32 < ls.length) : rdV p (f + 1) ls at_ = no 431 := by
  rw [rdV, if_pos h]
theorem jl_app : ∀ a b : List Tx, jl (a ++ b) = jl a ++ jl b
  | [], b => rfl
  | x :: a, b => by simp only [List.cons_append, jl, jl_app a b, List.append_assoc]
def lnGet : Tx := [71, 69, 84, 32, 47, 116, 97, 98, 108, 101, 32, 72, 84, 84, 80, 47, 49, 46, 49]
def lnAb : Tx := [97, 58, 32, 98]
def lnA (l : Nat) : Tx := [97] ++ 58 :: 32 :: List.replicate l 98
theorem first_get : firstV lnGet = some ([71, 69, 84], [47, 116, 97, 98, 108, 101]) := by decide +kernel
theorem lineV_hx : lineV (lnHost 120) = some (hostT, [120]) := by decide +kernel
theorem line_a (l : Nat) : lineV (lnA l) = some ([97], List.replicate l 98) := by
  have hsp : ∀ b ∈ (List.replicate l 98 : Tx), strings_Trim.sp b = false := fun b hb => by
    rw [(List.mem_replicate.1 hb).2]; decide
  have ht : trimV (32 :: List.replicate l 98) = List.replicate l 98 := by
    rw [trimV_eq, List.dropWhile_cons, if_pos (by decide), dw_none _ hsp]
    unfold rt
    rw [dw_none _ (fun b hb => hsp b (List.mem_reverse.1 hb)), List.reverse_reverse]
  have hi : ix (lnA l) 58 = some 1 := ix_app 58 [97] _ (by decide)
  have h1 : (lnA l).take 1 = [97] := rfl
  have h2 : (lnA l).drop (1 + 1) = 32 :: List.replicate l 98 := rfl
  unfold lineV
  rw [hi]
  dsimp only
  rw [h1, h2, ht, if_pos]
  · rw [show ([97] : Tx).map tb = [97] by decide]
  · refine ⟨by decide, List.all_eq_true.2 fun b hb => ?_⟩
    rw [(List.mem_replicate.1 hb).2]; decide
theorem hd_skip (s : Tx) (v : Tx) (h : lineV s = some ([97], v)) (r : List Tx) (n a c : Nat) (cl : Bool) : hd (s :: r) n a c cl = hd r n a c cl := by
  rw [hd_one, h]
  dsimp only
  rw [if_neg (by decide), if_neg (by decide), if_neg (by decide), if_neg (by decide)]
theorem hd_abs : ∀ k : Nat, hd (List.replicate k lnAb) 0 1 0 false = (0, 0, false)
  | 0 => by rw [List.replicate_zero, hd.eq_1, if_pos ⟨rfl, by omega⟩, if_neg (by omega)]
  | k + 1 => by rw [List.replicate_succ, hd_skip lnAb [98] (line_a 1), hd_abs k]
theorem hd_h (r : List Tx) : hd (lnHost 120 :: r) 0 0 0 false = hd r 0 1 0 false := by
  rw [hd_one, lineV_hx]
  dsimp only
  rw [if_pos rfl]
theorem ab_ok : (10 : UInt8) ∉ lnAb ∧ lnAb ≠ [] := by decide
theorem get_ok : (10 : UInt8) ∉ lnGet ∧ lnGet ≠ [] := by decide
theorem hx_ok : (10 : UInt8) ∉ lnHost 120 ∧ lnHost 120 ≠ [] := by decide
theorem a_ok (l : Nat) : (10 : UInt8) ∉ lnA l ∧ lnA l ≠ [] := by
  refine ⟨fun h => ?_, by simp [lnA]⟩
  simp only [lnA, List.cons_append, List.nil_append, List.mem_cons] at h
  rcases h with h | h | h | h
  · exact absurd h (by decide)
  · exact absurd h (by decide)
  · exact absurd h (by decide)
  · exact absurd (List.mem_replicate.1 h).2 (by decide)
def manyL (k : Nat) : List Tx := [lnGet, lnHost 120] ++ List.replicate k lnAb
theorem manyL_ok (k : Nat) : ∀ l ∈ manyL k, (10 : UInt8) ∉ l ∧ l ≠ [] := by
  intro l hl
  rcases List.mem_append.1 hl with h | h
  · simp only [List.mem_cons, List.not_mem_nil, or_false] at h
    rcases h with rfl | rfl
    · exact get_ok
    · exact hx_ok
  · rw [(List.mem_replicate.1 h).2]; exact ab_ok
theorem jl_abs : ∀ k : Nat, (jl (List.replicate k lnAb)).length = 6 * k
  | 0 => rfl
  | k + 1 => by
    rw [List.replicate_succ]
    simp only [jl, List.length_append, List.length_cons, jl_abs k]
    simp [lnAb]; omega
theorem many_len (k : Nat) : (jl (manyL k)).length = 30 + 6 * k := by
  unfold manyL
  rw [jl_app, List.length_append, jl_abs]; rfl
def manyV (k : Nat) : Tx := jl (manyL k)
theorem read_many (k : Nat) (hk : k ≤ 30) : readV (manyV k ++ [13, 10]) = (ba [71, 69, 84], ba [47, 116, 97, 98, 108, 101], ba [], false, (((manyV k).length + 2 : Nat) : Int), 0) := by
  have hl := many_len k
  have e : manyV k ++ [13, 10] = jl (manyL k) ++ 13 :: 10 :: [] := rfl
  rw [e, read_whole _ _ (manyL_ok k) (by simp [manyL]) (by simp [manyL]; omega) (by omega)]
  unfold finV
  rw [show (manyL k).headD [] = lnGet from rfl, first_get]
  dsimp only
  rw [show (manyL k).drop 1 = lnHost 120 :: List.replicate k lnAb from rfl, hd_h, hd_abs]
  unfold fin2
  rw [if_neg (by simp), if_neg (by simp)]
  simp [manyV]
theorem read_toomany (k : Nat) (hk : 30 < k) (hk2 : k < 40) : readV (manyV k ++ [13, 10]) = no 431 := by
  have hl := many_len k
  have hl33 := many_len 31
  have e : manyV k ++ [13, 10] = jl (manyL 31) ++ (jl (List.replicate (k - 31) lnAb) ++ [13, 10]) := by
    unfold manyV
    rw [show manyL k = manyL 31 ++ List.replicate (k - 31) lnAb by unfold manyL; rw [List.append_assoc, List.replicate_append_replicate, show 31 + (k - 31) = k by omega], jl_app, List.append_assoc]
  have hn : (manyL 31).length = 33 := by simp [manyL]
  unfold readV
  have hf : (manyV k ++ [13, 10]).length + 1 = ((manyV k).length + 2 - 33) + 1 + (manyL 31).length := by
    rw [hn, List.length_append]; unfold manyV; simp only [List.length_cons, List.length_nil]; omega
  rw [hf, rd_many _ (manyL 31) [] _ 0 (jl (List.replicate (k - 31) lnAb) ++ [13, 10]) (by rw [List.drop_zero]; exact e) (manyL_ok 31) (by rw [hn]; simp) (by omega)]
  exact rd_full _ _ _ _ (by rw [List.nil_append, hn]; omega)
def longL (l : Nat) : List Tx := [lnGet, lnHost 120, lnA l]
def longV (l : Nat) : Tx := jl (longL l) ++ [13, 10]
theorem longL_ok (l : Nat) : ∀ x ∈ longL l, (10 : UInt8) ∉ x ∧ x ≠ [] := by
  intro x hx
  simp only [longL, List.mem_cons, List.not_mem_nil, or_false] at hx
  rcases hx with rfl | rfl | rfl
  · exact get_ok
  · exact hx_ok
  · exact a_ok l
theorem long_len (l : Nat) : (jl (longL l)).length = 35 + l := by
  simp [longL, jl, lnGet, lnHost, lnA]; omega
theorem longV_len (l : Nat) : (longV l).length = 37 + l := by unfold longV; rw [List.length_append, long_len]; simp; omega
theorem read_long (l : Nat) (h : 37 + l ≤ 2048) : readV (longV l) = (ba [71, 69, 84], ba [47, 116, 97, 98, 108, 101], ba [], false, ((37 + l : Nat) : Int), 0) := by
  have hl := long_len l
  have e : longV l = jl (longL l) ++ 13 :: 10 :: [] := rfl
  rw [e, read_whole _ _ (longL_ok l) (by simp [longL]) (by simp [longL]) (by omega)]
  unfold finV
  rw [show (longL l).headD [] = lnGet from rfl, first_get]
  dsimp only
  rw [show (longL l).drop 1 = lnHost 120 :: [lnA l] from rfl, hd_h, hd_skip _ _ (line_a l), show hd [] 0 1 0 false = (0, 0, false) from hd_abs 0]
  unfold fin2
  rw [if_neg (by simp), if_neg (by simp), hl]
  simp; omega
theorem read_toolong (l : Nat) (h : 2048 < 37 + l) : readV (longV l) = no 431 := by
  have hL := longV_len l
  unfold readV
  have e1 : longV l = jl [lnGet, lnHost 120] ++ (lnA l ++ 13 :: 10 :: [13, 10]) := by simp [longV, longL, jl]
  have h30 : (jl [lnGet, lnHost 120]).length = 30 := rfl
  have hAl : (lnA l).length = 3 + l := by simp [lnA]; omega
  have hd : (longV l).drop 30 = lnA l ++ 13 :: 10 :: [13, 10] := by rw [e1, ← h30, List.drop_left]
  rw [hL, show 37 + l + 1 = (34 + l + 1 + 1) + [lnGet, lnHost 120].length by simp; omega]
  rw [rd_many (longV l) [lnGet, lnHost 120] [] _ 0 (lnA l ++ 13 :: 10 :: [13, 10]) (by rw [List.drop_zero]; exact e1) (fun x hx => longL_ok l x (by simp only [longL]; simp at hx; rcases hx with rfl | rfl <;> simp)) (by simp) (by rw [h30]; omega)]
  rw [h30, Nat.zero_add, List.nil_append]
  by_cases hb : 2048 < 30 + (lnA l).length + 2
  · exact rd_big _ _ _ 30 (lnA l) [13, 10] hd (a_ok l).1 (by simp) hb
  · rw [rd_step _ _ _ 30 (lnA l) [13, 10] hd (a_ok l).1 (by simp) (by omega), if_neg (fun x => (a_ok l).2 x.1)]
    refine rd_big _ _ _ _ [] [] ?_ (by simp) (by simp) (by simp; omega)
    rw [Nat.add_assoc, ← List.drop_drop, hd, ← List.drop_drop, List.drop_left]; rfl
end Go.Proofs.YtpigloohccpfiaaDoor.M
