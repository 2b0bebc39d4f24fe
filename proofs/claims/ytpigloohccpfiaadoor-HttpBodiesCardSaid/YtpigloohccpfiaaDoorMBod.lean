/- Plain facts on requests with bodies of any told length. -/
import Derived.Test.YtpigloohccpfiaaDoorMReq
namespace Go.Proofs.YtpigloohccpfiaaDoor.M
open Go.RowKit Go.Lib Go.Proofs.YtpigloohccpfiaaDoor.G Go.Proofs.YtpigloohccpfiaaDoorW.PrintWords Go.Proofs.YtpigloohccpfiaaDoorW.PrintLast Go.Proofs.YtpigloohccpfiaaDoorW.PrintMore
set_option linter.unusedVariables false
set_option linter.unusedSimpArgs false

def boL (n : Nat) : List Tx := [lnPost, lnHost 120, lnLen n]
theorem lineV_hostx : lineV (lnHost 120) = some (hostT, [120]) := by decide +kernel
theorem hd_bo (n : Nat) (h : n < 10000) : hd ((boL n).drop 1) 0 0 0 false = if n > 8192 then (0, 413, false) else (n, 0, false) := by
  have e : (boL n).drop 1 = lnHost 120 :: lnLen n :: [] := rfl
  rw [e, hd_one, lineV_hostx]
  dsimp only
  rw [if_pos rfl, hd_one, line_len]
  dsimp only
  rw [if_neg (by decide), if_pos rfl, lenV_dd n h]
  dsimp only
  rw [hd.eq_1, if_pos ⟨rfl, by omega⟩]
theorem boL_ok (n : Nat) : ∀ l ∈ boL n, (10 : UInt8) ∉ l ∧ l ≠ [] := by
  have hL := reqL_ok n false (lnLen n) (by simp [reqL])
  have h1 : (10 : UInt8) ∉ lnPost ∧ lnPost ≠ [] := by decide
  have h2 : (10 : UInt8) ∉ lnHost 120 ∧ lnHost 120 ≠ [] := by decide
  intro l hl
  simp only [boL, List.mem_cons, List.not_mem_nil, or_false] at hl
  rcases hl with rfl | rfl | rfl
  · exact h1
  · exact h2
  · exact hL
theorem boL_len (n : Nat) (h : n < 10000) : (jl (boL n)).length + 2 ≤ 2048 := by
  have := dd_len 3 n (by simpa using h)
  simp [boL, jl, lnLen, clenN, lnPost, lnHost]; omega
def boH (n : Nat) : Tx := jl (boL n) ++ [13, 10]
theorem boH_len (n : Nat) : (boH n).length = (jl (boL n)).length + 2 := by unfold boH; simp
theorem read_bo (n : Nat) (h : n < 10000) (rest : Tx) : readV (boH n ++ rest) = if n > 8192 then no 413 else if rest.length < n then no 0 else (ba [80, 79, 83, 84], ba [47, 100, 111, 99, 115], ba (rest.take n), false, (((boH n).length + n : Nat) : Int), 0) := by
  have h2 := boL_len n h
  have e : boH n ++ rest = jl (boL n) ++ 13 :: 10 :: rest := by unfold boH; simp
  rw [e, read_whole _ _ (boL_ok n) (by simp [boL]) (by simp [boL]) h2]
  unfold finV
  rw [show (boL n).headD [] = lnPost from rfl, first_post]
  dsimp only
  rw [hd_bo n h]
  have hd' : (jl (boL n) ++ 13 :: 10 :: rest).drop ((jl (boL n)).length + 2) = rest := by
    rw [← List.drop_drop, List.drop_left]; rfl
  unfold fin2
  by_cases hb : n > 8192
  · rw [if_pos hb, if_pos hb]; rfl
  · rw [if_neg hb, if_neg hb, if_neg (by simp), hd', boH_len]
    have e2 : (jl (boL n) ++ 13 :: 10 :: rest).length - ((jl (boL n)).length + 2) = rest.length := by simp only [List.length_append, List.length_cons]; omega
    rw [e2]
end Go.Proofs.YtpigloohccpfiaaDoor.M
