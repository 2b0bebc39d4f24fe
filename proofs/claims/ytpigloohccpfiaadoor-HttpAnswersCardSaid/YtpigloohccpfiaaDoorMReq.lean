/- Plain facts on requests that are built, and cut. -/
import Derived.Test.YtpigloohccpfiaaDoorMHttp
namespace Go.Proofs.YtpigloohccpfiaaDoor.M
open Go.RowKit Go.Lib Go.Proofs.YtpigloohccpfiaaDoor.G Go.Proofs.YtpigloohccpfiaaDoorW.PrintWords Go.Proofs.YtpigloohccpfiaaDoorW.PrintLast Go.Proofs.YtpigloohccpfiaaDoorW.PrintMore
set_option linter.unusedVariables false
set_option linter.unusedSimpArgs false

theorem ix_app (c : UInt8) : ∀ (a b : Tx), c ∉ a → ix (a ++ c :: b) c = some a.length
  | [], b, _ => by simp [ix]
  | x :: a, b, h => by
    have h1 : x ≠ c := fun e => h (by rw [e]; simp)
    have h2 : c ∉ a := fun e => h (by simp [e])
    rw [List.cons_append, ix, if_neg h1, ix_app c a b h2]; rfl
theorem rd_step (p : Tx) (f : Nat) (ls : List Tx) (at_ : Nat) (line rest : Tx) (h : p.drop at_ = line ++ 13 :: 10 :: rest) (hl : (10 : UInt8) ∉ line) (hn : ls.length ≤ 32) (hb : at_ + line.length + 2 ≤ 2048) :
    rdV p (f + 1) ls at_ = if line = [] ∧ ls ≠ [] then finV p ls (at_ + line.length + 2) else rdV p f (ls ++ [line]) (at_ + line.length + 2) := by
  have hi : ix (p.drop at_) 10 = some (line.length + 1) := by
    rw [h, show line ++ 13 :: 10 :: rest = (line ++ [13]) ++ 10 :: rest by simp, ix_app 10 (line ++ [13]) rest (by simp [hl])]; simp
  have ht : (p.drop at_).take (line.length + 1) = line ++ [13] := by
    rw [h, show line ++ 13 :: 10 :: rest = (line ++ [13]) ++ 10 :: rest by simp, List.take_append_of_le_length (by simp), List.take_of_length_le (by simp)]
  have hc : crV (line ++ [13]) = some line := by unfold crV; simp
  rw [rdV, if_neg (by omega), hi]
  dsimp only
  rw [if_neg (by omega), ht, hc]
  rfl
theorem rd_cut (p : Tx) (f : Nat) (ls : List Tx) (at_ : Nat) (h : (10 : UInt8) ∉ p.drop at_) (hn : ls.length ≤ 32) (hp : p.length ≤ 2048) : rdV p (f + 1) ls at_ = no 0 := by
  rw [rdV, if_neg (by omega), (ix_mem 10 _).2 h]
  dsimp only
  rw [if_neg (by omega)]
/-- lines, each with its end -/
def jl : List Tx → Tx
  | [] => []
  | l :: r => l ++ 13 :: 10 :: jl r
theorem jl_len : ∀ lns : List Tx, lns.length ≤ (jl lns).length
  | [] => by simp
  | l :: r => by
    have := jl_len r
    simp only [jl, List.length_append, List.length_cons]; omega
theorem rd_lines (p : Tx) : ∀ (lns ls : List Tx) (f at_ : Nat) (rest : Tx), p.drop at_ = jl lns ++ 13 :: 10 :: rest → (∀ l ∈ lns, (10 : UInt8) ∉ l ∧ l ≠ []) → (ls ++ lns) ≠ [] → ls.length + lns.length ≤ 32 → at_ + (jl lns).length + 2 ≤ 2048 → lns.length + 1 ≤ f →
    rdV p f ls at_ = finV p (ls ++ lns) (at_ + (jl lns).length + 2)
  | [], ls, f, at_, rest, h, hl, hne, hn, hb, hf => by
    obtain ⟨f, rfl⟩ : ∃ g, f = g + 1 := ⟨f - 1, by omega⟩
    rw [List.append_nil] at hne
    rw [rd_step p f ls at_ [] rest h (by simp) (by simpa using hn) (by simpa [jl] using hb), if_pos ⟨rfl, hne⟩, List.append_nil]; rfl
  | l :: r, ls, f, at_, rest, h, hl, hne, hn, hb, hf => by
    obtain ⟨f, rfl⟩ : ∃ g, f = g + 1 := ⟨f - 1, by omega⟩
    simp only [jl, List.length_append, List.length_cons, List.append_assoc, List.cons_append] at h hb hn hf
    have hll := hl l (by simp)
    rw [rd_step p f ls at_ l (jl r ++ 13 :: 10 :: rest) h hll.1 (by omega) (by omega), if_neg (fun x => hll.2 x.1)]
    have hd : p.drop (at_ + l.length + 2) = jl r ++ 13 :: 10 :: rest := by
      rw [Nat.add_assoc, ← List.drop_drop, h, ← List.drop_drop, List.drop_left]; rfl
    rw [rd_lines p r (ls ++ [l]) f (at_ + l.length + 2) rest hd (fun x hx => hl x (by simp [hx])) (by simp) (by simp; omega) (by omega) (by omega)]
    congr 1
    · simp
    · simp only [jl, List.length_append, List.length_cons]; omega
theorem rd_lines_cut (p : Tx) (hp : p.length ≤ 2048) : ∀ (lns ls : List Tx) (f at_ m : Nat), p.drop at_ = (jl lns ++ [13, 10]).take m → m < (jl lns).length + 2 → (∀ l ∈ lns, (10 : UInt8) ∉ l ∧ l ≠ []) → ls.length + lns.length ≤ 32 → p.length + 1 ≤ f + at_ → at_ ≤ p.length →
    rdV p f ls at_ = no 0
  | [], ls, f, at_, m, h, hm, hl, hn, hf, ha => by
    obtain ⟨f, rfl⟩ : ∃ g, f = g + 1 := ⟨f - 1, by omega⟩
    refine rd_cut p f ls at_ ?_ (by simpa using hn) hp
    rw [h]
    simp only [jl, List.length_nil] at hm
    rcases m with _ | _ | m
    · simp [jl]
    · simp [jl]
    · omega
  | l :: r, ls, f, at_, m, h, hm, hl, hn, hf, ha => by
    obtain ⟨f, rfl⟩ : ∃ g, f = g + 1 := ⟨f - 1, by omega⟩
    have hll := hl l (by simp)
    simp only [jl, List.length_append, List.length_cons, List.append_assoc, List.cons_append] at h hm hn
    by_cases hs : m < l.length + 2
    · refine rd_cut p f ls at_ ?_ (by omega) hp
      rw [h, show l ++ 13 :: 10 :: (jl r ++ [13, 10]) = (l ++ [13]) ++ 10 :: (jl r ++ [13, 10]) by simp, List.take_append_of_le_length (by simp; omega)]
      intro hm'
      have := List.mem_of_mem_take hm'
      simp [hll.1] at this
    · have h' : p.drop at_ = l ++ 13 :: 10 :: (jl r ++ [13, 10]).take (m - (l.length + 2)) := by
        rw [h, show l ++ 13 :: 10 :: (jl r ++ [13, 10]) = (l ++ [13, 10]) ++ (jl r ++ [13, 10]) by simp, List.take_append, List.take_of_length_le (by simp; omega)]
        simp
      have hlen := congrArg List.length h'
      simp only [List.length_drop, List.length_append, List.length_cons] at hlen
      rw [rd_step p f ls at_ l _ h' hll.1 (by omega) (by omega), if_neg (fun x => hll.2 x.1)]
      have hd : p.drop (at_ + l.length + 2) = (jl r ++ [13, 10]).take (m - (l.length + 2)) := by
        rw [Nat.add_assoc, ← List.drop_drop, h', ← List.drop_drop, List.drop_left]; rfl
      exact rd_lines_cut p hp r (ls ++ [l]) f (at_ + l.length + 2) (m - (l.length + 2)) hd (by omega) (fun x hx => hl x (by simp [hx])) (by simp; omega) (by omega) (by omega)
theorem read_whole (lns : List Tx) (rest : Tx) (hl : ∀ l ∈ lns, (10 : UInt8) ∉ l ∧ l ≠ []) (hne : lns ≠ []) (hn : lns.length ≤ 32) (hb : (jl lns).length + 2 ≤ 2048) :
    readV (jl lns ++ 13 :: 10 :: rest) = finV (jl lns ++ 13 :: 10 :: rest) lns ((jl lns).length + 2) := by
  have := jl_len lns
  have h := rd_lines (jl lns ++ 13 :: 10 :: rest) lns [] ((jl lns ++ 13 :: 10 :: rest).length + 1) 0 rest rfl hl (by simpa using hne) (by simpa using hn) (by omega) (by simp; omega)
  unfold readV
  rw [h]; simp
theorem read_cut (lns : List Tx) (m : Nat) (hm : m < (jl lns).length + 2) (hl : ∀ l ∈ lns, (10 : UInt8) ∉ l ∧ l ≠ []) (hn : lns.length ≤ 32) (hb : (jl lns).length + 2 ≤ 2048) :
    readV ((jl lns ++ [13, 10]).take m) = no 0 := by
  unfold readV
  exact rd_lines_cut _ (by rw [List.length_take, List.length_append]; simp; omega) lns [] _ 0 m rfl hm hl (by simpa using hn) (by omega) (by omega)
/-! ### the requests of the laws -/
theorem dw_none : ∀ l : Tx, (∀ b ∈ l, strings_Trim.sp b = false) → l.dropWhile strings_Trim.sp = l
  | [], _ => rfl
  | x :: r, h => by rw [List.dropWhile_cons, if_neg (by rw [h x (by simp)]; simp)]
theorem dd_len : ∀ (k n : Nat), n < 10 ^ (k + 1) → (Lib.decDigits n).length ≤ k + 1
  | 0, n, h => by rw [Lib.decDigits_one (by simpa using h)]; simp
  | k + 1, n, h => by
    by_cases h10 : n < 10
    · rw [Lib.decDigits_one h10]; simp
    · rw [Lib.decDigits, dif_neg h10, List.length_append]
      have := dd_len k (n / 10) (by rw [Nat.pow_succ] at h; omega)
      simp only [List.length_cons, List.length_nil]; omega
theorem dd_mem (n : Nat) (b : UInt8) (h : b ∈ Lib.decDigits n) : 48 ≤ b.toNat ∧ b.toNat ≤ 57 := by
  obtain ⟨i, hi, rfl⟩ := List.mem_iff_getElem.1 h
  obtain ⟨d, hd⟩ := Lib.digit_of_decFrom _ 0 n (dec_digits n).1 i _ (List.getElem?_eq_getElem hi)
  obtain ⟨d1, d2, _⟩ := Lib.digitVal_eq hd
  exact ⟨d1, d2⟩
theorem dd_one (n : Nat) : 1 ≤ (Lib.decDigits n).length := by
  have := (dec_digits n).2.1
  cases h : Lib.decDigits n with
  | nil => exact absurd h this
  | cons a r => simp
theorem lenV_dd (n : Nat) (h : n < 10000) : lenV (Lib.decDigits n) = some n := by
  obtain ⟨h1, h2, h3⟩ := dec_digits n
  have hl := dd_len 3 n (by simpa using h)
  have h0 := dd_one n
  unfold lenV
  rw [if_neg, h1]
  rintro (hc | hc | ⟨hc, hc2⟩)
  · omega
  · omega
  · have := h3 hc2
    subst this
    rw [Lib.decDigits_one (by omega)] at hc
    simp at hc
def lnPost : Tx := [80, 79, 83, 84, 32, 47, 100, 111, 99, 115, 32, 72, 84, 84, 80, 47, 49, 46, 49]
def lnHost (c : UInt8) : Tx := [72, 111, 115, 116, 58, 32, c]
def clenN : Tx := [67, 111, 110, 116, 101, 110, 116, 45, 76, 101, 110, 103, 116, 104]
def lnLen (n : Nat) : Tx := clenN ++ 58 :: 32 :: Lib.decDigits n
def lnClose : Tx := [67, 111, 110, 110, 101, 99, 116, 105, 111, 110, 58, 32, 67, 108, 111, 115, 101]
theorem line_len (n : Nat) : lineV (lnLen n) = some (clenT, Lib.decDigits n) := by
  have hsp : ∀ b ∈ Lib.decDigits n, strings_Trim.sp b = false := fun b hb => by
    have := dd_mem n b hb
    have h1 : b ≠ 32 := fun e => by subst e; exact absurd this.1 (by decide)
    have h2 : b ≠ 9 := fun e => by subst e; exact absurd this.1 (by decide)
    simp [strings_Trim.sp, h1, h2]
  have ht : trimV (32 :: Lib.decDigits n) = Lib.decDigits n := by
    rw [trimV_eq, List.dropWhile_cons, if_pos (by decide), dw_none _ hsp]
    unfold rt
    rw [dw_none _ (fun b hb => hsp b (List.mem_reverse.1 hb)), List.reverse_reverse]
  have hi : ix (lnLen n) 58 = some 14 := ix_app 58 clenN _ (by decide)
  have h1 : (lnLen n).take 14 = clenN := List.take_left' rfl
  have h2 : (lnLen n).drop (14 + 1) = 32 :: Lib.decDigits n := by
    rw [← List.drop_drop, show (lnLen n).drop 14 = 58 :: 32 :: Lib.decDigits n from List.drop_left' rfl]; rfl
  unfold lineV
  rw [hi]
  dsimp only
  rw [h1, h2, ht, if_pos]
  · rw [show clenN.map tb = clenT by decide]
  · refine ⟨by decide, List.all_eq_true.2 fun b hb => ?_⟩
    have := dd_mem n b hb
    simp only [charOk, decide_eq_true_iff]
    omega
def reqL (n : Nat) (last : Bool) : List Tx := [lnPost, lnHost 97, lnLen n] ++ if last then [lnClose] else []
theorem lineV_host : lineV (lnHost 97) = some (hostT, [97]) := by decide +kernel
theorem lineV_close : lineV lnClose = some (connT, [67, 108, 111, 115, 101]) := by decide +kernel
theorem first_post : firstV lnPost = some ([80, 79, 83, 84], [47, 100, 111, 99, 115]) := by decide +kernel
theorem hd_one (s : Tx) (r : List Tx) (n h c : Nat) (cl : Bool) : hd (s :: r) n h c cl = match lineV s with | none => (0, 400, cl) | some (nm, v) => (if nm = hostT then hd r n (h + 1) c cl else if nm = clenT then (match lenV v with | none => (0, 400, cl) | some m => hd r m h (c + 1) cl) else if nm = tencT then (0, 400, cl) else if nm = connT then hd r n h c (cl || decide (v.map tb = closeT)) else hd r n h c cl) := by
  rw [hd.eq_2]; rfl
theorem hd_end (n : Nat) (h : n ≤ 8192) (cl : Bool) : hd [] n 1 1 cl = (n, 0, cl) := by
  rw [hd.eq_1, if_pos ⟨rfl, by omega⟩, if_neg (by omega)]
theorem hd_req (n : Nat) (h : n ≤ 8192) (last : Bool) : hd ((reqL n last).drop 1) 0 0 0 false = (n, 0, last) := by
  have e : (reqL n last).drop 1 = lnHost 97 :: lnLen n :: (if last then [lnClose] else []) := by cases last <;> rfl
  rw [e, hd_one, lineV_host]
  dsimp only
  rw [if_pos rfl, hd_one, line_len]
  dsimp only
  rw [if_neg (by decide), if_pos rfl, lenV_dd n (by omega)]
  dsimp only
  cases last with
  | false => exact hd_end n h false
  | true =>
    rw [if_pos rfl, hd_one, lineV_close]
    dsimp only
    rw [if_neg (by decide), if_neg (by decide), if_neg (by decide), if_pos rfl, show (false || decide (([67, 108, 111, 115, 101] : Tx).map tb = closeT)) = true by decide]
    exact hd_end n h true
theorem reqL_ok (n : Nat) (last : Bool) : ∀ l ∈ reqL n last, (10 : UInt8) ∉ l ∧ l ≠ [] := by
  have hL : (10 : UInt8) ∉ lnLen n ∧ lnLen n ≠ [] := by
    refine ⟨fun h => ?_, by simp [lnLen, clenN]⟩
    rcases List.mem_append.1 h with h | h
    · exact absurd h (by decide)
    · rcases List.mem_cons.1 h with h | h
      · exact absurd h (by decide)
      · rcases List.mem_cons.1 h with h | h
        · exact absurd h (by decide)
        · exact absurd (dd_mem n 10 h).1 (by decide)
  have h1 : (10 : UInt8) ∉ lnPost ∧ lnPost ≠ [] := by decide
  have h2 : (10 : UInt8) ∉ lnHost 97 ∧ lnHost 97 ≠ [] := by decide
  have h3 : (10 : UInt8) ∉ lnClose ∧ lnClose ≠ [] := by decide
  intro l hl
  cases last <;> simp only [reqL, if_true, List.append_nil, List.cons_append, List.nil_append, List.mem_cons, List.not_mem_nil, or_false, Bool.false_eq_true, if_false] at hl
  · rcases hl with rfl | rfl | rfl
    · exact h1
    · exact h2
    · exact hL
  · rcases hl with rfl | rfl | rfl | rfl
    · exact h1
    · exact h2
    · exact hL
    · exact h3
theorem reqL_len (n : Nat) (h : n ≤ 8192) (last : Bool) : (reqL n last).length ≤ 32 ∧ (jl (reqL n last)).length + 2 ≤ 2048 ∧ reqL n last ≠ [] := by
  have := dd_len 3 n (by simp; omega)
  cases last <;> (refine ⟨by simp [reqL], ?_, by simp [reqL]⟩; simp [reqL, jl, lnLen, clenN, lnPost, lnHost, lnClose]; omega)
def reqV (b : Tx) (last : Bool) : Tx := jl (reqL b.length last) ++ 13 :: 10 :: b
theorem reqV_len (b : Tx) (last : Bool) : (reqV b last).length = (jl (reqL b.length last)).length + 2 + b.length := by
  unfold reqV; simp only [List.length_append, List.length_cons]; omega
theorem read_req (b rest : Tx) (last : Bool) (hb : b.length ≤ 8192) : readV (reqV b last ++ rest) = (ba [80, 79, 83, 84], ba [47, 100, 111, 99, 115], ba b, last, ((reqV b last).length : Int), 0) := by
  obtain ⟨h1, h2, h3⟩ := reqL_len b.length hb last
  have e : reqV b last ++ rest = jl (reqL b.length last) ++ 13 :: 10 :: (b ++ rest) := by unfold reqV; simp
  rw [e, read_whole _ _ (reqL_ok _ _) h3 h1 h2]
  unfold finV
  rw [show (reqL b.length last).headD [] = lnPost by cases last <;> rfl, first_post]
  dsimp only
  rw [hd_req _ hb]
  have hd' : (jl (reqL b.length last) ++ 13 :: 10 :: (b ++ rest)).drop ((jl (reqL b.length last)).length + 2) = b ++ rest := by
    rw [← List.drop_drop, List.drop_left]; rfl
  unfold fin2
  rw [if_neg (by simp), if_neg (by simp only [List.length_append, List.length_cons]; omega), hd']
  simp only [List.take_left]
  rw [reqV_len]
theorem read_req_cut (b : Tx) (last : Bool) (hb : b.length ≤ 8192) (k : Nat) (hk : k < (reqV b last).length) : readV ((reqV b last).take k) = no 0 := by
  obtain ⟨h1, h2, h3⟩ := reqL_len b.length hb last
  rw [reqV_len] at hk
  by_cases hc : k < (jl (reqL b.length last)).length + 2
  · have e : (reqV b last).take k = (jl (reqL b.length last) ++ [13, 10]).take k := by
      rw [show reqV b last = (jl (reqL b.length last) ++ [13, 10]) ++ b by unfold reqV; simp, List.take_append_of_le_length (by simp; omega)]
    rw [e]
    exact read_cut _ k hc (reqL_ok _ _) h1 h2
  · have e : (reqV b last).take k = jl (reqL b.length last) ++ 13 :: 10 :: b.take (k - ((jl (reqL b.length last)).length + 2)) := by
      rw [show reqV b last = (jl (reqL b.length last) ++ [13, 10]) ++ b by unfold reqV; simp, List.take_append, List.take_of_length_le (by simp; omega)]
      simp
    rw [e, read_whole _ _ (reqL_ok _ _) h3 h1 h2]
    unfold finV
    rw [show (reqL b.length last).headD [] = lnPost by cases last <;> rfl, first_post]
    dsimp only
    rw [hd_req _ hb]
    unfold fin2
    rw [if_neg (by simp), if_pos (by simp only [List.length_append, List.length_cons, List.length_take]; omega)]
end Go.Proofs.YtpigloohccpfiaaDoor.M
