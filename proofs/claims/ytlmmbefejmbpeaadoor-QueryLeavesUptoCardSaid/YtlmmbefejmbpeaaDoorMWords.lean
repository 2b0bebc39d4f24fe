/- Plain facts on the words of a text. -/
import Derived.Lib.MapLaws
import Derived.Lib.TrimUEq
import Derived.Lib.TrimAscii
import Derived.Lib.QuoteLoop
import Derived.Shelf.Unicode.DecodeAny
import Derived.Test.YtlmmbefejmbpeaaDoorMArith
namespace Go.Proofs.YtlmmbefejmbpeaaDoor.M
open Go.RowKit Go.Lib Go.Proofs.YtlmmbefejmbpeaaDoorW.PrintWords Go.Proofs.YtlmmbefejmbpeaaDoorW.PrintLast Go.Proofs.YtlmmbefejmbpeaaDoorW.PrintMore
set_option linter.unusedVariables false
set_option linter.unusedSimpArgs false

theorem utf8_encode_one {n : Nat} (h : n < 128) : (Utf8.encode (n : Int)).data.toList = encodeRune (n : Int) := by
  have hv : Utf8.valid (n : Int) = true := by simp [Utf8.valid]; omega
  unfold Utf8.encode encodeRune encodeRuneZ
  simp only [hv, if_true, Int.toNat_natCast]
  rw [if_pos h, if_pos (by omega)]
  simp
theorem utf8_encode_two {n : Nat} (h0 : 128 ≤ n) (h : n < 2048) : (Utf8.encode (n : Int)).data.toList = encodeRune (n : Int) := by
  have hv : Utf8.valid (n : Int) = true := by simp [Utf8.valid]; omega
  unfold Utf8.encode encodeRune encodeRuneZ
  simp only [hv, if_true, Int.toNat_natCast]
  rw [if_neg (by omega), if_pos (by omega), if_neg (by omega), if_pos (by omega)]
  have e1 : (192 + (n : Int) / 64).toNat = 192 + n / 64 := by omega
  have e2 : (128 + (n : Int) % 64).toNat = 128 + n % 64 := by omega
  simp [e1, e2]
theorem utf8_encode_three {n : Nat} (h0 : 2048 ≤ n) (h : n < 65536) (hs : n < 55296 ∨ 57344 ≤ n) : (Utf8.encode (n : Int)).data.toList = encodeRune (n : Int) := by
  have hv : Utf8.valid (n : Int) = true := by simp [Utf8.valid]; omega
  unfold Utf8.encode encodeRune encodeRuneZ
  simp only [hv, if_true, Int.toNat_natCast]
  rw [if_neg (by omega), if_neg (by omega), if_pos (by omega), if_neg (by omega), if_neg (by omega), if_pos (by omega)]
  have e1 : (224 + (n : Int) / 4096).toNat = 224 + n / 4096 := by omega
  have e2 : (128 + (n : Int) / 64 % 64).toNat = 128 + n / 64 % 64 := by omega
  have e3 : (128 + (n : Int) % 64).toNat = 128 + n % 64 := by omega
  simp [e1, e2, e3]
theorem utf8_encode_four {n : Nat} (h0 : 65536 ≤ n) (h : n ≤ 1114111) : (Utf8.encode (n : Int)).data.toList = encodeRune (n : Int) := by
  have hv : Utf8.valid (n : Int) = true := by simp [Utf8.valid]; omega
  unfold Utf8.encode encodeRune encodeRuneZ
  simp only [hv, if_true, Int.toNat_natCast]
  rw [if_neg (by omega), if_neg (by omega), if_neg (by omega), if_neg (by omega), if_neg (by omega), if_neg (by omega), if_pos (by omega)]
  have e1 : (240 + (n : Int) / 262144).toNat = 240 + n / 262144 := by omega
  have e2 : (128 + (n : Int) / 4096 % 64).toNat = 128 + n / 4096 % 64 := by omega
  have e3 : (128 + (n : Int) / 64 % 64).toNat = 128 + n / 64 % 64 := by omega
  have e4 : (128 + (n : Int) % 64).toNat = 128 + n % 64 := by omega
  simp [e1, e2, e3, e4]
theorem utf8_encode_eq {n : Nat} (h : n ≤ 1114111) (hs : n < 55296 ∨ 57344 ≤ n) : (Utf8.encode (n : Int)).data.toList = encodeRune (n : Int) := by
  by_cases h1 : n < 128
  · exact utf8_encode_one h1
  by_cases h2 : n < 2048
  · exact utf8_encode_two (by omega) h2
  by_cases h3 : n < 65536
  · exact utf8_encode_three (by omega) h3 hs
  · exact utf8_encode_four (by omega) h

/-- The text of a letter of seven bits; empty: none. -/
def low (b : UInt8) : List UInt8 :=
  if 65 ≤ b.toNat ∧ b.toNat ≤ 90 then [UInt8.ofNat (b.toNat + 32)] else if (97 ≤ b.toNat ∧ b.toNat ≤ 122) ∨ (48 ≤ b.toNat ∧ b.toNat ≤ 57) then [b] else []
abbrev Tok := List UInt8 × Nat
/-- The first character: its text as a letter (empty: it is none), and its bytes. -/
def tok (l : List UInt8) : Tok :=
  match l with
  | [] => ([], 1)
  | b :: t => if b.toNat < 128 then (low b, 1)
    else if (decodeL (b :: t)).1 = 65533 ∧ (decodeL (b :: t)).2 = 1 then ([], 1) else ((b :: t).take (decodeL (b :: t)).2, (decodeL (b :: t)).2)
def toksF : Nat → List UInt8 → List Tok
  | 0, _ => []
  | _ + 1, [] => []
  | f + 1, b :: t => tok (b :: t) :: toksF f ((b :: t).drop (tok (b :: t)).2)
def toks (l : List UInt8) : List Tok := toksF l.length l

theorem tok_pos (l : List UInt8) : 1 ≤ (tok l).2 := by
  unfold tok
  split
  · exact Nat.le_refl _
  · split
    · exact Nat.le_refl _
    · split
      · exact Nat.le_refl _
      · exact decodeL_width _
theorem tok_le (l : List UInt8) (h : l ≠ []) : (tok l).2 ≤ l.length := by
  unfold tok
  split
  · exact absurd rfl h
  · split
    · simp
    · split
      · simp
      · exact decodeL_le _ (by simp)
theorem decodeL_le4 (l : List UInt8) : (decodeL l).2 ≤ 4 := by
  rw [decodeL_N]
  rcases decodeN_shape l.length (l.getD 0 0).toNat (l.getD 1 0).toNat (l.getD 2 0).toNat (l.getD 3 0).toNat with ⟨_, e⟩ | ⟨_, _, _, _, e⟩ | ⟨_, _, _, _, _, _, e⟩ | ⟨_, _, _, _, _, _, _, e⟩ | e <;> rw [e] <;> simp
theorem tok_le4 (l : List UInt8) : (tok l).2 ≤ 4 := by
  unfold tok
  split
  · decide
  · split
    · show 1 ≤ 4; decide
    · split
      · show 1 ≤ 4; decide
      · exact decodeL_le4 _
theorem low_len (b : UInt8) : (low b) = [] ∨ (low b).length = 1 := by
  unfold low
  split
  · exact .inr rfl
  · split
    · exact .inr rfl
    · exact .inl rfl
/-- A letter has as many bytes as its text. -/
theorem tok_len (l : List UInt8) (h : (tok l).1 ≠ []) : (tok l).1.length = (tok l).2 := by
  unfold tok at h ⊢
  split
  · exact absurd rfl h
  · rename_i b t
    split
    · rename_i hb
      simp only [hb, if_true] at h
      rcases low_len b with h2 | h2
      · exact absurd h2 h
      · exact h2
    · split
      · rename_i hb hd
        simp only [hb, hd, if_false, if_true, and_self] at h
        exact absurd rfl h
      · rw [List.length_take]
        have := decodeL_le (b :: t) (by simp)
        omega
theorem toksF_eq : ∀ (f g : Nat) (l : List UInt8), l.length ≤ f → l.length ≤ g → toksF f l = toksF g l
  | 0, 0, _, _, _ => rfl
  | 0, g + 1, [], _, _ => rfl
  | f + 1, 0, [], _, _ => rfl
  | f + 1, g + 1, [], _, _ => rfl
  | 0, _ + 1, b :: t, h, _ => absurd h (by simp)
  | _ + 1, 0, b :: t, _, h => absurd h (by simp)
  | f + 1, g + 1, b :: t, hf, hg => by
    have := tok_pos (b :: t)
    have h1 : (b :: t).length = t.length + 1 := rfl
    simp only [toksF]
    rw [toksF_eq f g _ (by rw [List.length_drop]; omega) (by rw [List.length_drop]; omega)]

/-- A word: its text, where it begins, where it ends. -/
structure Wd where
  text : List UInt8
  st : Nat
  en : Nat
/-- The words of a row of characters from place i on, the one at hand being 'cur'. -/
def gw : List Tok → Nat → Option Wd → List Wd
  | [], _, cur => cur.toList
  | t :: r, i, cur =>
    if t.1 = [] then cur.toList ++ gw r (i + t.2) none
    else match cur with
      | none => gw r (i + t.2) (some ⟨t.1, i, i + t.2⟩)
      | some c => if c.text.length + t.2 > 32 then c :: gw r (i + t.2) (some ⟨t.1, i, i + t.2⟩) else gw r (i + t.2) (some ⟨c.text ++ t.1, c.st, i + t.2⟩)
def wds (l : List UInt8) : List Wd := gw (toks l) 0 none
theorem toksF_ok : ∀ (f : Nat) (l : List UInt8), ∀ t ∈ toksF f l, t.2 ≤ 4 ∧ (t.1 ≠ [] → t.1.length = t.2)
  | 0, _, t, h => by simp [toksF] at h
  | _ + 1, [], t, h => by simp [toksF] at h
  | f + 1, b :: u, t, h => by
    simp only [toksF, List.mem_cons] at h
    rcases h with rfl | h
    · exact ⟨tok_le4 _, tok_len _⟩
    · exact toksF_ok f _ t h
theorem gw_len : ∀ (l : List Tok) (i : Nat) (cur : Option Wd), (∀ t ∈ l, t.2 ≤ 4 ∧ (t.1 ≠ [] → t.1.length = t.2)) → (∀ c, cur = some c → c.text.length ≤ 32) → ∀ w ∈ gw l i cur, w.text.length ≤ 32
  | [], i, cur, _, hc, w, h => by
    simp only [gw, Option.mem_toList] at h
    exact hc w h
  | t :: r, i, cur, ht, hc, w, h => by
    have h1 := ht t (List.mem_cons_self)
    have hr : ∀ x ∈ r, x.2 ≤ 4 ∧ (x.1 ≠ [] → x.1.length = x.2) := fun x hx => ht x (List.mem_cons_of_mem _ hx)
    unfold gw at h
    split at h
    · rcases List.mem_append.1 h with h | h
      · exact hc w (by simpa using h)
      · exact gw_len r _ none hr (fun c e => by cases e) w h
    · rename_i hne
      have hl := h1.2 hne
      cases cur with
      | none => exact gw_len r _ _ hr (fun c e => by cases e; simp only; omega) w h
      | some c =>
        simp only at h
        have hcl := hc c rfl
        split at h
        · rcases List.mem_cons.1 h with rfl | h
          · exact hcl
          · exact gw_len r _ _ hr (fun c e => by cases e; simp only; omega) w h
        · exact gw_len r _ _ hr (fun c e => by cases e; simp only [List.length_append]; omega) w h
theorem wds_len (l : List UInt8) : ∀ w ∈ wds l, w.text.length ≤ 32 := gw_len _ _ _ (toksF_ok _ _) (fun c e => by cases e)
/-- Is a text just one word (two with '=' between)? -/
def oneV (l : List Wd) (s : List UInt8) : Bool := match l with | [w] => w.text == s | _ => false
def pairV (l : List Wd) (s : List UInt8) : Bool := match l with | [v, w] => v.text ++ 61 :: w.text == s | _ => false
theorem wds_count (l : List UInt8) : (wds l).length ≤ l.length := by
  have key : ∀ (f : Nat) (l : List UInt8) (i : Nat) (cur : Option Wd), (gw (toksF f l) i cur).length ≤ l.length + cur.toList.length := by
    intro f
    induction f with
    | zero => intro l i cur; simp [toksF, gw]
    | succ f ih =>
      intro l i cur
      cases l with
      | nil => simp [toksF, gw]
      | cons b t =>
        have hp := tok_pos (b :: t)
        have h1 : ((b :: t).drop (tok (b :: t)).2).length ≤ t.length := by rw [List.length_drop, List.length_cons]; omega
        simp only [toksF, gw]
        split
        · have := ih ((b :: t).drop (tok (b :: t)).2) (i + (tok (b :: t)).2) none
          simp only [List.length_append, List.length_cons, Option.toList_none, List.length_nil] at this ⊢
          omega
        · cases cur with
          | none =>
            have := ih ((b :: t).drop (tok (b :: t)).2) (i + (tok (b :: t)).2) (some ⟨(tok (b :: t)).1, i, i + (tok (b :: t)).2⟩)
            simp only [Option.toList_some, List.length_singleton, Option.toList_none, List.length_nil, List.length_cons] at this ⊢
            omega
          | some c =>
            simp only
            split
            · have := ih ((b :: t).drop (tok (b :: t)).2) (i + (tok (b :: t)).2) (some ⟨(tok (b :: t)).1, i, i + (tok (b :: t)).2⟩)
              simp only [Option.toList_some, List.length_singleton, List.length_cons] at this ⊢
              omega
            · have := ih ((b :: t).drop (tok (b :: t)).2) (i + (tok (b :: t)).2) (some ⟨c.text ++ (tok (b :: t)).1, c.st, i + (tok (b :: t)).2⟩)
              simp only [Option.toList_some, List.length_singleton, List.length_cons] at this ⊢
              omega
  have := key l.length l 0 none
  simpa [wds, toks] using this
end Go.Proofs.YtlmmbefejmbpeaaDoor.M
