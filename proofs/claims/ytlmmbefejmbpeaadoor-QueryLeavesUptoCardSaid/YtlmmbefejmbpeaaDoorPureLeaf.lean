/- Words, pairs and times by themselves, plainly. -/
import Derived.Lib.SpaceUEq
import Derived.Lib.ItoaNum
import Derived.Lib.ItoaMem
import Derived.Lib.ItoaLen
import Derived.Lib.AtoiAllCases
import Derived.Lib.ParseIntBTie
import Derived.Test.YtlmmbefejmbpeaaDoorMWords
import Derived.Test.YtlmmbefejmbpeaaDoorQryR
namespace Go.Proofs.YtlmmbefejmbpeaaDoor.M
open Go.RowKit Go.Lib Go.Proofs.YtlmmbefejmbpeaaDoor.G Go.Proofs.YtlmmbefejmbpeaaDoorW.PrintWords Go.Proofs.YtlmmbefejmbpeaaDoorW.PrintLast Go.Proofs.YtlmmbefejmbpeaaDoorW.PrintMore
set_option linter.unusedVariables false
set_option linter.unusedSimpArgs false

set_option maxRecDepth 100000 in
set_option maxHeartbeats 2000000 in
theorem decodeN_like (n m b0 b1 b2 b3 c1 c2 c3 : Nat)
    (e1 : (1 < n ∧ b1 / 64 = 2) ∨ (1 < m ∧ c1 / 64 = 2) → 1 < n ∧ 1 < m ∧ c1 = b1)
    (e2 : (1 < n ∧ b1 / 64 = 2) → (2 < n ∧ b2 / 64 = 2) ∨ (2 < m ∧ c2 / 64 = 2) → 2 < n ∧ 2 < m ∧ c2 = b2)
    (e3 : (1 < n ∧ b1 / 64 = 2) → (2 < n ∧ b2 / 64 = 2) → (3 < n ∧ b3 / 64 = 2) ∨ (3 < m ∧ c3 / 64 = 2) → 3 < n ∧ 3 < m ∧ c3 = b3) :
    decodeN m b0 c1 c2 c3 = decodeN n b0 b1 b2 b3 := by
  by_cases k1 : (1 < n ∧ b1 / 64 = 2) ∨ (1 < m ∧ c1 / 64 = 2)
  · obtain ⟨n1, m1, rfl⟩ := e1 k1
    have k1' : c1 / 64 = 2 := by omega
    have e2 := e2 ⟨n1, k1'⟩
    have e3 := e3 ⟨n1, k1'⟩
    by_cases k2 : (2 < n ∧ b2 / 64 = 2) ∨ (2 < m ∧ c2 / 64 = 2)
    · obtain ⟨n2, m2, rfl⟩ := e2 k2
      have k2' : c2 / 64 = 2 := by omega
      have e3 := e3 ⟨n2, k2'⟩
      by_cases k3 : (3 < n ∧ b3 / 64 = 2) ∨ (3 < m ∧ c3 / 64 = 2)
      · obtain ⟨n3, m3, rfl⟩ := e3 k3
        simp [decodeN, n1, m1, n2, m2, n3, m3]
      · have a1 : ¬ (3 < n ∧ b3 / 64 = 2) := fun h => k3 (.inl h)
        have a2 : ¬ (3 < m ∧ c3 / 64 = 2) := fun h => k3 (.inr h)
        simp [decodeN, n1, m1, n2, m2, a1, a2]
    · have a1 : ¬ (2 < n ∧ b2 / 64 = 2) := fun h => k2 (.inl h)
      have a2 : ¬ (2 < m ∧ c2 / 64 = 2) := fun h => k2 (.inr h)
      simp [decodeN, n1, m1, a1, a2]
  · have a1 : ¬ (1 < n ∧ b1 / 64 = 2) := fun h => k1 (.inl h)
    have a2 : ¬ (1 < m ∧ c1 / 64 = 2) := fun h => k1 (.inr h)
    simp [decodeN, a1, a2]
theorem decodeL_like (l m : List UInt8) (h0 : m.getD 0 0 = l.getD 0 0)
    (e1 : (1 < l.length ∧ (l.getD 1 0).toNat / 64 = 2) ∨ (1 < m.length ∧ (m.getD 1 0).toNat / 64 = 2) → 1 < l.length ∧ 1 < m.length ∧ m.getD 1 0 = l.getD 1 0)
    (e2 : (1 < l.length ∧ (l.getD 1 0).toNat / 64 = 2) → (2 < l.length ∧ (l.getD 2 0).toNat / 64 = 2) ∨ (2 < m.length ∧ (m.getD 2 0).toNat / 64 = 2) → 2 < l.length ∧ 2 < m.length ∧ m.getD 2 0 = l.getD 2 0)
    (e3 : (1 < l.length ∧ (l.getD 1 0).toNat / 64 = 2) → (2 < l.length ∧ (l.getD 2 0).toNat / 64 = 2) → (3 < l.length ∧ (l.getD 3 0).toNat / 64 = 2) ∨ (3 < m.length ∧ (m.getD 3 0).toNat / 64 = 2) → 3 < l.length ∧ 3 < m.length ∧ m.getD 3 0 = l.getD 3 0) :
    decodeL m = decodeL l := by
  rw [decodeL_N, decodeL_N, h0]
  refine decodeN_like _ _ _ _ _ _ _ _ _ (fun h => ?_) (fun h1 h => ?_) (fun h1 h2 h => ?_)
  · obtain ⟨a, b, c⟩ := e1 h; exact ⟨a, b, congrArg _ c⟩
  · obtain ⟨a, b, c⟩ := e2 h1 h; exact ⟨a, b, congrArg _ c⟩
  · obtain ⟨a, b, c⟩ := e3 h1 h2 h; exact ⟨a, b, congrArg _ c⟩
theorem getD_left (l m : List UInt8) (i : Nat) (h : i < l.length) : (l ++ m).getD i 0 = l.getD i 0 := by simp [List.getD, List.getElem?_append_left h]
theorem getD_at (l m : List UInt8) (c : UInt8) (i : Nat) (h : i = l.length) : (l ++ c :: m).getD i 0 = c := by subst h; simp [List.getD]
/-- Decoding does not see what stands behind a byte of seven bits. -/
theorem decodeL_stop (l t : List UInt8) (c : UInt8) (hne : l ≠ []) (hc : c.toNat < 128) : decodeL (l ++ c :: t) = decodeL l := by
  have hl : 0 < l.length := List.length_pos_iff.2 hne
  have hlen : (l ++ c :: t).length = l.length + (t.length + 1) := by simp
  have step : ∀ i, i ≤ l.length → (i < l.length ∧ (l.getD i 0).toNat / 64 = 2) ∨ (i < (l ++ c :: t).length ∧ ((l ++ c :: t).getD i 0).toNat / 64 = 2) → i < l.length ∧ i < (l ++ c :: t).length ∧ (l ++ c :: t).getD i 0 = l.getD i 0 := by
    intro i hi h
    by_cases h1 : i < l.length
    · exact ⟨h1, by omega, getD_left _ _ _ h1⟩
    · rw [getD_at l t c i (by omega)] at h
      omega
  exact decodeL_like l (l ++ c :: t) (getD_left _ _ _ hl) (step 1 (by omega)) (fun h1 => step 2 (by omega)) (fun h1 h2 => step 3 (by omega))
theorem tok_stop (l t : List UInt8) (c : UInt8) (hne : l ≠ []) (hc : c.toNat < 128) : tok (l ++ c :: t) = tok l := by
  have hd := decodeL_stop l t c hne hc
  have hle := decodeL_le l hne
  match l, hne with
  | b :: u, _ =>
    rw [List.cons_append] at hd ⊢
    simp only [tok, hd]
    rw [← List.cons_append, List.take_append_of_le_length hle]
theorem toksF_stop (c : UInt8) (t : List UInt8) (hc : c.toNat < 128) : ∀ (f : Nat) (s : List UInt8), s.length ≤ f → toksF (f + 1 + t.length) (s ++ c :: t) = toksF f s ++ (low c, 1) :: toksF t.length t := by
  have hend : ∀ f : Nat, toksF (f + 1 + t.length) (c :: t) = (low c, 1) :: toksF t.length t := by
    intro f
    have ht : tok (c :: t) = (low c, 1) := by simp [tok, hc]
    rw [show f + 1 + t.length = (f + t.length) + 1 by omega]
    simp only [toksF, ht]
    rw [toksF_eq (f + t.length) t.length _ (by simp) (by simp)]
    simp
  intro f
  induction f with
  | zero =>
    intro s hs
    obtain rfl := List.eq_nil_of_length_eq_zero (Nat.le_zero.1 hs)
    simpa [toksF] using hend 0
  | succ f ih =>
    intro s hs
    cases s with
    | nil => simpa [toksF] using hend (f + 1)
    | cons b u =>
      have hp := tok_pos (b :: u)
      have hle := tok_le (b :: u) (by simp)
      have h1 := ih ((b :: u).drop (tok (b :: u)).2) (by rw [List.length_drop]; simp at hs ⊢; omega)
      rw [show f + 1 + 1 + t.length = (f + 1 + t.length) + 1 by omega, List.cons_append]
      simp only [toksF]
      rw [← List.cons_append, tok_stop _ _ _ (by simp) hc, List.drop_append_of_le_length hle, h1]
      rfl
/-- The characters of two texts with a byte of seven bits between. -/
theorem toks_stop (s t : List UInt8) (c : UInt8) (hc : c.toNat < 128) : toks (s ++ c :: t) = toks s ++ (low c, 1) :: toks t := by
  unfold toks
  rw [← toksF_stop c t hc s.length s (Nat.le_refl _)]
  refine toksF_eq _ _ _ (Nat.le_refl _) (by simp; omega)

def sumw (l : List Tok) : Nat := (l.map Prod.snd).sum
theorem sumw_toksF : ∀ (f : Nat) (l : List UInt8), l.length ≤ f → sumw (toksF f l) = l.length
  | 0, [], _ => rfl
  | _ + 1, [], _ => rfl
  | 0, _ :: _, h => absurd h (by simp)
  | f + 1, b :: t, h => by
    have hp := tok_pos (b :: t)
    have hle := tok_le (b :: t) (by simp)
    have ih := sumw_toksF f ((b :: t).drop (tok (b :: t)).2) (by rw [List.length_drop]; simp at h ⊢; omega)
    rw [List.length_drop] at ih
    simp only [sumw] at ih
    simp only [toksF, sumw, List.map_cons, List.sum_cons]
    omega
theorem sumw_toks (l : List UInt8) : sumw (toks l) = l.length := sumw_toksF _ _ (Nat.le_refl _)
theorem gw_cons (t : Tok) (r : List Tok) (i : Nat) (cur : Option Wd) : gw (t :: r) i cur = if t.1 = [] then cur.toList ++ gw r (i + t.2) none else match cur with
    | none => gw r (i + t.2) (some ⟨t.1, i, i + t.2⟩)
    | some c => if c.text.length + t.2 > 32 then c :: gw r (i + t.2) (some ⟨t.1, i, i + t.2⟩) else gw r (i + t.2) (some ⟨c.text ++ t.1, c.st, i + t.2⟩) := by
  cases cur <;> (rw [gw.eq_def]) <;> rfl
theorem gw_app (n : Nat) (B : List Tok) : ∀ (A : List Tok) (i : Nat) (cur : Option Wd), gw (A ++ ([], n) :: B) i cur = gw A i cur ++ gw B (i + sumw A + n) none
  | [], i, cur => by simp [gw, sumw]
  | t :: r, i, cur => by
    have hs : sumw (t :: r) = t.2 + sumw r := by simp [sumw]
    rw [List.cons_append, hs, gw_cons t (r ++ ([], n) :: B), gw_cons t r]
    by_cases h : t.1 = []
    · rw [if_pos h, if_pos h, gw_app n B r, List.append_assoc, Nat.add_assoc i t.2 (sumw r)]
    · rw [if_neg h, if_neg h]
      cases cur with
      | none => simp only; rw [gw_app n B r, Nat.add_assoc i t.2 (sumw r)]
      | some c =>
        simp only
        by_cases h2 : c.text.length + t.2 > 32
        · rw [if_pos h2, if_pos h2, gw_app n B r, List.cons_append, Nat.add_assoc i t.2 (sumw r)]
        · rw [if_neg h2, if_neg h2, gw_app n B r, Nat.add_assoc i t.2 (sumw r)]
def sh (k : Nat) (w : Wd) : Wd := ⟨w.text, w.st + k, w.en + k⟩
theorem gw_sh (k : Nat) : ∀ (A : List Tok) (i : Nat) (cur : Option Wd), gw A (i + k) (cur.map (sh k)) = (gw A i cur).map (sh k)
  | [], i, cur => by cases cur <;> simp [gw]
  | t :: r, i, cur => by
    have e : i + k + t.2 = i + t.2 + k := by omega
    unfold gw
    split
    · rw [e, List.map_append]
      have := gw_sh k r (i + t.2) none
      simp only [Option.map_none] at this
      rw [this]
      cases cur <;> simp
    · cases cur with
      | none =>
        simp only [Option.map_none]
        rw [e]
        exact gw_sh k r (i + t.2) (some ⟨t.1, i, i + t.2⟩)
      | some c =>
        simp only [Option.map_some]
        rw [e]
        have ec : (sh k c).text = c.text := rfl
        rw [ec]
        split
        · rw [List.map_cons]
          congr 1
          exact gw_sh k r (i + t.2) (some ⟨t.1, i, i + t.2⟩)
        · exact gw_sh k r (i + t.2) (some ⟨c.text ++ t.1, c.st, i + t.2⟩)
/-- The words of two texts with a byte between that is no letter. -/
theorem wds_stop (s t : List UInt8) (c : UInt8) (hc : c.toNat < 128) (hl : low c = []) : wds (s ++ c :: t) = wds s ++ (wds t).map (sh (s.length + 1)) := by
  unfold wds
  rw [toks_stop s t c hc, hl, gw_app, sumw_toks]
  have := gw_sh (s.length + 1) (toks t) 0 none
  rw [← this]
  simp only [Option.map_none]
  congr 2
/-- a text of characters that are letters, each as it stands in a word -/
def Solid (x : List UInt8) : Prop := ∃ L : List (List UInt8), x = L.flatten ∧ ∀ y ∈ L, y ≠ [] ∧ ∀ r, tok (y ++ r) = (y, y.length)
theorem Solid.nil : Solid [] := ⟨[], rfl, fun y h => by cases h⟩
theorem Solid.app {x y : List UInt8} (hx : Solid x) (hy : Solid y) : Solid (x ++ y) := by
  obtain ⟨L, rfl, hL⟩ := hx
  obtain ⟨K, rfl, hK⟩ := hy
  refine ⟨L ++ K, by simp, fun y h => ?_⟩
  rcases List.mem_append.1 h with h | h
  · exact hL y h
  · exact hK y h
theorem Solid.one {y : List UInt8} (h0 : y ≠ []) (h : ∀ r, tok (y ++ r) = (y, y.length)) : Solid y := ⟨[y], by simp, fun z hz => by rw [List.mem_singleton.1 hz]; exact ⟨h0, h⟩⟩
theorem low_low : ∀ b : Fin 128, low (UInt8.ofNat b.val) = [] ∨ ∃ c : Fin 128, low (UInt8.ofNat b.val) = [UInt8.ofNat c.val] ∧ low (UInt8.ofNat c.val) = [UInt8.ofNat c.val] := by decide +kernel
set_option maxRecDepth 100000 in
set_option maxHeartbeats 2000000 in
theorem decodeN_cut (n m b0 b1 b2 b3 c1 c2 c3 : Nat) (hw : 2 ≤ (decodeN n b0 b1 b2 b3).2) (hm : (decodeN n b0 b1 b2 b3).2 ≤ m) (e1 : 1 < (decodeN n b0 b1 b2 b3).2 → c1 = b1) (e2 : 2 < (decodeN n b0 b1 b2 b3).2 → c2 = b2) (e3 : 3 < (decodeN n b0 b1 b2 b3).2 → c3 = b3) :
    decodeN m b0 c1 c2 c3 = decodeN n b0 b1 b2 b3 := by
  rcases decodeN_shape n b0 b1 b2 b3 with ⟨_, e⟩ | ⟨h1, h2, h3, h4, e⟩ | ⟨h1, h2, h3, h4, h5, h6, e⟩ | ⟨h1, h2, h3, h4, h5, h6, h7, e⟩ | e <;> rw [e] at hw hm e1 e2 e3 ⊢ <;> simp only at hw hm e1 e2 e3
  · omega
  · obtain rfl := e1 (by omega)
    unfold decodeN
    rw [if_neg (by omega), if_pos ⟨h1, by omega, h3⟩, if_pos (by omega)]
  · obtain rfl := e1 (by omega)
    obtain rfl := e2 (by omega)
    unfold decodeN
    rw [if_neg (by omega), if_neg (by omega), if_pos ⟨h1, ⟨by omega, h3⟩, by omega, h4⟩, if_pos ⟨by omega, by omega⟩]
  · obtain rfl := e1 (by omega)
    obtain rfl := e2 (by omega)
    obtain rfl := e3 (by omega)
    unfold decodeN
    rw [if_neg (by omega), if_neg (by omega), if_neg (by omega), if_pos ⟨h1, ⟨by omega, h3⟩, ⟨by omega, h4⟩, by omega, h5⟩, if_pos ⟨by omega, by omega⟩]
  · omega
/-- A letter's text is by itself that letter. -/
theorem tok_solid (l : List UInt8) (h : (tok l).1 ≠ []) : ∀ r, tok ((tok l).1 ++ r) = ((tok l).1, (tok l).1.length) := by
  intro r
  cases l with
  | nil => exact absurd rfl h
  | cons b u =>
    by_cases hb : b.toNat < 128
    · have e : (tok (b :: u)).1 = low b := by simp [tok, hb]
      rw [e] at h ⊢
      have hl := low_low ⟨b.toNat, hb⟩
      simp only [UInt8.ofNat_toNat] at hl
      rcases hl with hl | ⟨c, h1, h2⟩
      · exact absurd hl h
      · rw [h1]
        have hc : (UInt8.ofNat c.val).toNat < 128 := by
          have := c.isLt
          simp only [UInt8.toNat_ofNat']
          omega
        show tok (UInt8.ofNat c.val :: r) = _
        unfold tok
        simp only
        rw [if_pos hc, h2]
        rfl
    · by_cases hd : (decodeL (b :: u)).1 = 65533 ∧ (decodeL (b :: u)).2 = 1
      · exact absurd (by simp [tok, hb, hd]) h
      · have ht : tok (b :: u) = ((b :: u).take (decodeL (b :: u)).2, (decodeL (b :: u)).2) := by simp only [tok]; rw [if_neg hb, if_neg hd]
        have hle := decodeL_le (b :: u) (by simp)
        have hw := decodeL_width (b :: u)
        rw [ht]
        simp only
        have hlen : ((b :: u).take (decodeL (b :: u)).2).length = (decodeL (b :: u)).2 := by rw [List.length_take]; omega
        have hw2 : 2 ≤ (decodeL (b :: u)).2 := by
          rcases Nat.lt_or_ge (decodeL (b :: u)).2 2 with h2 | h2
          · exfalso
            have h1 : (decodeL (b :: u)).2 = 1 := by omega
            have hN := decodeL_N (b :: u)
            have k0 : ((b :: u).getD 0 0).toNat = b.toNat := rfl
            rw [k0] at hN
            rw [hN] at h1 hd
            rcases decodeN_shape (b :: u).length b.toNat ((b :: u).getD 1 0).toNat ((b :: u).getD 2 0).toNat ((b :: u).getD 3 0).toNat with ⟨c, e⟩ | ⟨c1, c2, c3, cv, e⟩ | ⟨c1, c2, c3, c4, cv, cs, e⟩ | ⟨c1, c2, c3, c4, c5, cv, cw, e⟩ | e
            · exact hb c
            · rw [e] at h1; simp at h1
            · rw [e] at h1; simp at h1
            · rw [e] at h1; simp at h1
            · rw [e] at hd; exact hd ⟨rfl, rfl⟩
          · exact h2
        have hg : ∀ i, i < (decodeL (b :: u)).2 → ((b :: u).take (decodeL (b :: u)).2 ++ r).getD i 0 = (b :: u).getD i 0 := by
          intro i hi
          rw [getD_left _ _ _ (by omega), getD_takeU _ _ _ hi]
        have hdec : decodeL ((b :: u).take (decodeL (b :: u)).2 ++ r) = decodeL (b :: u) := by
          have hN := decodeL_N (b :: u)
          rw [decodeL_N ((b :: u).take (decodeL (b :: u)).2 ++ r), hg 0 (by omega)]
          conv => rhs; rw [hN]
          refine decodeN_cut _ _ _ _ _ _ _ _ _ ?_ ?_ (fun h => ?_) (fun h => ?_) (fun h => ?_)
          · rw [← hN]; exact hw2
          · rw [← hN, List.length_append]; omega
          · rw [← hN] at h; rw [hg 1 h]
          · rw [← hN] at h; rw [hg 2 h]
          · rw [← hN] at h; rw [hg 3 h]
        obtain ⟨c, v, hcv⟩ : ∃ c v, (b :: u).take (decodeL (b :: u)).2 ++ r = c :: v := by
          cases hz : (b :: u).take (decodeL (b :: u)).2 ++ r with
          | nil => have := congrArg List.length hz; rw [List.length_append] at this; simp only [List.length_nil] at this; omega
          | cons c v => exact ⟨c, v, rfl⟩
        have hc0 : c = b := by
          have := hg 0 (by omega)
          rw [hcv] at this
          exact this
        subst hc0
        rw [hlen]
        rw [hcv] at hdec ⊢
        simp only [tok]
        rw [if_neg hb, hdec, if_neg hd, ← hcv, List.take_append_of_le_length (by omega), List.take_take, Nat.min_self]
theorem toksF_solid : ∀ (L : List (List UInt8)) (f : Nat) (r : List UInt8), (∀ y ∈ L, y ≠ [] ∧ ∀ r, tok (y ++ r) = (y, y.length)) → (L.flatten ++ r).length ≤ f → toksF f (L.flatten ++ r) = L.map (fun y => (y, y.length)) ++ toksF f r
  | [], f, r, _, _ => by simp
  | y :: L, f, r, hL, hf => by
    have hy := hL y List.mem_cons_self
    have hy2 := hy.2 (L.flatten ++ r)
    have hpos : 1 ≤ y.length := List.length_pos_iff.2 hy.1
    rw [List.flatten_cons, List.append_assoc] at hf ⊢
    rw [List.length_append] at hf
    obtain ⟨f, rfl⟩ : ∃ g, f = g + 1 := ⟨f - 1, by omega⟩
    have hne : y ++ (L.flatten ++ r) ≠ [] := by simp [hy.1]
    have e : toksF (f + 1) (y ++ (L.flatten ++ r)) = (y, y.length) :: toksF f (L.flatten ++ r) := by
      cases hz : y ++ (L.flatten ++ r) with
      | nil => exact absurd hz hne
      | cons c v =>
        simp only [toksF]
        rw [← hz, hy2]
        simp
    rw [e, toksF_solid L f r (fun z hz => hL z (List.mem_cons_of_mem _ hz)) (by omega), List.map_cons, List.cons_append]
    congr 2
    refine toksF_eq _ _ _ ?_ ?_ <;> rw [List.length_append] at hf <;> omega
theorem gw_solid : ∀ (L : List (List UInt8)) (i : Nat) (c : Wd), (∀ y ∈ L, y ≠ []) → c.text.length + L.flatten.length ≤ 32 → gw (L.map (fun y => (y, y.length))) i (some c) = [if L = [] then c else ⟨c.text ++ L.flatten, c.st, i + L.flatten.length⟩]
  | [], i, c, _, _ => by simp [gw]
  | y :: L, i, c, hL, hc => by
    rw [List.flatten_cons, List.length_append] at hc
    rw [List.map_cons]
    unfold gw
    simp only
    rw [if_neg (hL y List.mem_cons_self), if_neg (by omega), gw_solid L _ _ (fun z hz => hL z (List.mem_cons_of_mem _ hz)) (by simp only [List.length_append]; omega)]
    cases L with
    | nil => simp
    | cons a b => simp <;> omega
/-- A text of letters, not too long, is one word. -/
theorem wds_solid (x : List UInt8) (h : Solid x) (h0 : x ≠ []) (h32 : x.length ≤ 32) : wds x = [⟨x, 0, x.length⟩] := by
  obtain ⟨L, rfl, hL⟩ := h
  have ht : toks L.flatten = L.map (fun y => (y, y.length)) := by
    have := toksF_solid L L.flatten.length [] hL (by simp)
    rw [List.append_nil] at this
    unfold toks
    rw [this]
    cases L.flatten.length <;> simp [toksF]
  unfold wds
  rw [ht]
  cases L with
  | nil => exact absurd rfl h0
  | cons y L =>
    have hy := (hL y List.mem_cons_self).1
    rw [List.flatten_cons, List.length_append] at h32
    rw [List.map_cons]
    unfold gw
    simp only
    rw [if_neg hy, gw_solid L _ _ (fun z hz => (hL z (List.mem_cons_of_mem _ hz)).1) (by simp only; omega)]
    cases L with
    | nil => simp
    | cons a b => simp <;> omega
/-- What is true of each word: a text of letters, as long as it is told. -/
def Good (w : Wd) : Prop := Solid w.text ∧ w.text ≠ [] ∧ w.en = w.st + w.text.length ∧ w.text.length ≤ 32
theorem gw_good : ∀ (A : List Tok) (i : Nat) (cur : Option Wd), (∀ t ∈ A, t.2 ≤ 4 ∧ (t.1 ≠ [] → t.1.length = t.2 ∧ Solid t.1)) → (∀ c, cur = some c → Good c ∧ c.en = i) → ∀ w ∈ gw A i cur, Good w
  | [], i, cur, _, hc, w, h => by
    simp only [gw, Option.mem_toList] at h
    exact (hc w h).1
  | t :: r, i, cur, ht, hc, w, h => by
    have h1 := ht t List.mem_cons_self
    have hr : ∀ x ∈ r, x.2 ≤ 4 ∧ (x.1 ≠ [] → x.1.length = x.2 ∧ Solid x.1) := fun x hx => ht x (List.mem_cons_of_mem _ hx)
    unfold gw at h
    split at h
    · rcases List.mem_append.1 h with h | h
      · exact (hc w (by simpa using h)).1
      · exact gw_good r _ none hr (fun c e => by cases e) w h
    · rename_i hne
      obtain ⟨hl, hs⟩ := h1.2 hne
      have new : ∀ c, some (⟨t.1, i, i + t.2⟩ : Wd) = some c → Good c ∧ c.en = i + t.2 := fun c e => by
        cases e
        exact ⟨⟨hs, hne, by simp only; omega, by simp only; omega⟩, rfl⟩
      cases cur with
      | none => exact gw_good r _ _ hr new w h
      | some c =>
        simp only at h
        obtain ⟨⟨g1, g2, g3, g4⟩, hen⟩ := hc c rfl
        split at h
        · rcases List.mem_cons.1 h with rfl | h
          · exact ⟨g1, g2, g3, g4⟩
          · exact gw_good r _ _ hr new w h
        · exact gw_good r _ _ hr (fun c' e => by
            cases e
            exact ⟨⟨g1.app hs, by simp [g2], by simp only [List.length_append]; omega, by simp only [List.length_append]; omega⟩, rfl⟩) w h
theorem toksF_solids : ∀ (f : Nat) (l : List UInt8), ∀ t ∈ toksF f l, t.2 ≤ 4 ∧ (t.1 ≠ [] → t.1.length = t.2 ∧ Solid t.1)
  | 0, _, t, h => by simp [toksF] at h
  | _ + 1, [], t, h => by simp [toksF] at h
  | f + 1, b :: u, t, h => by
    simp only [toksF, List.mem_cons] at h
    rcases h with rfl | h
    · exact ⟨tok_le4 _, fun h => ⟨tok_len _ h, Solid.one h (tok_solid _ h)⟩⟩
    · exact toksF_solids f _ t h
theorem wds_good (l : List UInt8) : ∀ w ∈ wds l, Good w := gw_good _ _ _ (toksF_solids _ _) (fun c e => by cases e)
theorem low_eq : low 61 = [] := by decide
theorem low_blank : low 32 = [] := by decide
theorem one_good (w : Wd) (h : Good w) : oneV (wds w.text) w.text = true := by
  rw [wds_solid _ h.1 h.2.1 h.2.2.2]; simp [oneV]
theorem pair_good (v w : Wd) (hv : Good v) (hw : Good w) : pairV (wds (v.text ++ 61 :: w.text)) (v.text ++ 61 :: w.text) = true := by
  rw [wds_stop _ _ 61 (by decide) low_eq, wds_solid _ hv.1 hv.2.1 hv.2.2.2, wds_solid _ hw.1 hw.2.1 hw.2.2.2]
  simp [pairV, sh]
/-- The words of words parted by blanks. -/
def blanks : List Wd → List UInt8
  | [] => []
  | w :: r => w.text ++ 32 :: blanks r
theorem wds_blanks : ∀ l : List Wd, (∀ w ∈ l, Good w) → (wds (blanks l)).map Wd.text = l.map Wd.text
  | [], _ => by decide
  | w :: r, h => by
    have hw := h w List.mem_cons_self
    have ih := wds_blanks r (fun x hx => h x (List.mem_cons_of_mem _ hx))
    unfold blanks
    rw [wds_stop _ _ 32 (by decide) low_blank, wds_solid _ hw.1 hw.2.1 hw.2.2.2, List.map_append, List.map_map, show (Wd.text ∘ sh (w.text.length + 1)) = Wd.text from rfl, ih]
    rfl
theorem blanks_app : ∀ (a b : List Wd), blanks (a ++ b) = blanks a ++ blanks b
  | [], b => rfl
  | w :: r, b => by simp [blanks, blanks_app r b]
/-- The words' letters are the text's: together they are no more. -/
theorem gw_letters (L : Nat) : ∀ (A : List Tok) (i : Nat) (cur : Option Wd), (∀ t ∈ A, t.1 ≠ [] → t.1.length = t.2) → ((gw A i cur).map (fun w => w.text.length)).sum ≤ (match cur with | some c => c.text.length | none => 0) + sumw A
  | [], i, cur, _ => by cases cur <;> simp [gw, sumw]
  | t :: r, i, cur, ht => by
    have hr := fun x hx => ht x (List.mem_cons_of_mem t hx)
    have hs : sumw (t :: r) = t.2 + sumw r := by simp [sumw]
    rw [hs]
    unfold gw
    split
    · have := gw_letters L r (i + t.2) none hr
      rw [List.map_append, List.sum_append]
      cases cur <;> simp at this ⊢ <;> omega
    · rename_i hne
      have hl := ht t List.mem_cons_self hne
      cases cur with
      | none =>
        have := gw_letters L r (i + t.2) (some ⟨t.1, i, i + t.2⟩) hr
        simp only at this ⊢
        omega
      | some c =>
        simp only
        split
        · have := gw_letters L r (i + t.2) (some ⟨t.1, i, i + t.2⟩) hr
          rw [List.map_cons, List.sum_cons]
          simp only at this ⊢
          omega
        · have := gw_letters L r (i + t.2) (some ⟨c.text ++ t.1, c.st, i + t.2⟩) hr
          simp only [List.length_append] at this ⊢
          omega
theorem blanks_len : ∀ l : List Wd, (blanks l).length = (l.map (fun w => w.text.length)).sum + l.length
  | [] => rfl
  | w :: r => by simp [blanks, blanks_len r]; omega
theorem blanks_wds (l : List UInt8) : (blanks (wds l)).length ≤ 2 * l.length := by
  have h1 := gw_letters 0 (toks l) 0 none (fun t ht => (toksF_ok _ _ t ht).2)
  rw [sumw_toks] at h1
  have h2 := wds_count l
  rw [blanks_len]
  unfold wds at h2 ⊢
  simp only at h1
  omega

/-! ### great letters for small ones -/
/-- bytes turned, the letters staying the letters that they are -/
def Flip (f : UInt8 → UInt8) : Prop := (∀ b : UInt8, b.toNat < 128 → (f b).toNat < 128 ∧ low (f b) = low b) ∧ (∀ b : UInt8, 128 ≤ b.toNat → f b = b) ∧ ∀ b : UInt8, f b = 61 ↔ b = 61
theorem getD_map (f : UInt8 → UInt8) (l : List UInt8) (i : Nat) (h : i < l.length) : (l.map f).getD i 0 = f (l.getD i 0) := by
  simp [List.getD_eq_getElem?_getD, h]
theorem take_map_id (f : UInt8 → UInt8) (hf : ∀ b : UInt8, 128 ≤ b.toNat → f b = b) (l : List UInt8) (n : Nat) (h : ∀ i, i < n → 128 ≤ (l.getD i 0).toNat) : (l.map f).take n = l.take n := by
  rw [← List.map_take]
  conv => rhs; rw [← List.map_id (l.take n)]
  refine List.map_congr_left (fun x hx => ?_)
  obtain ⟨i, hi, rfl⟩ := List.getElem_of_mem hx
  rw [List.length_take] at hi
  have := h i (by omega)
  rw [List.getD_eq_getElem?_getD, List.getElem?_eq_getElem (by omega)] at this
  simp only [List.getElem_take, Option.getD_some, id_eq] at this ⊢
  exact hf _ this
theorem tok_map (f : UInt8 → UInt8) (hf : Flip f) (l : List UInt8) : tok (l.map f) = tok l := by
  cases l with
  | nil => rfl
  | cons b u =>
    by_cases hb : b.toNat < 128
    · obtain ⟨h1, h2⟩ := hf.1 b hb
      rw [List.map_cons]
      simp only [tok]
      rw [if_pos h1, if_pos hb, h2]
    · have h0 := hf.2.1 b (by omega)
      have step : ∀ i, 1 ≤ i → (i < (b :: u).length ∧ ((b :: u).getD i 0).toNat / 64 = 2) ∨ (i < ((b :: u).map f).length ∧ (((b :: u).map f).getD i 0).toNat / 64 = 2) → i < (b :: u).length ∧ i < ((b :: u).map f).length ∧ ((b :: u).map f).getD i 0 = (b :: u).getD i 0 := by
        intro i hi h
        have hl : i < (b :: u).length := by
          rcases h with h | h
          · exact h.1
          · simpa using h.1
        rw [getD_map f _ i hl] at h ⊢
        refine ⟨hl, by simpa using hl, ?_⟩
        by_cases hx : ((b :: u).getD i 0).toNat < 128
        · have := (hf.1 _ hx).1
          omega
        · exact hf.2.1 _ (by omega)
      have hd := decodeL_like (b :: u) ((b :: u).map f) (by rw [getD_map f _ 0 (by simp)]; exact h0) (step 1 (by omega)) (fun _ => step 2 (by omega)) (fun _ _ => step 3 (by omega))
      have ht : ∀ v : List UInt8, tok (b :: v) = if (decodeL (b :: v)).1 = 65533 ∧ (decodeL (b :: v)).2 = 1 then ([], 1) else ((b :: v).take (decodeL (b :: v)).2, (decodeL (b :: v)).2) := fun v => by simp only [tok]; rw [if_neg hb]
      rw [List.map_cons, h0] at hd ⊢
      rw [ht, ht, hd]
      split
      · rfl
      · have hc := decodeN_conts (b :: u).length ((b :: u).getD 0 0).toNat ((b :: u).getD 1 0).toNat ((b :: u).getD 2 0).toNat ((b :: u).getD 3 0).toNat
        rw [← decodeL_N] at hc
        obtain ⟨c2, c3, c4, c5⟩ := hc
        have := take_map_id f hf.2.1 (b :: u) (decodeL (b :: u)).2 (fun i hi => by
          have hi4 : i = 0 ∨ i = 1 ∨ i = 2 ∨ i = 3 := by omega
          rcases hi4 with rfl | rfl | rfl | rfl
          · show 128 ≤ b.toNat; omega
          · have := c2 (by omega); omega
          · have := c3 (by omega); omega
          · have := c4 (by omega); omega)
        rw [List.map_cons, h0] at this
        rw [this]
theorem toksF_map (f : UInt8 → UInt8) (hf : Flip f) : ∀ (n : Nat) (l : List UInt8), toksF n (l.map f) = toksF n l
  | 0, l => rfl
  | n + 1, [] => rfl
  | n + 1, b :: u => by
    have ht := tok_map f hf (b :: u)
    rw [List.map_cons] at ht ⊢
    simp only [toksF]
    rw [ht, ← List.map_cons, ← List.map_drop, toksF_map f hf n]
theorem wds_map (f : UInt8 → UInt8) (hf : Flip f) (l : List UInt8) : wds (l.map f) = wds l := by
  unfold wds toks
  rw [toksF_map f hf, List.length_map]
end Go.Proofs.YtlmmbefejmbpeaaDoor.M
namespace Go.Proofs.YtlmmbefejmbpeaaDoor.M
open Go
set_option linter.unusedVariables false
theorem dig_nat {d : Nat} (h : d < 10) : (UInt8.ofNat (48 + d)).toNat = 48 + d := by
  rw [UInt8.toNat_ofNat']
  omega
theorem p10_one {acc d : Nat} (hd : d < 10) (ha : acc < 1844674407370955162) (h : acc * 10 + d < 18446744073709551616) (r : List UInt8) :
    Lib.parseUint10 acc (UInt8.ofNat (48 + d) :: r) = Lib.parseUint10 (acc * 10 + d) r := by
  rw [Lib.parseUint10, dig_nat hd, if_pos (by omega), if_neg (by omega), if_neg (by omega)]
  congr 1
  omega
theorem p10_dec : ∀ (u : Nat), u < 18446744073709551616 → ∀ r, Lib.parseUint10 0 (Lib.decDigits u ++ r) = Lib.parseUint10 u r := by
  intro u
  induction u using Nat.strongRecOn with
  | ind u ih =>
    intro hu r
    rw [Lib.decDigits]
    by_cases h : u < 10
    · rw [dif_pos h]
      have := p10_one (acc := 0) h (by omega) (by omega) r
      simpa using this
    · rw [dif_neg h, List.append_assoc, ih (u / 10) (by omega) (by omega)]
      have := p10_one (acc := u / 10) (d := u % 10) (by omega) (by omega) (by omega) r
      rw [show u / 10 * 10 + u % 10 = u from by omega] at this
      simpa using this
theorem dec_ne (u : Nat) : Lib.decDigits u ≠ [] := by
  rw [Lib.decDigits]; split <;> simp
theorem mag_dec {u : Nat} (hu : u < 18446744073709551616) : Lib.parseMag (Lib.decDigits u) = .ok u := by
  unfold Lib.parseMag
  rw [if_neg (dec_ne u)]
  have := p10_dec u hu []
  rw [List.append_nil] at this
  rw [this, Lib.parseUint10]
theorem dec_digits : ∀ (u : Nat), ∀ c ∈ Lib.decDigits u, 48 ≤ c.toNat ∧ c.toNat ≤ 57 := by
  intro u
  induction u using Nat.strongRecOn with
  | ind u ih =>
    intro c hc
    rw [Lib.decDigits] at hc
    by_cases h : u < 10
    · rw [dif_pos h] at hc
      rw [List.mem_singleton] at hc
      rw [hc, dig_nat h]
      omega
    · rw [dif_neg h] at hc
      rcases List.mem_append.1 hc with hc | hc
      · exact ih (u / 10) (by omega) c hc
      · rw [List.mem_singleton] at hc
        rw [hc, dig_nat (by omega)]
        omega
/-- what a number is written by -/
theorem itoa_chars (n : Int) : ∀ c ∈ Lib.itoa n, c.toNat = 45 ∨ (48 ≤ c.toNat ∧ c.toNat ≤ 57) := by
  intro c hc
  unfold Lib.itoa at hc
  split at hc
  · rcases List.mem_cons.1 hc with rfl | hc
    · exact .inl rfl
    · exact .inr (dec_digits _ c hc)
  · exact .inr (dec_digits _ c hc)
theorem parse_itoa (n : Int) (h0 : -9223372036854775808 ≤ n) (h1 : n ≤ 9223372036854775807) : Lib.parseIntB 64 (Lib.itoa n) = .ok n := by
  rw [Lib.parseIntB_64]
  unfold Lib.itoa
  by_cases h : n < 0
  · rw [if_pos h]
    unfold Lib.atoiAll
    have e : (45 : UInt8).toNat = 45 := rfl
    simp only [e]
    rw [if_pos (by decide), mag_dec (by omega)]
    simp only
    rw [if_neg (by simp), if_neg (by simp; omega), if_pos trivial]
    congr 1
    omega
  · rw [if_neg h]
    obtain ⟨c, r, hcr⟩ := List.exists_cons_of_ne_nil (dec_ne n.toNat)
    have hc := dec_digits n.toNat c (by rw [hcr]; exact List.mem_cons_self)
    unfold Lib.atoiAll
    rw [hcr]
    simp only
    rw [if_neg (by omega), ← hcr, mag_dec (by omega)]
    simp only
    rw [if_neg (by omega), if_neg (by omega), if_neg (by omega)]
    congr 1
    omega
end Go.Proofs.YtlmmbefejmbpeaaDoor.M
namespace Go.Proofs.Qp
set_option linter.unusedVariables false
section
variable {Q : Type} {l : List UInt8} (mk : Int → List Q → Q) (leaf : List UInt8 → Option Q)
theorem tw_all (p : UInt8 → Bool) : ∀ m : List UInt8, (∀ c ∈ m, p c = true) → m.takeWhile p = m
  | [], _ => rfl
  | x :: t, h => by
    rw [List.takeWhile_cons, h x (by simp), tw_all p t (fun c hc => h c (List.mem_cons_of_mem _ hc))]
    simp
theorem skip_end : skip l l.length = l.length := by unfold skip; rw [List.drop_length]; simp
theorem parse_leaf (zero : Q) (h0 : l ≠ []) (h5 : l.length ≤ 512) (hs : ∀ c ∈ l, stop c = false) (hN : l.head? ≠ some 78) {q : Q} (hq : leaf l = some q) : parseV l mk leaf zero = (q, 0, 0) := by
  obtain ⟨c, t, rfl⟩ := List.exists_cons_of_ne_nil h0
  have hc : stop c = false := hs c (by simp)
  have c32 : c ≠ 32 := fun e => by subst e; exact absurd hc (by decide)
  have c40 : c ≠ 40 := fun e => by subst e; exact absurd hc (by decide)
  have c78 : c ≠ 78 := fun e => hN (by subst e; rfl)
  have hsk : skip (c :: t) 0 = 0 := by
    unfold skip
    rw [List.drop_zero, List.takeWhile_cons, if_neg (by simpa using c32)]
    rfl
  have hw : wordAt (c :: t) 0 = c :: t := by
    unfold wordAt
    rw [List.drop_zero]
    exact tw_all _ _ (fun x hx => by rw [hs x hx]; rfl)
  have b1 : isB (c :: t) 0 [78, 79, 84] = false := by
    unfold isB
    rw [List.drop_zero]
    simp only [List.isPrefixOf]
    rw [show ((78 : UInt8) == c) = false from by simpa using fun e => c78 e.symm]
    rfl
  have b2 : isB (c :: t) 0 [40] = false := by
    unfold isB
    rw [List.drop_zero]
    simp only [List.isPrefixOf]
    rw [show ((40 : UInt8) == c) = false from by simpa using fun e => c40 e.symm]
    rfl
  have hn : ∀ f, notV (c :: t) mk leaf (f + 1) 0 0 = .ok q (c :: t).length 0 := by
    intro f
    unfold notV
    rw [hsk, if_neg (by rw [b1]; simp), if_pos b2, hw, hq, Nat.zero_add]
  have ha : andV (c :: t) mk (notV (c :: t) mk leaf ((c :: t).length + 1)) 0 0 = .ok q (c :: t).length 0 := by
    unfold andV
    rw [hn]
    simp only
    rw [andLoop, skip_end, if_pos (.inl (Nat.le_refl _))]
    rfl
  have ho : orV (c :: t) mk (andV (c :: t) mk (notV (c :: t) mk leaf ((c :: t).length + 1))) 0 0 = .ok q (c :: t).length 0 := by
    unfold orV
    rw [ha]
    simp only
    rw [orLoop, skip_end, if_neg (by unfold isB; rw [List.drop_length]; simp)]
    rfl
  unfold parseV
  rw [if_neg (by omega), ho]
  simp only
  rw [skip_end, if_neg (by omega)]
end
end Go.Proofs.Qp
namespace Go.Proofs.YtlmmbefejmbpeaaDoor.M
open Go.RowKit Go.Proofs.Qp Go.Proofs.YtlmmbefejmbpeaaDoor.PQry0
set_option linter.unusedVariables false
theorem wds_text_le (l : List UInt8) : ∀ w ∈ wds l, w.text.length ≤ l.length := by
  intro w hw
  have h := gw_letters 0 (toks l) 0 none (fun t ht => (toksF_ok _ _ t ht).2)
  simp only [Nat.zero_add] at h
  rw [sumw_toks] at h
  have : w.text.length ≤ ((wds l).map (fun w => w.text.length)).sum := by
    unfold wds at hw ⊢
    generalize gw (toks l) 0 none = L at hw
    induction L with
    | nil => cases hw
    | cons x t ih =>
      rw [List.map_cons, List.sum_cons]
      rcases List.mem_cons.1 hw with rfl | hw
      · omega
      · have := ih hw; omega
  unfold wds at this hw
  omega
/-- no sign stands in a word -/
theorem no_sign {w : Wd} (hg : Good w) {c : UInt8} (hc : c.toNat < 128) (hl : low c = []) : c ∉ w.text := by
  intro hm
  obtain ⟨s, t, e⟩ := List.append_of_mem hm
  have h1 := wds_solid w.text hg.1 hg.2.1 hg.2.2.2
  rw [e, wds_stop s t c hc hl] at h1
  have h2 : (⟨s ++ c :: t, 0, (s ++ c :: t).length⟩ : Wd) ∈ wds s ++ (wds t).map (sh (s.length + 1)) := by rw [h1]; simp
  rcases List.mem_append.1 h2 with h | h
  · have := wds_text_le s _ h
    simp at this
    omega
  · obtain ⟨w', hw', e'⟩ := List.mem_map.1 h
    have h3 := wds_text_le t w' hw'
    have h4 : w'.text = s ++ c :: t := by unfold sh at e'; injection e'
    rw [h4] at h3
    simp at h3
    omega
/-- a word's first letter is small -/
theorem head_low {x : List UInt8} (h : Solid x) {c : UInt8} {t : List UInt8} (e : x = c :: t) (hc : c.toNat < 128) : low c = [c] := by
  obtain ⟨L, hL, hy⟩ := h
  cases L with
  | nil => rw [e] at hL; cases hL
  | cons y L =>
    obtain ⟨hne, htok⟩ := hy y (by simp)
    obtain ⟨d, y', rfl⟩ := List.exists_cons_of_ne_nil hne
    rw [e, List.flatten_cons, List.cons_append] at hL
    injection hL with h1 h2
    subst h1
    have := htok []
    rw [List.append_nil] at this
    unfold tok at this
    simp only [if_pos hc] at this
    injection this with h3 h4
    rw [h3]
    have : y' = [] := by
      have h5 : (c :: y').length = 1 := h4.symm
      simpa using h5
    rw [this]
def noneB (l : List UInt8) : Prop := ∀ c ∈ l, stop c = false
theorem word_nostop {w : Wd} (hg : Good w) : noneB w.text := by
  intro c hc
  rw [Bool.eq_false_iff]
  intro h
  unfold stop at h
  have h2 : c = 32 ∨ c = 40 ∨ c = 41 := by simpa [or_assoc] using h
  rcases h2 with rfl | rfl | rfl
  · exact no_sign hg (by decide) (by decide) hc
  · exact no_sign hg (by decide) (by decide) hc
  · exact no_sign hg (by decide) (by decide) hc
theorem word_head {w : Wd} (hg : Good w) (c : UInt8) (hc : c.toNat < 128) (hl : low c ≠ [c]) : w.text.head? ≠ some c := by
  intro h
  obtain ⟨d, t, e⟩ := List.exists_cons_of_ne_nil hg.2.1
  rw [e] at h
  injection h with h
  subst h
  exact hl (head_low hg.1 e hc)
theorem oneB_mk (x : List UInt8) : oneB ⟨x.toArray⟩ = oneV (wds x) x := rfl
theorem pairB_mk (x : List UInt8) : pairB ⟨x.toArray⟩ = pairV (wds x) x := rfl
theorem star_mk {x : List UInt8} (h : x ≠ [42]) : ¬ (⟨x.toArray⟩ : ByteArray) = ⟨#[42]⟩ := by
  intro e
  injection e with e
  apply h
  have := congrArg Array.toList e
  simpa using this
theorem leaf_word {w : Wd} (hg : Good w) : lf w.text = some ⟨1, ⟨w.text.toArray⟩, 0, []⟩ := by
  unfold lf leafV
  have h1 : w.text ≠ [42] := fun e => word_head hg 42 (by decide) (by decide) (by rw [e]; rfl)
  rw [if_neg (star_mk h1), if_pos (by rw [oneB_mk]; exact one_good w hg)]
theorem leaf_pair {v w : Wd} (hv : Good v) (hw : Good w) : lf (v.text ++ 61 :: w.text) = some ⟨2, ⟨(v.text ++ 61 :: w.text).toArray⟩, 0, []⟩ := by
  unfold lf leafV
  have hvl := List.length_pos_iff.2 hv.2.1
  have h1 : v.text ++ 61 :: w.text ≠ [42] := fun e => by
    have := congrArg List.length e
    simp at this
    omega
  have h2 : wds (v.text ++ 61 :: w.text) = [⟨v.text, 0, v.text.length⟩] ++ [sh (v.text.length + 1) ⟨w.text, 0, w.text.length⟩] := by
    rw [wds_stop v.text w.text 61 (by decide) low_eq, wds_solid v.text hv.1 hv.2.1 hv.2.2.2, wds_solid w.text hw.1 hw.2.1 hw.2.2.2]
    rfl
  rw [if_neg (star_mk h1), if_neg (by rw [oneB_mk, h2]; simp [oneV]), if_pos (by rw [pairB_mk]; exact pair_good v w hv hw)]
/-- a word by itself -/
theorem parse_word {w : Wd} (hg : Good w) : parseS ⟨w.text.toArray⟩ = (⟨1, ⟨w.text.toArray⟩, 0, []⟩, 0, 0) := by
  have := hg.2.2.2
  exact parse_leaf (l := w.text) mkQ lf zq hg.2.1 (by omega) (word_nostop hg) (word_head hg 78 (by decide) (by decide)) (leaf_word hg)
theorem parse_pair {v w : Wd} (hv : Good v) (hw : Good w) : parseS ⟨(v.text ++ 61 :: w.text).toArray⟩ = (⟨2, ⟨(v.text ++ 61 :: w.text).toArray⟩, 0, []⟩, 0, 0) := by
  have h1 := hv.2.2.2
  have h2 := hw.2.2.2
  refine parse_leaf (l := v.text ++ 61 :: w.text) mkQ lf zq (by simp) (by simp; omega) ?_ ?_ (leaf_pair hv hw)
  · intro c hc
    rcases List.mem_append.1 hc with hc | hc
    · exact word_nostop hv c hc
    · rcases List.mem_cons.1 hc with rfl | hc
      · decide
      · exact word_nostop hw c hc
  · obtain ⟨d, t, e⟩ := List.exists_cons_of_ne_nil hv.2.1
    have := word_head hv 78 (by decide) (by decide)
    rw [e] at this ⊢
    exact this
/-- a time by itself -/
theorem parse_time (c : UInt8) (hc : c = 62 ∨ c = 60) (n : Int) (h0 : -9223372036854775808 ≤ n) (h1 : n ≤ 9223372036854775807) :
    parseS ⟨(c :: Lib.itoa n).toArray⟩ = (⟨if c = 62 then 6 else 7, ⟨#[]⟩, n, []⟩, 0, 0) := by
  have hlen : (Lib.itoa n).length ≤ 21 := Lib.itoa_length_le n h0 h1
  have hch : ∀ x ∈ c :: Lib.itoa n, x.toNat = 45 ∨ (48 ≤ x.toNat ∧ x.toNat ≤ 57) ∨ x = 62 ∨ x = 60 := by
    intro x hx
    rcases List.mem_cons.1 hx with rfl | hx
    · exact .inr (.inr hc)
    · rcases itoa_chars n x hx with h | h
      · exact .inl h
      · exact .inr (.inl h)
  have hcl : c.toNat < 128 := by rcases hc with rfl | rfl <;> decide
  have hlo : low c = [] := by rcases hc with rfl | rfl <;> decide
  have hnil : wds ([] : List UInt8) = [] := rfl
  have hw : wds (c :: Lib.itoa n) = (wds (Lib.itoa n)).map (sh 1) := by
    have := wds_stop [] (Lib.itoa n) c hcl hlo
    rw [hnil] at this
    simpa using this
  have ho : oneB ⟨(c :: Lib.itoa n).toArray⟩ = false := by
    rw [oneB_mk, hw]
    unfold oneV
    split
    · rename_i w hw1
      rw [Bool.eq_false_iff]
      intro he
      have he2 : w.text = c :: Lib.itoa n := by simpa using he
      have hm : w ∈ (wds (Lib.itoa n)).map (sh 1) := by rw [hw1]; simp
      obtain ⟨w', hw', e'⟩ := List.mem_map.1 hm
      have h3 := wds_text_le _ w' hw'
      have h4 : w'.text = w.text := by rw [← e']; rfl
      rw [h4, he2] at h3
      simp at h3
      omega
    · rfl
  have hp : pairB ⟨(c :: Lib.itoa n).toArray⟩ = false := by
    rw [pairB_mk]
    unfold pairV
    split
    · rename_i v w _
      rw [Bool.eq_false_iff]
      intro he
      have he2 : v.text ++ 61 :: w.text = c :: Lib.itoa n := by simpa using he
      have hm : (61 : UInt8) ∈ c :: Lib.itoa n := by rw [← he2]; simp
      rcases hch 61 hm with h | h | h | h
      · exact absurd h (by decide)
      · exact absurd h.2 (by decide)
      · exact absurd h (by decide)
      · exact absurd h (by decide)
    · rfl
  have hst : (c :: Lib.itoa n) ≠ [42] := fun e => by
    injection e with e1 _
    subst e1
    rcases hc with h | h <;> exact absurd h (by decide)
  have hex : (⟨(c :: Lib.itoa n).toArray⟩ : ByteArray).extract 1 (⟨(c :: Lib.itoa n).toArray⟩ : ByteArray).size = ⟨(Lib.itoa n).toArray⟩ := by
    have h : ((⟨(c :: Lib.itoa n).toArray⟩ : ByteArray).extract 1 (⟨(c :: Lib.itoa n).toArray⟩ : ByteArray).size).data.toList = Lib.itoa n := by
      exact (extract_drop ⟨(c :: Lib.itoa n).toArray⟩ 1).trans rfl
    cases hx : (⟨(c :: Lib.itoa n).toArray⟩ : ByteArray).extract 1 (⟨(c :: Lib.itoa n).toArray⟩ : ByteArray).size with
    | mk d => rw [hx] at h; rw [← h]
  have hh : (lt (⟨(c :: Lib.itoa n).toArray⟩ : ByteArray))[0]? = some c := rfl
  have hleaf : lf (c :: Lib.itoa n) = some ⟨if c = 62 then 6 else 7, ⟨#[]⟩, n, []⟩ := by
    unfold lf leafV
    rw [if_neg (star_mk hst), if_neg (by rw [ho]; simp), if_neg (by rw [hp]; simp)]
    rw [numV_ok (v := n) (by rw [hh]; rcases hc with rfl | rfl <;> simp) (by rw [hex]; exact parse_itoa n h0 h1) (by rw [hex])]
    rw [hh]
    simp
  refine parse_leaf (l := c :: Lib.itoa n) mkQ lf zq (by simp) (by simp; omega) ?_ ?_ hleaf
  · intro x hx
    rw [Bool.eq_false_iff]
    intro h
    unfold stop at h
    have h2 : x = 32 ∨ x = 40 ∨ x = 41 := by simpa [or_assoc] using h
    rcases hch x hx with h | h | h | h <;> rcases h2 with rfl | rfl | rfl <;> first | exact absurd h (by decide) | exact absurd h.1 (by decide)
  · rcases hc with rfl | rfl <;> simp
end Go.Proofs.YtlmmbefejmbpeaaDoor.M
