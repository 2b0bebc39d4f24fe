/- Queries read out of a text with blanks about it, plainly: the same, at other places. -/
import Derived.Test.YtlmmbefejmbpeaaDoorMQuery
namespace Go.Proofs.Qp
set_option linter.unusedVariables false
section
variable {Q : Type} (l : List UInt8) (mk : Int → List Q → Q) (leaf : List UInt8 → Option Q)
/-- the text with two blanks ahead of it, and one behind it -/
def pad : List UInt8 := 32 :: 32 :: (l ++ [32])
/-- a place, and the same place among the blanks -/
def Rp (a a' : Nat) : Prop := a ≤ l.length ∧ (a' = a + 2 ∨ (a = l.length ∧ a' = l.length + 3))
/-- such a place behind blanks -/
def Sp (a a' : Nat) : Prop := (a < l.length ∧ a' = a + 2) ∨ (a = l.length ∧ a' = l.length + 3)
variable {l}
theorem Sp.rp {a a' : Nat} (h : Sp l a a') : Rp l a a' := by
  unfold Sp at h; unfold Rp
  rcases h with ⟨h1, h2⟩ | ⟨h1, h2⟩
  · exact ⟨by omega, .inl h2⟩
  · exact ⟨by omega, .inr ⟨h1, h2⟩⟩
theorem pad_len : (pad l).length = l.length + 3 := by unfold pad; simp
theorem pad_drop {a : Nat} (h : a ≤ l.length) : (pad l).drop (a + 2) = l.drop a ++ [32] := by
  unfold pad
  rw [show a + 2 = (a + 1) + 1 from rfl, List.drop_succ_cons, List.drop_succ_cons, List.drop_append_of_le_length h]
theorem pad_end : (pad l).drop (l.length + 3) = [] := List.drop_eq_nil_of_le (by rw [pad_len]; omega)
theorem tw_app (p : UInt8 → Bool) (hp : p 32 = true) : ∀ m : List UInt8, ((m ++ [32]).takeWhile p).length = if (m.takeWhile p).length = m.length then m.length + 1 else (m.takeWhile p).length
  | [] => by simp [hp]
  | x :: t => by
    have ih := tw_app p hp t
    rw [List.cons_append, List.takeWhile_cons, List.takeWhile_cons]
    cases hx : p x with
    | true =>
      simp only [if_true, List.length_cons, ih]
      split <;> split <;> omega
    | false => simp
theorem tw_stop32 (p : UInt8 → Bool) (hp : p 32 = false) : ∀ m : List UInt8, (m ++ [32]).takeWhile p = m.takeWhile p
  | [] => by simp [hp]
  | x :: t => by
    rw [List.cons_append, List.takeWhile_cons, List.takeWhile_cons, tw_stop32 p hp t]
theorem skip_rel {a a' : Nat} (h : Rp l a a') : Sp l (skip l a) (skip (pad l) a') := by
  obtain ⟨h1, h2⟩ := h
  unfold Sp
  rcases h2 with rfl | ⟨rfl, rfl⟩
  · unfold skip
    rw [pad_drop h1, tw_app _ (by decide)]
    have hle := (List.takeWhile_prefix (p := fun c : UInt8 => c == 32) (l := l.drop a)).length_le
    rw [List.length_drop] at hle ⊢
    split
    · rename_i he; right; rw [he]; omega
    · left; omega
  · right
    unfold skip
    rw [pad_end, List.drop_length]
    simp
theorem pre_app (p : List UInt8) (hp : 32 ∉ p) : ∀ m : List UInt8, p.isPrefixOf (m ++ [32]) = p.isPrefixOf m := by
  induction p with
  | nil => intro m; simp
  | cons c p ih =>
    intro m
    cases m with
    | nil =>
      have : c ≠ 32 := fun e => hp (by rw [e]; exact List.mem_cons_self)
      simp [List.isPrefixOf, this]
    | cons x t =>
      rw [List.cons_append]
      simp only [List.isPrefixOf]
      rw [ih (fun h => hp (List.mem_cons_of_mem _ h)) t]
theorem isB_rel {a a' : Nat} (h : Sp l a a') (p : List UInt8) (hp : 32 ∉ p) (hn : p ≠ []) : isB (pad l) a' p = isB l a p := by
  unfold isB
  rcases h with ⟨h1, rfl⟩ | ⟨rfl, rfl⟩
  · rw [pad_drop (by omega), pre_app p hp]
  · rw [pad_end, List.drop_length]
theorem endB_rel {a a' : Nat} (h : Rp l a a') : endB (pad l) a' = endB l a := by
  obtain ⟨h1, h2⟩ := h
  unfold endB
  rcases h2 with rfl | ⟨rfl, rfl⟩
  · have e : (pad l)[a + 2]? = (l ++ [32])[a]? := by unfold pad; rfl
    rw [e]
    rcases Nat.lt_or_ge a l.length with hl | hl
    · rw [List.getElem?_append_left hl]
    · have : a = l.length := by omega
      subst this
      rw [List.getElem?_append_right (Nat.le_refl _), Nat.sub_self]
      rw [List.getElem?_eq_none (Nat.le_refl _)]
      rfl
  · rw [List.getElem?_eq_none (by rw [pad_len]; omega), List.getElem?_eq_none (Nat.le_refl _)]
theorem word_rel {a a' : Nat} (h : Sp l a a') : wordAt (pad l) a' = wordAt l a := by
  unfold wordAt
  rcases h with ⟨h1, rfl⟩ | ⟨rfl, rfl⟩
  · rw [pad_drop (by omega)]
    exact tw_stop32 _ (by decide) _
  · rw [pad_end, List.drop_length]
theorem Rp.add {a a' n : Nat} (h : Sp l a a') (hn : 0 < n) (hl : a + n ≤ l.length) : Rp l (a + n) (a' + n) := by
  rcases h with ⟨h1, rfl⟩ | ⟨rfl, rfl⟩
  · exact ⟨hl, .inl (by omega)⟩
  · omega
/-- what two readers answer: the same, at places that go together -/
def OutR : Rs Q → Rs Q → Prop
  | .ok q a o, .ok q' a' o' => q' = q ∧ Rp l a a' ∧ o' = o
  | .bad p e, .bad p' e' => e' = e ∧ e ≠ 0 ∧ Rp l p p'
  | _, _ => False
variable (l)
def Rel (f : Nat) (N N' : Nat → Nat → Rs Q) : Prop := ∀ a a' o, Rp l a a' → l.length < f + a → OutR (l := l) (N a o) (N' a' o)
variable {l}
theorem and_rel {f : Nat} {N N' : Nat → Nat → Rs Q} (hN : Rel l f N N') (hG : Goes l N) (hG' : Goes (pad l) N') : ∀ (k k' : Nat) (acc : List Q) (a a' o : Nat), Rp l a a' → l.length < f + a → l.length < k + a → (pad l).length < k' + a' → OutR (l := l) (andLoop l mk N k acc a o) (andLoop (pad l) mk N' k' acc a' o) := by
  intro k
  induction k with
  | zero => intro k' acc a a' o h hf hk hk'; have := h.1; omega
  | succ k ih =>
    intro k' acc a a' o h hf hk hk'
    have ha' : a' ≤ l.length + 3 := by obtain ⟨h1, h2⟩ := h; omega
    obtain ⟨k', rfl⟩ : ∃ j, k' = j + 1 := ⟨k' - 1, by rw [pad_len] at hk'; omega⟩
    have hs := skip_rel h
    have h1 := skip_ge l a
    have h1' := skip_ge (pad l) a'
    have hsp := hs
    unfold andLoop
    generalize skip l a = b at *
    generalize skip (pad l) a' = b' at *
    rw [isB_rel hs [41] (by decide) (by simp), isB_rel hs [79, 82] (by decide) (by simp)]
    have hc : ((pad l).length ≤ b' ∨ isB l b [41] = true ∨ isB l b [79, 82] = true ∧ endB (pad l) (b' + 2) = true) ↔ (l.length ≤ b ∨ isB l b [41] = true ∨ isB l b [79, 82] = true ∧ endB l (b + 2) = true) := by
      rw [pad_len]
      have e1 : (l.length + 3 ≤ b') ↔ l.length ≤ b := by unfold Sp at hs; omega
      have e2 : isB l b [79, 82] = true → endB (pad l) (b' + 2) = endB l (b + 2) := fun hi => endB_rel (Rp.add (n := 2) hs (by omega) (isB_le l hi (by simp)))
      constructor
      · rintro (h | h | ⟨h, h3⟩)
        · exact .inl (e1.1 h)
        · exact .inr (.inl h)
        · exact .inr (.inr ⟨h, by rw [← e2 h]; exact h3⟩)
      · rintro (h | h | ⟨h, h3⟩)
        · exact .inl (e1.2 h)
        · exact .inr (.inl h)
        · exact .inr (.inr ⟨h, by rw [e2 h]; exact h3⟩)
    by_cases hcc : l.length ≤ b ∨ isB l b [41] = true ∨ isB l b [79, 82] = true ∧ endB l (b + 2) = true
    · rw [if_pos hcc, if_pos (hc.2 hcc)]
      exact ⟨rfl, hs.rp, rfl⟩
    · rw [if_neg hcc, if_neg (fun x => hcc (hc.1 x))]
      have hr := hN b b' o hs.rp (by omega)
      have hb : b ≤ l.length := hs.rp.1
      have hb' : b' ≤ (pad l).length := by rw [pad_len]; unfold Sp at hs; omega
      cases e1 : N b o with
      | bad p c =>
        cases e2 : N' b' o with
        | bad p' c' => rw [e1, e2] at hr; exact hr
        | ok q' a1' o' => rw [e1, e2] at hr; exact hr.elim
      | ok q a1 o1 =>
        cases e2 : N' b' o with
        | bad p' c' => rw [e1, e2] at hr; exact hr.elim
        | ok q' a1' o1' =>
          rw [e1, e2] at hr
          obtain ⟨rfl, hr2, rfl⟩ := hr
          obtain ⟨g1, _, _⟩ := hG _ _ _ _ _ hb e1
          obtain ⟨g2, _, _⟩ := hG' _ _ _ _ _ hb' e2
          exact ih k' _ _ _ _ hr2 (by omega) (by omega) (by omega)
theorem andV_rel {f : Nat} {N N' : Nat → Nat → Rs Q} (hN : Rel l f N N') (hG : Goes l N) (hG' : Goes (pad l) N') : Rel l f (andV l mk N) (andV (pad l) mk N') := by
  intro a a' o h hf
  have hr := hN a a' o h hf
  have hb : a ≤ l.length := h.1
  have hb' : a' ≤ (pad l).length := by rw [pad_len]; obtain ⟨h1, h2⟩ := h; omega
  unfold andV
  cases e1 : N a o with
  | bad p c =>
    cases e2 : N' a' o with
    | bad p' c' => rw [e1, e2] at hr; exact hr
    | ok q' a1' o' => rw [e1, e2] at hr; exact hr.elim
  | ok q a1 o1 =>
    cases e2 : N' a' o with
    | bad p' c' => rw [e1, e2] at hr; exact hr.elim
    | ok q' a1' o1' =>
      rw [e1, e2] at hr
      obtain ⟨rfl, hr2, rfl⟩ := hr
      obtain ⟨g1, _, _⟩ := hG _ _ _ _ _ hb e1
      exact and_rel mk hN hG hG' _ _ _ _ _ _ hr2 (by omega) (by omega) (by omega)
theorem or_rel {f : Nat} {N N' : Nat → Nat → Rs Q} (hN : Rel l f N N') (hG : Goes l N) (hG' : Goes (pad l) N') : ∀ (k k' : Nat) (acc : List Q) (a a' o : Nat), Rp l a a' → l.length < f + a → l.length < k + a → (pad l).length < k' + a' → OutR (l := l) (orLoop l mk N k acc a o) (orLoop (pad l) mk N' k' acc a' o) := by
  intro k
  induction k with
  | zero => intro k' acc a a' o h hf hk hk'; have := h.1; omega
  | succ k ih =>
    intro k' acc a a' o h hf hk hk'
    have ha' : a' ≤ l.length + 3 := by obtain ⟨h1, h2⟩ := h; omega
    obtain ⟨k', rfl⟩ : ∃ j, k' = j + 1 := ⟨k' - 1, by rw [pad_len] at hk'; omega⟩
    have hs := skip_rel h
    have h1 := skip_ge l a
    have h1' := skip_ge (pad l) a'
    unfold orLoop
    generalize skip l a = b at *
    generalize skip (pad l) a' = b' at *
    rw [isB_rel hs [79, 82] (by decide) (by simp)]
    by_cases hcc : isB l b [79, 82] = true ∧ endB l (b + 2) = true
    · have hle := isB_le l hcc.1 (by simp)
      have hr1 : Rp l (b + 2) (b' + 2) := Rp.add hs (by omega) hle
      have hle2 : b + 2 ≤ l.length := hr1.1
      rw [if_pos hcc, if_pos ⟨hcc.1, by rw [endB_rel hr1]; exact hcc.2⟩]
      have hr := hN (b + 2) (b' + 2) o hr1 (by omega)
      have hb' : b' + 2 ≤ (pad l).length := by rw [pad_len]; obtain ⟨h1, h2⟩ := hr1; omega
      cases e1 : N (b + 2) o with
      | bad p c =>
        cases e2 : N' (b' + 2) o with
        | bad p' c' => rw [e1, e2] at hr; exact hr
        | ok q' a1' o' => rw [e1, e2] at hr; exact hr.elim
      | ok q a1 o1 =>
        cases e2 : N' (b' + 2) o with
        | bad p' c' => rw [e1, e2] at hr; exact hr.elim
        | ok q' a1' o1' =>
          rw [e1, e2] at hr
          obtain ⟨rfl, hr2, rfl⟩ := hr
          obtain ⟨g1, _, _⟩ := hG _ _ _ _ _ hle2 e1
          obtain ⟨g2, _, _⟩ := hG' _ _ _ _ _ hb' e2
          exact ih k' _ _ _ _ hr2 (by omega) (by omega) (by omega)
    · have e2 : isB l b [79, 82] = true → endB (pad l) (b' + 2) = endB l (b + 2) := fun hi => endB_rel (Rp.add (n := 2) hs (by omega) (isB_le l hi (by simp)))
      have hcc' : ¬ (isB l b [79, 82] = true ∧ endB (pad l) (b' + 2) = true) := fun x => hcc ⟨x.1, by rw [← e2 x.1]; exact x.2⟩
      rw [if_neg hcc, if_neg hcc']
      exact ⟨rfl, hs.rp, rfl⟩
theorem orV_rel {f : Nat} {N N' : Nat → Nat → Rs Q} (hN : Rel l f N N') (hG : Goes l N) (hG' : Goes (pad l) N') : Rel l f (orV l mk N) (orV (pad l) mk N') := by
  intro a a' o h hf
  have hr := hN a a' o h hf
  have hb : a ≤ l.length := h.1
  unfold orV
  cases e1 : N a o with
  | bad p c =>
    cases e2 : N' a' o with
    | bad p' c' => rw [e1, e2] at hr; exact hr
    | ok q' a1' o' => rw [e1, e2] at hr; exact hr.elim
  | ok q a1 o1 =>
    cases e2 : N' a' o with
    | bad p' c' => rw [e1, e2] at hr; exact hr.elim
    | ok q' a1' o1' =>
      rw [e1, e2] at hr
      obtain ⟨rfl, hr2, rfl⟩ := hr
      obtain ⟨g1, _, _⟩ := hG _ _ _ _ _ hb e1
      exact or_rel mk hN hG hG' _ _ _ _ _ _ hr2 (by omega) (by omega) (by omega)
theorem not_rel (hl : leaf [] = none) : ∀ (f f' : Nat), f ≤ f' → Rel l f (notV l mk leaf f) (notV (pad l) mk leaf f') := by
  intro f
  induction f with
  | zero => intro f' _ a a' o h hf; have := h.1; omega
  | succ f ih =>
    intro f' hff a a' o h hf
    obtain ⟨f', rfl⟩ : ∃ j, f' = j + 1 := ⟨f' - 1, by omega⟩
    have hs := skip_rel h
    have h1 := skip_ge l a
    have ih' := ih f' (by omega)
    unfold notV
    generalize skip l a = b at *
    generalize skip (pad l) a' = b' at *
    rw [isB_rel hs [78, 79, 84] (by decide) (by simp), isB_rel hs [40] (by decide) (by simp), word_rel hs]
    have hS4 : OutR (l := l) (.bad b 4 : Rs Q) (.bad b' 4) := ⟨rfl, by decide, hs.rp⟩
    have hS7 : OutR (l := l) (.bad b 7 : Rs Q) (.bad b' 7) := ⟨rfl, by decide, hs.rp⟩
    by_cases hk : isB l b [78, 79, 84] = true ∧ endB l (b + 3) = true
    · have hle := isB_le l hk.1 (by simp)
      have hr1 : Rp l (b + 3) (b' + 3) := Rp.add hs (by omega) hle
      have hk' : isB l b [78, 79, 84] = true ∧ endB (pad l) (b' + 3) = true := ⟨hk.1, by rw [endB_rel hr1]; exact hk.2⟩
      rw [if_pos hk, if_pos hk']
      by_cases h16 : 16 < o + 1
      · rw [if_pos h16, if_pos h16]; exact hS7
      · rw [if_neg h16, if_neg h16]
        have hr := ih' (b + 3) (b' + 3) (o + 1) hr1 (by omega)
        cases e1 : notV l mk leaf f (b + 3) (o + 1) with
        | bad p c =>
          cases e2 : notV (pad l) mk leaf f' (b' + 3) (o + 1) with
          | bad p' c' => rw [e1, e2] at hr; exact hr
          | ok q' a1' o' => rw [e1, e2] at hr; exact hr.elim
        | ok q a1 o1 =>
          cases e2 : notV (pad l) mk leaf f' (b' + 3) (o + 1) with
          | bad p' c' => rw [e1, e2] at hr; exact hr.elim
          | ok q' a1' o1' =>
            rw [e1, e2] at hr
            obtain ⟨rfl, hr2, rfl⟩ := hr
            exact ⟨rfl, hr2, rfl⟩
    · have e2 : isB l b [78, 79, 84] = true → endB (pad l) (b' + 3) = endB l (b + 3) := fun hi => endB_rel (Rp.add (n := 3) hs (by omega) (isB_le l hi (by simp)))
      have hk' : ¬ (isB l b [78, 79, 84] = true ∧ endB (pad l) (b' + 3) = true) := fun x => hk ⟨x.1, by rw [← e2 x.1]; exact x.2⟩
      rw [if_neg hk, if_neg hk']
      by_cases hp : isB l b [40] = false
      · rw [if_pos hp, if_pos hp]
        cases e : leaf (wordAt l b) with
        | none => exact hS4
        | some q =>
          have hw : wordAt l b ≠ [] := fun x => by rw [x, hl] at e; cases e
          have := List.length_pos_iff.2 hw
          exact ⟨rfl, Rp.add hs this (word_le l hs.rp.1), rfl⟩
      · have hp' : isB l b [40] = true := by simpa using hp
        rw [if_neg hp, if_neg hp]
        by_cases h16 : 16 < o + 1
        · rw [if_pos h16, if_pos h16]; exact hS7
        · rw [if_neg h16, if_neg h16]
          have hr1 : Rp l (b + 1) (b' + 1) := Rp.add hs (by omega) (isB_le l hp' (by simp))
          have hg := notV_goes l mk leaf hl f
          have hg' := notV_goes (pad l) mk leaf hl f'
          have hr := orV_rel mk (andV_rel mk ih' hg hg') (andV_goes l mk hg) (andV_goes (pad l) mk hg') (b + 1) (b' + 1) (o + 1) hr1 (by omega)
          cases e1 : orV l mk (andV l mk (notV l mk leaf f)) (b + 1) (o + 1) with
          | bad p c =>
            cases e2 : orV (pad l) mk (andV (pad l) mk (notV (pad l) mk leaf f')) (b' + 1) (o + 1) with
            | bad p' c' => rw [e1, e2] at hr; exact hr
            | ok q' a1' o' => rw [e1, e2] at hr; exact hr.elim
          | ok q a1 o1 =>
            cases e2 : orV (pad l) mk (andV (pad l) mk (notV (pad l) mk leaf f')) (b' + 1) (o + 1) with
            | bad p' c' => rw [e1, e2] at hr; exact hr.elim
            | ok q' a1' o1' =>
              rw [e1, e2] at hr
              obtain ⟨rfl, hr2, rfl⟩ := hr
              have hs2 := skip_rel hr2
              simp only
              generalize skip l a1 = c at *
              generalize skip (pad l) a1' = c' at *
              rw [isB_rel hs2 [41] (by decide) (by simp)]
              by_cases h5 : isB l c [41] = true
              · rw [if_pos h5, if_pos h5]
                exact ⟨rfl, Rp.add hs2 (by omega) (isB_le l h5 (by simp)), rfl⟩
              · rw [if_neg h5, if_neg h5]
                exact ⟨rfl, by decide, hs2.rp⟩
/-- blanks about a text change nothing but places -/
theorem parse_rel (hl : leaf [] = none) (zero : Q) (h5 : l.length ≤ 500) : ∃ e : Int, (parseV l mk leaf zero).2.2 = e ∧ (parseV (pad l) mk leaf zero).2.2 = e ∧ (parseV (pad l) mk leaf zero).1 = (parseV l mk leaf zero).1 ∧
    ((e = 0 ∧ (parseV l mk leaf zero).2.1 = 0 ∧ (parseV (pad l) mk leaf zero).2.1 = 0) ∨ (e ≠ 0 ∧ Rp l (parseV l mk leaf zero).2.1 (parseV (pad l) mk leaf zero).2.1)) := by
  have hg := notV_goes l mk leaf hl (l.length + 1)
  have hg' := notV_goes (pad l) mk leaf hl ((pad l).length + 1)
  have hr := orV_rel mk (andV_rel mk (not_rel mk leaf hl (l.length + 1) ((pad l).length + 1) (by rw [pad_len]; omega)) hg hg') (andV_goes l mk hg) (andV_goes (pad l) mk hg') 0 2 0 ⟨Nat.zero_le _, .inl rfl⟩ (by omega)
  have h0 : orV (pad l) mk (andV (pad l) mk (notV (pad l) mk leaf ((pad l).length + 1))) 0 0 = orV (pad l) mk (andV (pad l) mk (notV (pad l) mk leaf ((pad l).length + 1))) 2 0 := by
    unfold orV andV
    have : notV (pad l) mk leaf ((pad l).length + 1) 0 0 = notV (pad l) mk leaf ((pad l).length + 1) 2 0 := by
      unfold notV
      have hsk : skip (pad l) 0 = skip (pad l) 2 := by
        unfold skip pad
        simp
        omega
      rw [hsk]
    rw [this]
  unfold parseV
  rw [if_neg (by omega), if_neg (by rw [pad_len]; omega), h0]
  cases e1 : orV l mk (andV l mk (notV l mk leaf (l.length + 1))) 0 0 with
  | bad p c =>
    cases e2 : orV (pad l) mk (andV (pad l) mk (notV (pad l) mk leaf ((pad l).length + 1))) 2 0 with
    | bad p' c' =>
      rw [e1, e2] at hr
      obtain ⟨rfl, hc, hp⟩ := hr
      exact ⟨_, rfl, rfl, rfl, .inr ⟨hc, hp⟩⟩
    | ok q' a1' o' => rw [e1, e2] at hr; exact hr.elim
  | ok q a1 o1 =>
    cases e2 : orV (pad l) mk (andV (pad l) mk (notV (pad l) mk leaf ((pad l).length + 1))) 2 0 with
    | bad p' c' => rw [e1, e2] at hr; exact hr.elim
    | ok q' a1' o1' =>
      rw [e1, e2] at hr
      obtain ⟨rfl, hr2, rfl⟩ := hr
      have hs2 := skip_rel hr2
      simp only
      generalize skip l a1 = c at *
      generalize skip (pad l) a1' = c' at *
      rw [pad_len]
      by_cases h : c < l.length
      · rw [if_pos h, if_pos (by unfold Sp at hs2; omega)]
        exact ⟨4, rfl, rfl, rfl, .inr ⟨by decide, hs2.rp⟩⟩
      · rw [if_neg h, if_neg (by unfold Sp at hs2; omega)]
        exact ⟨0, rfl, rfl, rfl, .inl ⟨rfl, rfl, rfl⟩⟩
end
end Go.Proofs.Qp
