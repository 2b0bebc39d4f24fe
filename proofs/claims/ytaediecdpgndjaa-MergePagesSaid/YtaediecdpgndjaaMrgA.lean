/- match.Order in plain words; lines in memory. -/
import Derived.WalkKit
import Derived.Deep.QuietTactic
import Derived.Deep.RegionHeld3
import Derived.BigQuiet
import Derived.Outline
import Derived.Test.YtaediecdpgndjaaProg
import Derived.Test.YtaediecdpgndjaaWMore
import Derived.Test.YtaediecdpgndjaaMArith
import Derived.Test.YtaediecdpgndjaaPMrg0x1
import Derived.Test.YtaediecdpgndjaaMMerge
namespace Go.Proofs.Ytaediecdpgndjaa.M
open Go.RowKit Go.Proofs.Mg Go.Proofs.YtaediecdpgndjaaW.PrintWords Go.Proofs.YtaediecdpgndjaaW.PrintLast Go.Proofs.YtaediecdpgndjaaW.PrintMore Go.Proofs.Ytaediecdpgndjaa.PMrg0
set_option linter.unusedVariables false
set_option linter.unusedSimpArgs false
abbrev chrs (x : ByteArray) : List UInt8 := x.toList
theorem chrs_toList (x : ByteArray) : x.toList = chrs x := rfl
theorem less_iff : ∀ (a b : List UInt8), Op.bytesLess a b = true ↔ a < b
  | [], [] => by simp [Op.bytesLess]
  | [], _ :: _ => by simp [Op.bytesLess]
  | _ :: _, [] => by simp [Op.bytesLess]
  | x :: a, y :: b => by
    simp only [Op.bytesLess, List.cons_lt_cons_iff]
    have ih := less_iff a b
    by_cases h : x < y
    · simp [h]
    · by_cases h2 : x = y
      · subst h2; simp [ih]
      · simp [h, h2]
def ordL (p : List UInt8) (t : Int) (q : List UInt8) (u : Int) : Int := if t < u then -1 else if u < t then 1 else if p < q then -1 else if p = q then 0 else 1
theorem tri (p q : List UInt8) (h1 : ¬ p < q) (h2 : ¬ p = q) : q < p := by
  rcases List.le_iff_lt_or_eq.1 (List.not_lt.1 h1) with h | h
  · exact h
  · exact absurd h.symm h2
theorem ordL_neg (p : List UInt8) (t : Int) (q : List UInt8) (u : Int) : ordL p t q u < 0 ↔ (t < u ∨ t = u ∧ p < q) := by
  unfold ordL
  by_cases h1 : t < u
  · simp [h1]
  · by_cases h2 : u < t
    · rw [if_neg h1, if_pos h2]; constructor
      · intro h; omega
      · rintro (h | ⟨h, _⟩) <;> omega
    · rw [if_neg h1, if_neg h2]
      by_cases h3 : p < q
      · rw [if_pos h3]; exact ⟨fun _ => .inr ⟨by omega, h3⟩, fun _ => by omega⟩
      · rw [if_neg h3]
        constructor
        · intro h; split at h <;> omega
        · rintro (h | ⟨_, h⟩)
          · omega
          · exact absurd h h3
theorem ordL_pos (p : List UInt8) (t : Int) (q : List UInt8) (u : Int) : ordL p t q u > 0 ↔ (u < t ∨ u = t ∧ q < p) := by
  unfold ordL
  by_cases h1 : t < u
  · rw [if_pos h1]; constructor
    · intro h; omega
    · rintro (h | ⟨h, _⟩) <;> omega
  · by_cases h2 : u < t
    · rw [if_neg h1, if_pos h2]; exact ⟨fun _ => .inl h2, fun _ => by omega⟩
    · rw [if_neg h1, if_neg h2]
      by_cases h3 : p < q
      · rw [if_pos h3]
        constructor
        · intro h; omega
        · rintro (h | ⟨_, h⟩)
          · omega
          · exact absurd (List.lt_trans h h3) (List.lt_irrefl _)
      · rw [if_neg h3]
        by_cases h4 : p = q
        · rw [if_pos h4]
          subst h4
          constructor
          · intro h; omega
          · rintro (h | ⟨_, h⟩)
            · omega
            · exact absurd h (List.lt_irrefl _)
        · rw [if_neg h4]
          exact ⟨fun _ => .inr ⟨by omega, tri p q h3 h4⟩, fun _ => by omega⟩
theorem or_ev (a b : Int) : Ev (fun k => cmp_Or_int.f k [a, b]) (if a = 0 then b else a) := by
  refine ⟨3, fun k hk => ?_⟩
  obtain ⟨k, rfl⟩ : ∃ j, k = j + 3 := ⟨k - 3, by omega⟩
  have e0 : rd [a, b] 0 = a := rfl
  have e1 : rd [a, b] 1 = b := rfl
  have w1 : wrap64 (0 + 1) = 1 := by rw [M.w64 (by omega) (by omega)]; rfl
  have w2 : wrap64 (1 + 1) = 2 := by rw [M.w64 (by omega) (by omega)]; rfl
  have hl : (([a, b] : List Int).length : Int) = 2 := rfl
  simp only [cmp_Or_int.f, cmp_Or_int.l0, hl]
  rw [if_pos (show (0 : Int) < 2 by decide), if_pos (show (0 : Int) ≤ 0 by decide), if_pos (show (0 : Int) < 2 by decide), e0, w1, if_pos (show (1 : Int) < 2 by decide), if_pos (show (0 : Int) ≤ 1 by decide), if_pos (show (1 : Int) < 2 by decide), e1, w2, if_neg (show ¬ (2 : Int) < 2 by decide)]
  by_cases h : a = 0
  · rw [if_pos h, if_pos h]
    by_cases h2 : b = 0
    · rw [if_pos h2, h2]
    · rw [if_neg h2]
  · rw [if_neg h, if_neg h]
theorem cmpI (t u : Int) : cmp_Compare_int64.f t u = some (if t < u then -1 else if u < t then 1 else 0) := by
  simp only [cmp_Compare_int64.f, cmp_isNaN_int64.f, Option.bind_some]
  have h1 : (t != t) = false := by simp
  have h2 : (u != u) = false := by simp
  rw [h1, h2, if_neg (by decide), if_neg (by decide)]
  by_cases h : t < u
  · rw [if_pos h, if_pos h]
  · rw [if_neg h, if_neg h]
    by_cases h' : u < t
    · rw [if_pos h', if_pos h']
    · rw [if_neg h', if_neg h']
theorem cmpS (i j : ByteArray) : cmp_Compare_string.f i j = some (if chrs i < chrs j then -1 else if chrs i = chrs j then 0 else 1) := by
  simp only [cmp_Compare_string.f, cmp_isNaN_string.f, Option.bind_some]
  have h1 : (i.toList != i.toList) = false := by simp
  have h2 : (j.toList != j.toList) = false := by simp
  rw [h1, h2, if_neg (by decide), if_neg (by decide), chrs_toList, chrs_toList]
  by_cases h : chrs i < chrs j
  · rw [if_pos ((less_iff _ _).2 h), if_pos h]
  · have hb : Op.bytesLess (chrs i) (chrs j) = false := Bool.eq_false_iff.2 (fun h' => h ((less_iff _ _).1 h'))
    rw [hb, if_neg (by decide), if_neg h, Bool.false_or]
    by_cases h' : chrs i = chrs j
    · rw [if_pos (beq_iff_eq.2 h'), if_pos h']
    · rw [if_neg (fun e => h' (beq_iff_eq.1 e)), if_neg h']
theorem order_ev (i : ByteArray) (t : Int) (s : ByteArray) (j : ByteArray) (u : Int) (s' : ByteArray) : Ev (fun k => match_Order.f k i t s j u s') (ordL (chrs i) t (chrs j) u) := by
  refine Ev.congr (f := fun k => (cmp_Or_int.f k [if t < u then -1 else if u < t then 1 else 0, if chrs i < chrs j then -1 else if chrs i = chrs j then 0 else 1]).bind fun x => some x) (fun k => ?_) (Ev.bind (or_ev _ _) ?_)
  · simp only [match_Order.f]
    rw [cmpI, cmpS, Option.bind_some, Option.bind_some]
  · refine ⟨0, fun k _ => ?_⟩
    dsimp only
    unfold ordL
    by_cases h1 : t < u
    · simp [h1]
    · by_cases h2 : u < t
      · simp [h1, h2]
      · simp [h1, h2]
theorem ahead_eq (i : ByteArray) (t : Int) (s : ByteArray) (j : ByteArray) (u : Int) (s' : ByteArray) : fascineref07_Ahead.f i t s j u s' = some (decide (t < u ∨ t = u ∧ chrs i < chrs j)) := by
  unfold fascineref07_Ahead.f
  by_cases h1 : t < u
  · rw [if_pos h1, decide_eq_true (.inl h1)]
  · rw [if_neg h1]
    by_cases h2 : t = u
    · rw [if_pos h2, chrs_toList, chrs_toList]
      congr 1
      by_cases h3 : chrs i < chrs j
      · rw [(less_iff _ _).2 h3, decide_eq_true (.inr ⟨h2, h3⟩)]
      · rw [Bool.eq_false_iff.2 (fun h' => h3 ((less_iff _ _).1 h'))]
        refine (decide_eq_false ?_).symm
        rintro (h | ⟨_, h⟩)
        · exact h1 h
        · exact h3 h
    · rw [if_neg h2]
      congr 1
      refine (decide_eq_false ?_).symm
      rintro (h | ⟨h, _⟩)
      · exact h1 h
      · exact h2 h
/-- Order of two entries -/
def ordV (x y : S31) : Int := ordL (chrs x.f0) x.f1 (chrs y.f0) y.f1
def lt31 (x y : S31) : Bool := decide (ordV x y < 0)
theorem lt31_iff (x y : S31) : lt31 x y = true ↔ (x.f1 < y.f1 ∨ x.f1 = y.f1 ∧ chrs x.f0 < chrs y.f0) := by unfold lt31 ordV; rw [decide_eq_true_iff, ordL_neg]
theorem ordV_pos (x y : S31) : decide (ordV x y > 0) = lt31 y x := by
  unfold lt31 ordV
  exact decide_eq_decide.2 ((ordL_pos _ _ _ _).trans (ordL_neg _ _ _ _).symm)
theorem lt31_o : LtO lt31 := by
  constructor
  · intro a b h
    rw [Bool.eq_false_iff]
    intro h2
    rw [lt31_iff] at h h2
    rcases h with h | ⟨h, h'⟩ <;> rcases h2 with g | ⟨g, g'⟩
    · omega
    · omega
    · omega
    · exact absurd (List.lt_trans h' g') (List.lt_irrefl _)
  · intro a b c h1 h2
    rw [Bool.eq_false_iff] at h1 h2 ⊢
    intro h3
    rw [ne_eq, lt31_iff] at h1 h2
    rw [lt31_iff] at h3
    have t1 : ¬ b.f1 < a.f1 := fun x => h1 (.inl x)
    have t2 : ¬ c.f1 < b.f1 := fun x => h2 (.inl x)
    rcases h3 with g | ⟨g, g'⟩
    · omega
    · have c1 : ¬ chrs b.f0 < chrs a.f0 := fun x => h1 (.inr ⟨by omega, x⟩)
      have c2 : ¬ chrs c.f0 < chrs b.f0 := fun x => h2 (.inr ⟨by omega, x⟩)
      rcases List.le_iff_lt_or_eq.1 (List.not_lt.1 c1) with d | d
      · exact c2 (List.lt_trans g' d)
      · exact c2 (d ▸ g')
abbrev docV (x : S31) : Value := .agg #[.string x.f0, .int .i64 x.f1, .string x.f2]
theorem order_any (x y : S31) (w : World) : Calls Try.prog 14 #[docV x, docV y] w fun e w' => e = .returned (.int .i64 (ordV x y)) ∧ Below w.heap.size w w' := by
  obtain ⟨K, hK⟩ := order_ev x.f0 x.f1 x.f2 y.f0 y.f1 y.f2
  exact match_Order.calls K _ _ _ _ _ _ _ w (hK K (Nat.le_refl _))
end Go.Proofs.Ytaediecdpgndjaa.M
