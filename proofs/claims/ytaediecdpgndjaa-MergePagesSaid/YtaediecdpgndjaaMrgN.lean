/- Which lists the lines are; what Merge answers. -/
import Derived.Test.YtaediecdpgndjaaMrgM
namespace Go.Proofs.Ytaediecdpgndjaa.M
open Go.RowKit Go.Proofs.Mg Go.Proofs.YtaediecdpgndjaaW.PrintWords Go.Proofs.YtaediecdpgndjaaW.PrintLast Go.Proofs.YtaediecdpgndjaaW.PrintMore Go.Proofs.Ytaediecdpgndjaa.PMrg0
set_option linter.unusedVariables false
set_option linter.unusedSimpArgs false
structure LinesOf (g : Nat → Ln) (n : Nat) (rs : List (List S31)) : Prop where
  at_ : ∀ c, c < n → ∃ i : Nat, (g c).n = (i : Int) ∧ rs[i]? = some ((g c).h :: (g c).t)
  all_ : ∀ (i : Nat) y ys, rs[i]? = some (y :: ys) → ∃ c, c < n ∧ (g c).n = (i : Int)
  inj : ∀ c d, c < n → d < n → (g c).n = (g d).n → c = d
theorem LinesOf.pm {g g' : Nat → Ln} {n : Nat} {rs : List (List S31)} (h : LinesOf g n rs) (p : Pm g g' n) : LinesOf g' n rs := by
  obtain ⟨f, f1, f2, f3⟩ := p
  refine ⟨fun c hc => ?_, fun i y ys hi => ?_, fun c d hc hd e => ?_⟩
  · rw [(f1 c hc).2]; exact h.at_ _ (f1 c hc).1
  · obtain ⟨d, hd, e⟩ := h.all_ i y ys hi
    obtain ⟨c, hc, rfl⟩ := f3 d hd
    exact ⟨c, hc, by rw [(f1 c hc).2]; exact e⟩
  · rw [(f1 c hc).2, (f1 d hd).2] at e
    exact f2 c d hc hd (h.inj _ _ (f1 c hc).1 (f1 d hd).1 e)
theorem LinesOf.nil (g : Nat → Ln) : LinesOf g 0 [] := ⟨fun c hc => by omega, fun i y ys h => by simp at h, fun c d hc => by omega⟩
theorem LinesOf.skip {g : Nat → Ln} {n : Nat} {rs : List (List S31)} (h : LinesOf g n rs) : LinesOf g n (rs ++ [[]]) := by
  refine ⟨fun c hc => ?_, fun i y ys hi => ?_, h.inj⟩
  · obtain ⟨i, h1, h2⟩ := h.at_ c hc
    exact ⟨i, h1, by rw [List.getElem?_append_left (List.getElem?_eq_some_iff.1 h2).1]; exact h2⟩
  · refine h.all_ i y ys ?_
    rcases Nat.lt_or_ge i rs.length with hl | hl
    · rwa [List.getElem?_append_left hl] at hi
    · rw [List.getElem?_append_right hl] at hi
      cases hk : i - rs.length with
      | zero => rw [hk] at hi; simp at hi
      | succ k => rw [hk] at hi; simp at hi
theorem LinesOf.push {g : Nat → Ln} {n : Nat} {rs : List (List S31)} (h : LinesOf g n rs) {x : Ln} (hx : x.n = (rs.length : Int)) : LinesOf (updN g n x) (n + 1) (rs ++ [x.h :: x.t]) := by
  have hlt : ∀ c, c < n → ∃ i : Nat, (g c).n = (i : Int) ∧ i < rs.length := fun c hc => by
    obtain ⟨i, h1, h2⟩ := h.at_ c hc
    exact ⟨i, h1, (List.getElem?_eq_some_iff.1 h2).1⟩
  refine ⟨fun c hc => ?_, fun i y ys hi => ?_, fun c d hc hd e => ?_⟩
  · unfold updN
    by_cases hcn : c = n
    · rw [if_pos hcn]
      exact ⟨rs.length, hx, by simp⟩
    · rw [if_neg hcn]
      obtain ⟨i, h1, h2⟩ := h.at_ c (by omega)
      exact ⟨i, h1, by rw [List.getElem?_append_left (List.getElem?_eq_some_iff.1 h2).1]; exact h2⟩
  · rcases Nat.lt_or_ge i rs.length with hl | hl
    · rw [List.getElem?_append_left hl] at hi
      obtain ⟨c, hc, e⟩ := h.all_ i y ys hi
      exact ⟨c, by omega, by unfold updN; rw [if_neg (by omega)]; exact e⟩
    · have hii : i = rs.length := by
        have := (List.getElem?_eq_some_iff.1 hi).1
        simp at this; omega
      exact ⟨n, by omega, by unfold updN; rw [if_pos rfl, hx, hii]⟩
  · unfold updN at e
    by_cases h1 : c = n <;> by_cases h2 : d = n
    · omega
    · rw [if_pos h1, if_neg h2] at e
      obtain ⟨i, e1, e2⟩ := hlt d (by omega)
      omega
    · rw [if_neg h1, if_pos h2] at e
      obtain ⟨i, e1, e2⟩ := hlt c (by omega)
      omega
    · rw [if_neg h1, if_neg h2] at e
      exact h.inj c d (by omega) (by omega) e
/-- the first line is taken off: its list has none left -/
theorem LinesOf.pop {g : Nat → Ln} {n i : Nat} {rs : List (List S31)} (h : LinesOf g (n + 1) rs) (hi : (g 0).n = (i : Int)) : LinesOf (sw g 0 n) n (rs.set i []) := by
  have hs : ∀ c, c < n → ∃ d, d < n + 1 ∧ 0 < d ∧ sw g 0 n c = g d ∧ ((c = 0 ∧ d = n) ∨ (0 < c ∧ d = c)) := fun c hc => by
    rw [sw_at]
    by_cases h0 : c = 0
    · exact ⟨n, by omega, by omega, by rw [if_pos h0], .inl ⟨h0, rfl⟩⟩
    · exact ⟨c, by omega, by omega, by rw [if_neg h0, if_neg (by omega)], .inr ⟨by omega, rfl⟩⟩
  refine ⟨fun c hc => ?_, fun j y ys hj => ?_, fun c d hc hd e => ?_⟩
  · obtain ⟨d, hd, h0, e, _⟩ := hs c hc
    rw [e]
    obtain ⟨j, h1, h2⟩ := h.at_ d hd
    refine ⟨j, h1, ?_⟩
    rw [List.getElem?_set_ne (fun e2 => ?_)]
    · exact h2
    · have := h.inj d 0 hd (by omega) (by rw [h1, hi, e2])
      omega
  · have hne : i ≠ j := by
      rintro rfl
      rw [List.getElem?_set_self' ] at hj
      cases hq : rs[i]? with
      | none => rw [hq] at hj; simp at hj
      | some v => rw [hq] at hj; simp at hj
    rw [List.getElem?_set_ne hne] at hj
    obtain ⟨d, hd, e⟩ := h.all_ j y ys hj
    have hd0 : d ≠ 0 := by rintro rfl; rw [hi] at e; omega
    by_cases hdn : d = n
    · exact ⟨0, by omega, by rw [sw_at, if_pos rfl, ← hdn]; exact e⟩
    · exact ⟨d, by omega, by rw [sw_at, if_neg hd0, if_neg hdn]; exact e⟩
  · obtain ⟨c', hc', _, e1, k1⟩ := hs c hc
    obtain ⟨d', hd', _, e2, k2⟩ := hs d hd
    rw [e1, e2] at e
    have := h.inj c' d' hc' hd' e
    omega
/-- .. and what is left of it is put on again -/
theorem LinesOf.again {g : Nat → Ln} {n i : Nat} {rs : List (List S31)} (h : LinesOf g n (rs.set i [])) (hi : i < rs.length) {x : Ln} (hx : x.n = (i : Int)) : LinesOf (updN g n x) (n + 1) (rs.set i (x.h :: x.t)) := by
  have hne : ∀ c, c < n → (g c).n ≠ (i : Int) := fun c hc e => by
    obtain ⟨j, h1, h2⟩ := h.at_ c hc
    have : j = i := by omega
    subst this
    rw [List.getElem?_set_self hi] at h2; simp at h2
  refine ⟨fun c hc => ?_, fun j y ys hj => ?_, fun c d hc hd e => ?_⟩
  · unfold updN
    by_cases hcn : c = n
    · rw [if_pos hcn]
      exact ⟨i, hx, by rw [List.getElem?_set_self hi]⟩
    · rw [if_neg hcn]
      obtain ⟨j, h1, h2⟩ := h.at_ c (by omega)
      have hji : i ≠ j := by rintro rfl; exact hne c (by omega) h1
      exact ⟨j, h1, by rw [List.getElem?_set_ne hji]; rwa [List.getElem?_set_ne hji] at h2⟩
  · by_cases hji : i = j
    · exact ⟨n, by omega, by unfold updN; rw [if_pos rfl, hx, hji]⟩
    · rw [List.getElem?_set_ne hji] at hj
      obtain ⟨c, hc, e⟩ := h.all_ j y ys (by rw [List.getElem?_set_ne hji]; exact hj)
      exact ⟨c, by omega, by unfold updN; rw [if_neg (by omega)]; exact e⟩
  · unfold updN at e
    by_cases h1 : c = n <;> by_cases h2 : d = n
    · omega
    · rw [if_pos h1, if_neg h2, hx] at e; exact absurd e.symm (hne d (by omega))
    · rw [if_neg h1, if_pos h2, hx] at e; exact absurd e (hne c (by omega))
    · rw [if_neg h1, if_neg h2] at e
      exact h.inj c d (by omega) (by omega) e
theorem LinesOf.none_ {g : Nat → Ln} {rs : List (List S31)} (h : LinesOf g 0 rs) : rs.flatten = [] := by
  rw [List.flatten_eq_nil_iff]
  intro l hl
  obtain ⟨i, hi, rfl⟩ := List.getElem_of_mem hl
  cases hq : rs[i] with
  | nil => rfl
  | cons y ys =>
    obtain ⟨c, hc, _⟩ := h.all_ i y ys (by rw [List.getElem?_eq_getElem hi, hq])
    omega
theorem LinesOf.step {g : Nat → Ln} {n : Nat} {rs : List (List S31)} (h : LinesOf g (n + 1) rs) (hp : HP lnLess g (n + 1)) (ho : ∀ l ∈ rs, Ord lt31 l) :
    ∃ i : Nat, (g 0).n = (i : Int) ∧ ∃ hi : i < rs.length, rs[i] = (g 0).h :: (g 0).t ∧ srt lt31 rs.flatten = (g 0).h :: srt lt31 (rs.set i (g 0).t).flatten := by
  obtain ⟨i, h1, h2⟩ := h.at_ 0 (by omega)
  obtain ⟨hi, h3⟩ := List.getElem?_eq_some_iff.1 h2
  refine ⟨i, h1, hi, h3, line_step lt31 lt31_o hi h3 ho fun m hm y ys hy => ?_⟩
  obtain ⟨c, hc, e⟩ := h.all_ m y ys (by rw [List.getElem?_eq_getElem hm, hy])
  have ht := HP.top lnLess lnLess_o hp c hc
  obtain ⟨j, e1, e2⟩ := h.at_ c hc
  have hjm : j = m := by omega
  subst hjm
  rw [List.getElem?_eq_getElem hm, hy] at e2
  simp only [Option.some.injEq, List.cons.injEq] at e2
  unfold lineLess
  unfold lnLess at ht
  rw [← e2.1, e, h1] at ht
  rw [← ht]
  congr 2
  exact decide_eq_decide.2 (by omega)
/-- is a list in order? -/
def inOrd (x : List S31) : Bool := (List.range x.length).all fun j => j == 0 || !lt31 (rd_T31 x j) (rd_T31 x ((j : Int) - 1))
theorem inOrd_iff (x : List S31) : inOrd x = true ↔ ∀ j : Nat, 0 < j → j < x.length → lt31 (rd_T31 x j) (rd_T31 x ((j : Int) - 1)) = false := by
  unfold inOrd
  rw [List.all_eq_true]
  constructor
  · intro h j h0 hj
    have := h j (List.mem_range.2 hj)
    simpa [Nat.pos_iff_ne_zero.1 h0] using this
  · intro h j hj
    by_cases h0 : j = 0
    · simp [h0]
    · have := h j (by omega) (List.mem_range.1 hj)
      simp [h0, this]
theorem inOrd_ord {x : List S31} (h : inOrd x = true) : Ord lt31 x := by
  rw [inOrd_iff] at h
  have hg : ∀ (j : Nat) (hj : j < x.length), rd_T31 x (j : Int) = x[j] := fun j hj => by unfold rd_T31; simp [hj]
  have key : ∀ d i (hi : i + d < x.length), lt31 (x[i + d]) (x[i]'(by omega)) = false := by
    intro d
    induction d with
    | zero => intro i hi
              cases hq : lt31 (x[i + 0]) (x[i]'(by omega)) with
              | false => rfl
              | true => have := lt31_o.as _ _ hq; simp only [Nat.add_zero] at hq this; rw [this] at hq; cases hq
    | succ d ih =>
      intro i hi
      have h1 := h (i + d + 1) (by omega) (by omega)
      rw [hg _ (by omega), show (((i + d + 1 : Nat) : Int) - 1) = ((i + d : Nat) : Int) by omega, hg _ (by omega)] at h1
      exact lt31_o.nt _ _ _ (ih i (by omega)) h1
  refine List.pairwise_iff_getElem.2 fun i j hi hj hij => ?_
  have := key (j - i) i (by omega)
  simpa [show i + (j - i) = j by omega] using this
end Go.Proofs.Ytaediecdpgndjaa.M
