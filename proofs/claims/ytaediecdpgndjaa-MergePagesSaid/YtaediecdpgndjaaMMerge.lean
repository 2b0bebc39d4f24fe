/- Lists in order, put together one by one; heaps. No program. -/
namespace Go.Proofs.Mg
set_option linter.unusedVariables false
variable {α : Type} (lt : α → α → Bool)
def putR (d : α) : List α → List α
  | [] => [d]
  | y :: r => if lt d y then y :: putR d r else d :: y :: r
/-- an entry among others in order, behind those that it stands with -/
def put (l : List α) (d : α) : List α := (putR lt d l.reverse).reverse
def srt (l : List α) : List α := l.foldl (put lt) []
theorem putR_perm (d : α) (l : List α) : (putR lt d l).Perm (d :: l) := by
  induction l with
  | nil => exact List.Perm.refl _
  | cons y r ih =>
    unfold putR
    split
    · exact (List.Perm.cons y ih).trans (List.Perm.swap d y r)
    · exact List.Perm.refl _
theorem put_perm (l : List α) (d : α) : (put lt l d).Perm (d :: l) :=
  (List.reverse_perm _).trans ((putR_perm lt d l.reverse).trans ((List.reverse_perm l).cons d))
theorem foldl_perm (Q S : List α) : (Q.foldl (put lt) S).Perm (S ++ Q) := by
  induction Q generalizing S with
  | nil => simp
  | cons q Q ih =>
    refine (ih (put lt S q)).trans ?_
    refine ((put_perm lt S q).append_right Q).trans ?_
    exact List.perm_middle.symm
theorem srt_perm (l : List α) : (srt lt l).Perm l := by have h := foldl_perm lt l []; rw [List.nil_append] at h; exact h
theorem put_all {l : List α} {d : α} (h : ∀ y ∈ l, lt d y = true) : put lt l d = d :: l := by
  have h' : ∀ y ∈ l.reverse, lt d y = true := fun y hy => h y (List.mem_reverse.1 hy)
  have e : ∀ r : List α, (∀ y ∈ r, lt d y = true) → putR lt d r = r ++ [d] := by
    intro r
    induction r with
    | nil => intro _; rfl
    | cons y r ih =>
      intro hr
      unfold putR
      rw [if_pos (hr y (List.mem_cons_self ..)), ih (fun z hz => hr z (List.mem_cons_of_mem _ hz))]; rfl
  unfold put
  rw [e _ h']; simp
theorem put_cons {x z : α} (h : lt z x = false) (l : List α) : put lt (x :: l) z = x :: put lt l z := by
  have e : ∀ r : List α, putR lt z (r ++ [x]) = putR lt z r ++ [x] := by
    intro r
    induction r with
    | nil => show (if lt z x = true then _ else _) = _; rw [if_neg (by simp [h])]; rfl
    | cons y r ih =>
      show (if lt z y = true then _ else _) = (if lt z y = true then _ else _) ++ [x]
      split
      · show y :: putR lt z (r ++ [x]) = _
        rw [ih]; rfl
      · rfl
  unfold put
  rw [List.reverse_cons, e]; simp
theorem foldl_x {x : α} (Q S : List α) (h : ∀ z ∈ Q, lt z x = false) : Q.foldl (put lt) (x :: S) = x :: Q.foldl (put lt) S := by
  induction Q generalizing S with
  | nil => rfl
  | cons q Q ih =>
    show Q.foldl (put lt) (put lt (x :: S) q) = _
    rw [put_cons lt (h q (List.mem_cons_self ..)), ih _ (fun z hz => h z (List.mem_cons_of_mem _ hz))]; rfl
/-- the first of all comes first -/
theorem srt_first {P Q xs : List α} {x : α} (h1 : ∀ y ∈ P, lt x y = true) (h2 : ∀ z ∈ xs, lt z x = false) (h3 : ∀ z ∈ Q, lt z x = false) : srt lt (P ++ (x :: xs) ++ Q) = x :: srt lt (P ++ xs ++ Q) := by
  unfold srt
  have hS : put lt (P.foldl (put lt) []) x = x :: P.foldl (put lt) [] := put_all lt fun y hy => h1 y (by simpa using (foldl_perm lt P []).mem_iff.1 hy)
  rw [List.append_assoc, List.foldl_append, List.cons_append, List.foldl_cons, hS, foldl_x lt _ _ (fun z hz => (List.mem_append.1 hz).elim (h2 z) (h3 z)), List.append_assoc, ← List.foldl_append]
/-- in order: none stands ahead of one before it -/
abbrev Ord (l : List α) : Prop := l.Pairwise fun a b => lt b a = false
theorem put_ord (as : ∀ a b, lt a b = true → lt b a = false) {l : List α} (h : Ord lt l) (d : α)
    (nt : ∀ a b c, lt b a = false → lt c b = false → lt c a = false) : Ord lt (put lt l d) := by
  have e : ∀ r : List α, r.Pairwise (fun a b => lt a b = false) → (putR lt d r).Pairwise fun a b => lt a b = false := by
    intro r
    induction r with
    | nil => intro _; exact List.pairwise_singleton _ _
    | cons y r ih =>
      intro hr
      obtain ⟨h1, h2⟩ := List.pairwise_cons.1 hr
      unfold putR
      split
      · rename_i hd
        refine List.pairwise_cons.2 ⟨fun z hz => ?_, ih h2⟩
        rcases List.mem_cons.1 ((putR_perm lt d r).mem_iff.1 hz) with rfl | hz
        · exact as _ _ hd
        · exact h1 z hz
      · rename_i hd
        have hd : lt d y = false := by simpa using hd
        refine List.pairwise_cons.2 ⟨fun z hz => ?_, hr⟩
        rcases List.mem_cons.1 hz with rfl | hz
        · exact hd
        · exact nt z y d (h1 z hz) hd
  unfold put
  rw [Ord, List.pairwise_reverse]
  exact e _ (by rw [List.pairwise_reverse]; exact h)
/-! Heaps: g's first n. -/
variable {K : Type} (less : K → K → Bool)
abbrev par (c : Nat) : Nat := (c - 1) / 2
def HP (g : Nat → K) (n : Nat) : Prop := ∀ c, 0 < c → c < n → less (g c) (g (par c)) = false
def sw (g : Nat → K) (i j : Nat) : Nat → K := fun k => if k = i then g j else if k = j then g i else g k
/-- le is one order: what is not less carries on -/
structure LtO : Prop where
  as : ∀ a b, less a b = true → less b a = false
  nt : ∀ a b c, less b a = false → less c b = false → less c a = false
theorem HP.top {g : Nat → K} {n : Nat} (o : LtO less) (h : HP less g n) : ∀ c, c < n → less (g c) (g 0) = false := by
  intro c
  induction c using Nat.strongRecOn with
  | ind c ih =>
    intro hc
    by_cases h0 : c = 0
    · subst h0
      cases hq : less (g 0) (g 0) with
      | false => rfl
      | true => have := o.as _ _ hq; rw [hq] at this; cases this
    · exact o.nt _ _ _ (ih (par c) (by unfold par; omega) (by unfold par; omega)) (h c (by omega) hc)
def UpInv (g : Nat → K) (n j : Nat) : Prop := (∀ c, 0 < c → c < n → c ≠ j → less (g c) (g (par c)) = false) ∧ (∀ c, 0 < c → c < n → par c = j → 0 < j → less (g c) (g (par j)) = false)
def DownInv (g : Nat → K) (n i : Nat) : Prop := (∀ c, 0 < c → c < n → par c ≠ i → less (g c) (g (par c)) = false) ∧ (∀ c, 0 < c → c < n → par c = i → 0 < i → less (g c) (g (par i)) = false)
theorem UpInv.start {g : Nat → K} {n : Nat} (h : HP less g n) : UpInv less g (n + 1) n :=
  ⟨fun c h0 hc hn => h c h0 (by omega), fun c h0 hc hp _ => by have : par c < c := by unfold par; omega
                                                               omega⟩
theorem UpInv.top {g : Nat → K} {n : Nat} (h : UpInv less g n 0) : HP less g n := fun c h0 hc => h.1 c h0 hc (by omega)
theorem UpInv.done {g : Nat → K} {n j : Nat} (h : UpInv less g n j) (hl : less (g j) (g (par j)) = false) : HP less g n := fun c h0 hc => by
  by_cases hj : c = j
  · subst hj; exact hl
  · exact h.1 c h0 hc hj
theorem UpInv.step {g : Nat → K} {n j : Nat} (o : LtO less) (h : UpInv less g n j) (hj : 0 < j) (hjn : j < n) (hl : less (g j) (g (par j)) = true) : UpInv less (sw g (par j) j) n (par j) := by
  have hpj : par j < j := by unfold par; omega
  refine ⟨fun c h0 hc hn => ?_, fun c h0 hc hp hi => ?_⟩
  · unfold sw
    rw [if_neg hn]
    by_cases hcj : c = j
    · subst hcj
      rw [if_pos rfl, if_pos rfl]; exact o.as _ _ hl
    · rw [if_neg hcj]
      by_cases h1 : par c = par j
      · rw [if_pos h1]
        have := h.1 c h0 hc hcj
        rw [h1] at this
        exact o.nt _ _ _ (o.as _ _ hl) this
      · rw [if_neg h1]
        by_cases h2 : par c = j
        · rw [if_pos h2]
          exact h.2 c h0 hc h2 hj
        · rw [if_neg h2]
          exact h.1 c h0 hc hcj
  · have hpp : par (par j) < par j := by unfold par at hi ⊢; omega
    unfold sw
    rw [if_neg (show par (par j) ≠ par j by omega), if_neg (show par (par j) ≠ j by omega)]
    have hi2 := h.1 (par j) hi (by omega) (by omega)
    have hcp : c ≠ par j := by have : par c < c := by unfold par; omega
                               omega
    rw [if_neg hcp]
    by_cases hcj : c = j
    · rw [if_pos hcj]; exact hi2
    · rw [if_neg hcj]
      have := h.1 c h0 hc hcj
      rw [hp] at this
      exact o.nt _ _ _ hi2 this
theorem DownInv.start {g : Nat → K} {n : Nat} (h : HP less g (n + 1)) : DownInv less (sw g 0 n) n 0 :=
  ⟨fun c h0 hc hp => by
    unfold sw
    rw [if_neg (by omega), if_neg (by omega), if_neg hp, if_neg (show par c ≠ n by unfold par; omega)]
    exact h c h0 (by omega), fun c _ _ _ h => absurd h (by omega)⟩
theorem DownInv.leaf {g : Nat → K} {n i : Nat} (h : DownInv less g n i) (hi : n ≤ 2 * i + 1) : HP less g n := fun c h0 hc => h.1 c h0 hc (by unfold par; omega)
/-- the lesser child -/
def Child (g : Nat → K) (n i j : Nat) : Prop := j < n ∧ par j = i ∧ 0 < j ∧ ∀ c, 0 < c → c < n → par c = i → less (g c) (g j) = false
theorem DownInv.done {g : Nat → K} {n i j : Nat} (o : LtO less) (h : DownInv less g n i) (hc : Child less g n i j) (hl : less (g j) (g i) = false) : HP less g n := fun c h0 hcn => by
  by_cases hp : par c = i
  · rw [hp]; exact o.nt _ _ _ hl (hc.2.2.2 c h0 hcn hp)
  · exact h.1 c h0 hcn hp
theorem DownInv.step {g : Nat → K} {n i j : Nat} (o : LtO less) (h : DownInv less g n i) (hc : Child less g n i j) (hl : less (g j) (g i) = true) : DownInv less (sw g i j) n j := by
  obtain ⟨hjn, hpj, hj0, hmin⟩ := hc
  have hij : i < j := by unfold par at hpj; omega
  refine ⟨fun c h0 hcn hp => ?_, fun c h0 hcn hp _ => ?_⟩
  · unfold sw
    by_cases hci : c = i
    · subst hci
      have hpc : par c < c := by unfold par; omega
      rw [if_pos rfl, if_neg (show par c ≠ c by omega), if_neg (show par c ≠ j by omega)]
      exact h.2 j hj0 hjn hpj h0
    · rw [if_neg hci]
      by_cases hcj : c = j
      · subst hcj
        rw [if_pos rfl, if_pos hpj]; exact o.as _ _ hl
      · rw [if_neg hcj]
        by_cases h1 : par c = i
        · rw [if_pos h1]; exact hmin c h0 hcn h1
        · rw [if_neg h1, if_neg hp]; exact h.1 c h0 hcn h1
  · have hjc : j < c := by unfold par at hp; omega
    unfold sw
    rw [if_neg (show c ≠ i by omega), if_neg (show c ≠ j by omega), hpj, if_pos rfl]
    have := h.1 c h0 hcn (by omega)
    rw [hp] at this; exact this
theorem sw_at (g : Nat → K) (i j k : Nat) : sw g i j k = if k = i then g j else if k = j then g i else g k := rfl
theorem srt_ord (o : LtO lt) (l : List α) : Ord lt (srt lt l) := by
  have e : ∀ (Q S : List α), Ord lt S → Ord lt (Q.foldl (put lt) S) := by
    intro Q
    induction Q with
    | nil => intro S h; exact h
    | cons q Q ih => intro S h; exact ih _ (put_ord lt o.as h q o.nt)
  exact e l [] List.Pairwise.nil
/-- strictly in order: it is the only order -/
theorem srt_uniq (o : LtO lt) {l all : List α} (hp : l.Perm all) (hs : all.Pairwise fun a b => lt a b = true) : srt lt l = all := by
  have hall : Ord lt all := hs.imp fun h => o.as _ _ h
  have hpp := (srt_perm lt l).trans hp
  refine List.Perm.eq_of_pairwise (le := fun a b => lt b a = false) (fun a b ha hb h1 h2 => ?_) (srt_ord lt o l) hall hpp
  have ha' := hpp.mem_iff.1 ha
  by_cases he : a = b
  · exact he
  · rcases List.pairwise_iff_getElem.1 hs with hg
    obtain ⟨i, hi, rfl⟩ := List.getElem_of_mem ha'
    obtain ⟨j, hj, rfl⟩ := List.getElem_of_mem hb
    rcases Nat.lt_trichotomy i j with h | h | h
    · have := hg i j hi hj h; rw [this] at h2; cases h2
    · subst h; exact absurd rfl he
    · have := hg j i hj hi h; rw [this] at h1; cases h1
theorem srt_filter (o : LtO lt) (p : α → Bool) {l : List α} (hs : (srt lt l).Pairwise fun a b => lt a b = true) : srt lt (l.filter p) = (srt lt l).filter p :=
  srt_uniq lt o ((srt_perm lt l).symm.filter p) (hs.sublist (List.filter_sublist))
/-- which of two lines comes first: by their first ones, then by their numbers -/
def lineLess (y : α) (m : Nat) (x : α) (n : Nat) : Bool := lt y x || (!lt x y && decide (m < n))
theorem line_step (o : LtO lt) {rs : List (List α)} {n : Nat} (hn : n < rs.length) {x : α} {xs : List α} (hx : rs[n] = x :: xs) (ho : ∀ l ∈ rs, Ord lt l)
    (hmin : ∀ (m : Nat) (hm : m < rs.length) (y : α) (ys : List α), rs[m] = y :: ys → lineLess lt y m x n = false) : srt lt rs.flatten = x :: srt lt (rs.set n xs).flatten := by
  have e1 : rs = rs.take n ++ (x :: xs) :: rs.drop (n + 1) := by rw [← hx]; simp
  have e2 : rs.set n xs = rs.take n ++ xs :: rs.drop (n + 1) := by rw [List.set_eq_take_append_cons_drop, if_pos hn]
  have key : ∀ (m : Nat) (hm : m < rs.length), ∀ z ∈ rs[m], lt z x = false ∧ (m < n → lt x z = true) := by
    intro m hm z hz
    have hord := ho _ (List.getElem_mem hm)
    have hmm := hmin m hm
    generalize rs[m] = l at *
    cases l with
    | nil => cases hz
    | cons y ys =>
      have h0 := hmm y ys rfl
      unfold lineLess at h0
      rw [Bool.or_eq_false_iff] at h0
      have hzy : lt z y = false := by
        rcases List.mem_cons.1 hz with rfl | hz
        · cases hq : lt z z with
          | false => rfl
          | true => have := o.as _ _ hq; rw [hq] at this; cases this
        · exact (List.pairwise_cons.1 hord).1 z hz
      refine ⟨o.nt _ _ _ h0.1 hzy, fun hlt => ?_⟩
      have h2 := h0.2
      rw [decide_eq_true hlt, Bool.and_true, Bool.not_eq_false'] at h2
      cases hq : lt x z with
      | true => rfl
      | false => have := o.nt _ _ _ hzy hq; rw [h2] at this; cases this
  rw [e2]
  conv => lhs; rw [e1]
  rw [List.flatten_append, List.flatten_cons, List.flatten_append, List.flatten_cons, ← List.append_assoc, ← List.append_assoc]
  refine srt_first lt (fun y hy => ?_) (fun z hz => ?_) (fun z hz => ?_)
  · obtain ⟨l, hl, hyl⟩ := List.mem_flatten.1 hy
    obtain ⟨m, hm, rfl⟩ := List.getElem_of_mem hl
    rw [List.length_take] at hm
    rw [List.getElem_take] at hyl
    exact (key m (by omega) y hyl).2 (by omega)
  · have := key n hn z (by rw [hx]; exact List.mem_cons_of_mem _ hz)
    exact this.1
  · obtain ⟨l, hl, hyl⟩ := List.mem_flatten.1 hz
    obtain ⟨m, hm, rfl⟩ := List.getElem_of_mem hl
    rw [List.length_drop] at hm
    rw [List.getElem_drop] at hyl
    exact (key _ (by omega) z hyl).1
end Go.Proofs.Mg
