/- On the printed functions of MergeMerges: what each of them answers, in plain words. -/
import Derived.Test.YtaediecdpgndjaaPMergeMergesx
import Derived.Test.YtaediecdpgndjaaMArith
import Derived.Test.YtaediecdpgndjaaMOpen
import Derived.Test.YtaediecdpgndjaaQMergeMerges
namespace Go.Proofs.Ytaediecdpgndjaa.Pure
open Go.RowKit Go.Proofs.Ytaediecdpgndjaa.PMergeMerges Go.Proofs.YtaediecdpgndjaaW.PrintWords Go.Proofs.YtaediecdpgndjaaW.PrintLast Go.Proofs.YtaediecdpgndjaaW.PrintMore Go.Proofs.Ytaediecdpgndjaa.M
set_option linter.unusedVariables false
set_option linter.unusedSimpArgs false

theorem ev_some {α : Type} {g : Nat → Option α} {r : α} (h : ∀ k, g (k + 1) = some r) : Ev g r := Ev.step (f := fun _ => some r) h (Ev.now r)
theorem ev_mono {α : Type} {g : Nat → Option α} {r : α} (hg : ∀ k, LeO (g k) (g (k + 1))) {k : Nat} (h : g k = some r) : Ev g r := Ev.of hg h

open Go.Proofs.Mg in
/-- which of two entries comes first -/
def ltS (x y : S31) : Bool := M.lt31 (merge_Merge.to x) (merge_Merge.to y)
theorem w_succ (i : Nat) (h : i < 1000000000000000) : wrap64 ((i : Int) + 1) = ((i + 1 : Nat) : Int) := by rw [M.w64 (by omega) (by omega)]; omega
theorem w_pred (i : Nat) (h : i < 1000000000000000) : wrap64 ((i : Int) - 1) = (i : Int) - 1 := M.w64 (by omega) (by omega)
theorem w_pred1 (i : Nat) (h : i < 1000000000000000) : wrap64 (((i + 1 : Nat) : Int) - 1) = (i : Int) := by rw [M.w64 (by omega) (by omega)]; omega
theorem ltS_o : Mg.LtO ltS := ⟨fun a b h => M.lt31_o.as _ _ h, fun a b c h k => M.lt31_o.nt _ _ _ h k⟩
theorem of_to (x : S31) : merge_Merge.of (merge_Merge.to x) = x := rfl
def ordS (x : List S31) : Bool := M.inOrd (x.map merge_Merge.to)
theorem rd_to (x : List S31) (j : Int) (h0 : 0 ≤ j) (h : j < x.length) : Go.Proofs.Ytaediecdpgndjaa.PMrg0.rd_T31 (x.map merge_Merge.to) j = merge_Merge.to (rd_T31 x j) := by
  unfold Go.Proofs.Ytaediecdpgndjaa.PMrg0.rd_T31 rd_T31
  have hj : j.toNat < x.length := by omega
  simp [List.getD, hj]
theorem rd_at (x : List S31) {j : Nat} (h : j < x.length) : rd_T31 x (j : Int) = x[j] := by unfold rd_T31; simp [h]
theorem ordS_iff (x : List S31) : ordS x = true ↔ ∀ j : Nat, 0 < j → j < x.length → ltS (rd_T31 x (j : Int)) (rd_T31 x ((j : Int) - 1)) = false := by
  unfold ordS
  rw [M.inOrd_iff]
  constructor
  · intro h j h0 hj
    have := h j h0 (by rw [List.length_map]; exact hj)
    rw [rd_to x _ (by omega) (by omega), rd_to x _ (by omega) (by omega)] at this
    exact this
  · intro h j h0 hj
    rw [List.length_map] at hj
    rw [rd_to x _ (by omega) (by omega), rd_to x _ (by omega) (by omega)]
    exact h j h0 hj
def mergeS (l : List (List S31)) (lim : Int) : List S31 × Bool × Int :=
  if lim < 0 then ([], false, 1) else if l.all ordS = true then ((Mg.srt ltS l.flatten).take lim.toNat, decide (lim < (l.flatten.length : Int)), 0) else ([], false, 3)
theorem putR_map (d : S31) : ∀ l : List S31, Mg.putR M.lt31 (merge_Merge.to d) (l.map merge_Merge.to) = (Mg.putR ltS d l).map merge_Merge.to
  | [] => rfl
  | y :: r => by
    show (if M.lt31 (merge_Merge.to d) (merge_Merge.to y) = true then _ else _) = List.map _ (if ltS d y = true then _ else _)
    by_cases h : ltS d y = true
    · rw [if_pos (show M.lt31 (merge_Merge.to d) (merge_Merge.to y) = true from h), if_pos h, putR_map d r]; rfl
    · rw [if_neg (show ¬ M.lt31 (merge_Merge.to d) (merge_Merge.to y) = true from h), if_neg h]; rfl
theorem put_map (l : List S31) (d : S31) : Mg.put M.lt31 (l.map merge_Merge.to) (merge_Merge.to d) = (Mg.put ltS l d).map merge_Merge.to := by
  unfold Mg.put
  rw [← List.map_reverse, putR_map, List.map_reverse]
theorem srt_map (l : List S31) : Mg.srt M.lt31 (l.map merge_Merge.to) = (Mg.srt ltS l).map merge_Merge.to := by
  unfold Mg.srt
  have e : ∀ (Q S : List S31), (Q.map merge_Merge.to).foldl (Mg.put M.lt31) (S.map merge_Merge.to) = (Q.foldl (Mg.put ltS) S).map merge_Merge.to := by
    intro Q
    induction Q with
    | nil => intro S; rfl
    | cons q Q ih => intro S; rw [List.map_cons, List.foldl_cons, List.foldl_cons, put_map, ih]
  exact e l []
theorem merge_ev {l : List (List S31)} {lim : Int} (h1 : l.length ≤ 1000) (h2 : l.flatten.length ≤ 1000000000000) : merge_Merge.f l lim = some (mergeS l lim) := by
  unfold merge_Merge.f
  rw [if_pos ⟨h1, h2⟩]
  unfold M.mergeV mergeS
  have hf : (l.map (List.map merge_Merge.to)).flatten = l.flatten.map merge_Merge.to := by rw [List.map_flatten]
  have ha : (l.map (List.map merge_Merge.to)).all M.inOrd = l.all ordS := by rw [List.all_map]; rfl
  rw [hf, ha, srt_map, List.length_map]
  by_cases c1 : lim < 0
  · rw [if_pos c1, if_pos c1]; rfl
  · rw [if_neg c1, if_neg c1]
    by_cases c2 : l.all ordS = true
    · rw [if_pos c2, if_pos c2]
      dsimp only
      rw [← List.map_take, List.map_map]
      congr 2
      exact (List.map_congr_left fun x _ => of_to x).trans (List.map_id _)
    · rw [if_neg c2, if_neg c2]; rfl
theorem ahead_eq (x y : S31) : fascineref07_Ahead.f x.f0 x.f1 x.f2 y.f0 y.f1 y.f2 = some (ltS x y) := by
  have h := M.ahead_eq x.f0 x.f1 x.f2 y.f0 y.f1 y.f2
  have e : some (ltS x y) = some (decide (x.f1 < y.f1 ∨ x.f1 = y.f1 ∧ M.chrs x.f0 < M.chrs y.f0)) := by
    congr 1
    rw [Bool.eq_iff_iff, decide_eq_true_iff]
    exact M.lt31_iff _ _
  rw [e, ← h]
  rfl
theorem ltS_irr (x : S31) : ltS x x = false := by
  cases hq : ltS x x with
  | false => rfl
  | true => have := ltS_o.as _ _ hq; rw [hq] at this; cases this

theorem awake_eq : fascinelaw17_awake.f = some true := by decide +kernel

theorem put_app (A B : List S31) (d : S31) (h : ∀ y ∈ B, ltS d y = true) : Mg.put ltS (A ++ B) d = Mg.put ltS A d ++ B := by
  have e : ∀ (R S : List S31), (∀ y ∈ R, ltS d y = true) → Mg.putR ltS d (R ++ S) = R ++ Mg.putR ltS d S := by
    intro R S
    induction R with
    | nil => intro _; rfl
    | cons y r ih =>
      intro hr
      show (if ltS d y = true then y :: Mg.putR ltS d (r ++ S) else _) = _
      rw [if_pos (hr y (List.mem_cons_self ..)), ih (fun z hz => hr z (List.mem_cons_of_mem _ hz))]; rfl
  unfold Mg.put
  rw [List.reverse_append, e _ _ (fun y hy => h y (List.mem_reverse.1 hy)), List.reverse_append, List.reverse_reverse]
theorem put_last (A : List S31) (y d : S31) (h : ltS d y = false) : Mg.put ltS (A ++ [y]) d = A ++ [y] ++ [d] := by
  unfold Mg.put
  rw [List.reverse_append]
  show (if ltS d y = true then _ else d :: y :: A.reverse).reverse = _
  rw [if_neg (by rw [h]; decide)]
  simp
theorem put_ev (l : List S31) (d : S31) (hl : l.length ≤ 1000000000000) : Ev (fun k => fascineref07_Put.f k l d.f0 d.f1 d.f2) (Mg.put ltS l d) := by
  have fin : ∀ i : Nat, i ≤ l.length → ∀ r, r = l.take i ++ [d] ++ l.drop i →
      (if 0 ≤ (i : Int) then (if (i : Int) ≤ (l.length : Int) then ((some (l.take (i : Int).toNat : List (S31))).bind fun y142 => (if ([] : List (S31)).length + y142.length < 3518437208883 then ((some (([] : List (S31)) ++ y142 : List (S31))).bind fun y146 => (if y146.length < 3518437208883 then ((some (y146 ++ [(⟨d.f0, d.f1, d.f2⟩ : S31)] : List (S31))).bind fun y149 => ((some (l.drop (i : Int).toNat : List (S31))).bind fun y152 => (if y149.length + y152.length < 3518437208883 then (some (y149 ++ y152)) else (none)))) else (none))) else (none))) else (none)) else (none)) = some r := by
    intro i hi r hr
    rw [if_pos (by omega), if_pos (by omega)]
    simp only [Option.bind_some, Int.toNat_natCast, List.nil_append, List.length_nil]
    rw [if_pos (by rw [List.length_take]; omega), if_pos (by rw [List.length_take]; omega), if_pos (by rw [List.length_append, List.length_take, List.length_drop]; simp; omega), hr]
  have key : ∀ i : Nat, i ≤ l.length → Mg.put ltS l d = Mg.put ltS (l.take i) d ++ l.drop i → Ev (fun k => fascineref07_Put.l0 k l (i : Int) d.f0 d.f1 d.f2) (Mg.put ltS l d) := by
    intro i
    induction i with
    | zero =>
      intro hi hp
      refine ev_some (fun k => ?_)
      simp only [fascineref07_Put.l0]
      rw [if_neg (by omega)]
      refine fin 0 hi _ ?_
      rw [hp]; rfl
    | succ i ih =>
      intro hi hp
      have hlt : i < l.length := by omega
      have htk : l.take (i + 1) = l.take i ++ [l[i]] := List.take_succ_eq_append_getElem hlt
      have hdr : l.drop i = l[i] :: l.drop (i + 1) := List.drop_eq_getElem_cons hlt
      cases hc : ltS d l[i] with
      | true =>
        refine Ev.step (fun k => ?_) (ih (by omega) ?_)
        · simp only [fascineref07_Put.l0]
          rw [if_pos (by omega), w_pred1 i (by omega), if_pos (by omega), if_pos (by omega), rd_at l hlt, ahead_eq d l[i], hc]
          rfl
        · rw [hp, htk, put_app _ [l[i]] d (by intro y hy; rw [List.mem_singleton.1 hy]; exact hc), hdr, List.append_assoc]; rfl
      | false =>
        refine ev_some (fun k => ?_)
        simp only [fascineref07_Put.l0]
        rw [if_pos (by omega), w_pred1 i (by omega), if_pos (by omega), if_pos (by omega), rd_at l hlt, ahead_eq d l[i], hc]
        simp only [Option.bind_some]
        rw [if_neg (by decide)]
        refine fin (i + 1) hi _ ?_
        rw [hp, htk, put_last _ _ _ hc]
  exact Ev.congr (f := fun k => fascineref07_Put.l0 k l (l.length : Int) d.f0 d.f1 d.f2) (fun k => rfl) (key l.length (Nat.le_refl _) (by rw [List.take_length, List.drop_length, List.append_nil]))

theorem same_ev (l : List S31) (hl : l.length ≤ 1000000000000) : Ev (fun k => fascineref07_Same.f k l l) true := by
  have key : ∀ (d i : Nat), l.length - i = d → i ≤ l.length → Ev (fun k => fascineref07_Same.l0 k l l (i : Int)) true := by
    intro d
    induction d with
    | zero =>
      intro i hd hi
      refine ev_some (fun k => ?_)
      simp only [fascineref07_Same.l0]
      rw [if_neg (by omega)]
    | succ d ih =>
      intro i hd hi
      refine Ev.step (fun k => ?_) (ih (i + 1) (by omega) (by omega))
      simp only [fascineref07_Same.l0]
      rw [if_pos (by omega), if_pos (by omega), if_pos (by omega), if_neg (by simp), w_succ i (by omega)]
  refine Ev.congr (f := fun k => fascineref07_Same.l0 k l l 0) (fun k => ?_) (key l.length 0 (by omega) (by omega))
  unfold fascineref07_Same.f
  rw [if_pos rfl]

theorem rises_ev (l : List S31) (hl : l.length ≤ 1000000000000) : Ev (fun k => fascinelaw17_rises.f k l) (ordS l) := by
  have key : ∀ (d i : Nat), l.length - i = d → 1 ≤ i → (∀ j : Nat, 0 < j → j < i → j < l.length → ltS (rd_T31 l (j : Int)) (rd_T31 l ((j : Int) - 1)) = false) → Ev (fun k => fascinelaw17_rises.l0 k l (i : Int)) (ordS l) := by
    intro d
    induction d with
    | zero =>
      intro i hd hi hp
      refine ev_some (fun k => ?_)
      simp only [fascinelaw17_rises.l0]
      rw [if_neg (by omega), (ordS_iff l).2 (fun j h0 hj => hp j h0 (by omega) hj)]
    | succ d ih =>
      intro i hd hi hp
      cases hc : ltS (rd_T31 l (i : Int)) (rd_T31 l ((i : Int) - 1)) with
      | true =>
        refine ev_some (fun k => ?_)
        simp only [fascinelaw17_rises.l0]
        rw [if_pos (by omega), if_pos (by omega), w_pred i (by omega), if_pos (by omega), if_pos (by omega), ahead_eq, hc]
        simp only [Option.bind_some]
        rw [if_pos trivial]
        congr 1
        refine (Bool.eq_false_iff.2 fun h => ?_).symm
        have := (ordS_iff l).1 h i (by omega) (by omega)
        rw [hc] at this; cases this
      | false =>
        refine Ev.step (fun k => ?_) (ih (i + 1) (by omega) (by omega) (fun j h0 hj hl => ?_))
        · simp only [fascinelaw17_rises.l0]
          rw [if_pos (by omega), if_pos (by omega), w_pred i (by omega), if_pos (by omega), if_pos (by omega), ahead_eq, hc]
          simp only [Option.bind_some]
          rw [if_neg (by decide), w_succ i (by omega)]
        · by_cases hji : j = i
          · rw [hji]; exact hc
          · exact hp j h0 (by omega) hl
  exact Ev.congr (f := fun k => fascinelaw17_rises.l0 k l 1) (fun k => rfl) (key (l.length - 1) 1 (by omega) (by omega) (fun j h0 hj _ => by omega))

theorem flat_le : ∀ {l : List (List S31)} {x : List S31}, x ∈ l → x.length ≤ l.flatten.length
  | y :: l, x, h => by
    rw [List.flatten_cons, List.length_append]
    rcases List.mem_cons.1 h with h | h
    · rw [h]; omega
    · have := flat_le h; omega
theorem lst_at (l : List (List S31)) {i : Nat} (h : i < l.length) : rd_L3 l (i : Int) = l[i] := by unfold rd_L3; simp [h]
/-- all put together, from a place on -/
def putFrom (l : List (List S31)) (i j : Nat) : List S31 := (l.getD i []).drop j ++ (l.drop (i + 1)).flatten
theorem all_ev (l : List (List S31)) (lim : Int) (a : List S31) (b : Bool) (c : Int) (hlen : l.length ≤ 20) (hfl : l.flatten.length ≤ 1048576) (hlim : ¬ lim < 0) (ha : (a, b, c) = ((Mg.srt ltS l.flatten).take lim.toNat, decide (lim < (l.flatten.length : Int)), (0 : Int))) :
    Ev (fun k => fascinelaw17_MergeMerges.l1 k l lim a b c [] 0) true := by
  obtain ⟨rfl, rfl, rfl⟩ : a = _ ∧ b = _ ∧ c = _ := ⟨congrArg (·.1) ha, congrArg (·.2.1) ha, congrArg (·.2.2) ha⟩
  clear ha
  dsimp only
  -- the end
  have fin : ∀ i : Nat, l.length ≤ i → Ev (fun k => fascinelaw17_MergeMerges.l1 k l lim ((Mg.srt ltS l.flatten).take lim.toNat) (decide (lim < (l.flatten.length : Int))) 0 (Mg.srt ltS l.flatten) (i : Int)) true := by
    intro i hi
    have hsl : (Mg.srt ltS l.flatten).length = l.flatten.length := (Mg.srt_perm ltS l.flatten).length_eq
    generalize Mg.srt ltS l.flatten = s at *
    rw [← hsl]
    have h1 : Ev (fun k => fascineref07_Same.f k (s.take lim.toNat) (s.take lim.toNat)) true := same_ev _ (by rw [List.length_take]; omega)
    refine Ev.step (f := fun k => (fascineref07_Same.f k (s.take lim.toNat) (s.take lim.toNat)).bind fun t => if t = true then some true else some false) (fun k => ?_) (Ev.bind h1 ?_)
    · simp only [fascinelaw17_MergeMerges.l1]
      rw [if_neg (by omega)]
      by_cases c1 : lim < (s.length : Int)
      · rw [if_pos c1, if_pos trivial, if_pos (by omega), if_pos (by omega)]
        congr 1
        funext t
        cases t
        · rfl
        · simp [c1]
      · rw [if_neg c1, if_pos trivial, if_pos (by omega), if_pos (by omega), List.take_of_length_le (l := s) (i := lim.toNat) (by omega), List.take_of_length_le (l := s) (i := ((s.length : Int)).toNat) (by omega)]
        congr 1
        funext t
        cases t
        · rfl
        · have : ¬ ((s.length : Int) > lim) := c1
          simp [c1]
    · rw [if_pos rfl]; exact Ev.now _
  -- i lists are put, and j of the next one
  have key : ∀ (d i : Nat) (s : List S31), l.length - i = d → i ≤ l.length → (l.drop i).flatten.foldl (Mg.put ltS) s = Mg.srt ltS l.flatten → s.length + (l.drop i).flatten.length ≤ 1048576 →
      Ev (fun k => fascinelaw17_MergeMerges.l1 k l lim ((Mg.srt ltS l.flatten).take lim.toNat) (decide (lim < (l.flatten.length : Int))) 0 s (i : Int)) true := by
    intro d
    induction d with
    | zero =>
      intro i s hd hi hs hsz
      rw [show l.drop i = [] by rw [List.drop_eq_nil_iff]; omega] at hs
      have := fin i (by omega)
      rw [← hs] at this ⊢
      exact this
    | succ d ih =>
      intro i s hd hi hs hsz
      have hil : i < l.length := by omega
      have hdr : l.drop i = l[i] :: l.drop (i + 1) := List.drop_eq_getElem_cons hil
      have hxl := flat_le (List.getElem_mem hil)
      have inner : ∀ (q j : Nat) (s : List S31), l[i].length - j = q → j ≤ l[i].length → ((l[i]).drop j ++ (l.drop (i + 1)).flatten).foldl (Mg.put ltS) s = Mg.srt ltS l.flatten → s.length + ((l[i]).drop j ++ (l.drop (i + 1)).flatten).length ≤ 1048576 →
          Ev (fun k => fascinelaw17_MergeMerges.l2 k l lim ((Mg.srt ltS l.flatten).take lim.toNat) (decide (lim < (l.flatten.length : Int))) 0 s (i : Int) (j : Int)) true := by
        intro q
        induction q with
        | zero =>
          intro j s hq hj hs hsz
          rw [show (l[i]).drop j = [] by rw [List.drop_eq_nil_iff]; omega, List.nil_append] at hs hsz
          refine Ev.step (fun k => ?_) (ih (i + 1) s (by omega) (by omega) hs hsz)
          simp only [fascinelaw17_MergeMerges.l2]
          rw [if_pos (by omega), if_pos (by omega), lst_at l hil, if_neg (by omega), w_succ i (by omega)]
        | succ q ihq =>
          intro j s hq hj hs hsz
          have hjl : j < l[i].length := by omega
          have hdj : (l[i]).drop j = (l[i])[j] :: (l[i]).drop (j + 1) := List.drop_eq_getElem_cons hjl
          rw [hdj, List.cons_append] at hs hsz
          rw [List.foldl_cons] at hs
          rw [List.length_cons] at hsz
          have hpl : (Mg.put ltS s (l[i])[j]).length = s.length + 1 := by
            rw [(Mg.put_perm ltS s _).length_eq]; rfl
          refine Ev.step (f := fun k => (fascineref07_Put.f k s (l[i])[j].f0 (l[i])[j].f1 (l[i])[j].f2).bind fun t => fascinelaw17_MergeMerges.l2 k l lim ((Mg.srt ltS l.flatten).take lim.toNat) (decide (lim < (l.flatten.length : Int))) 0 t (i : Int) ((j + 1 : Nat) : Int)) (fun k => ?_) (Ev.bind (put_ev s _ (by omega)) (ihq (j + 1) _ (by omega) (by omega) hs (by omega)))
          simp only [fascinelaw17_MergeMerges.l2]
          rw [if_pos (by omega), if_pos (by omega), lst_at l hil, if_pos (by omega), if_pos (by omega), rd_at _ hjl, w_succ j (by omega)]
      refine Ev.step (fun k => ?_) (inner l[i].length 0 s (by omega) (by omega) (by rw [List.drop_zero, ← List.flatten_cons, ← hdr]; exact hs) (by rw [List.drop_zero, ← List.flatten_cons, ← hdr]; exact hsz))
      simp only [fascinelaw17_MergeMerges.l1]
      rw [if_pos (by omega)]
      rfl
  exact key l.length 0 [] (by omega) (by omega) rfl (by simpa using hfl)
theorem MergeMerges_ev (l : List (List S31)) (lim : Int) (hfl : l.flatten.length ≤ 1048576) : Ev (fun k => fascinelaw17_MergeMerges.f k l lim) true := by
  by_cases hlen : l.length > 20
  · refine Ev.congr (f := fun k => fascinelaw17_MergeMerges.j0 k l lim true) (fun k => ?_) (ev_some (fun k => ?_))
    · unfold fascinelaw17_MergeMerges.f
      rw [awake_eq]
      simp only [Option.bind_some]
      rw [if_pos trivial, decide_eq_true (by omega)]
    · simp only [fascinelaw17_MergeMerges.j0]
      rw [if_pos trivial, awake_eq]; rfl
  · have hm := merge_ev (l := l) (lim := lim) (by omega) (by omega)
    refine Ev.congr (f := fun k => fascinelaw17_MergeMerges.j0 k l lim false) (fun k => ?_) ?_
    · unfold fascinelaw17_MergeMerges.f
      rw [awake_eq]
      simp only [Option.bind_some]
      rw [if_pos trivial, decide_eq_false (by omega)]
    by_cases hlim : lim < 0
    · refine ev_some (fun k => ?_)
      simp only [fascinelaw17_MergeMerges.j0]
      rw [if_neg (by decide), hm]
      simp only [Option.bind_some]
      rw [if_pos hlim]
      unfold mergeS
      rw [if_pos hlim]; rfl
    · -- each list is looked at
      have key : ∀ (d i : Nat), l.length - i = d → i ≤ l.length → (∀ j (hj : j < i) (hl : j < l.length), ordS l[j] = true) → Ev (fun k => fascinelaw17_MergeMerges.l0 k l lim (mergeS l lim).1 (mergeS l lim).2.1 (mergeS l lim).2.2 (i : Int)) true := by
        intro d
        induction d with
        | zero =>
          intro i hd hi ho
          have hall : l.all ordS = true := List.all_eq_true.2 fun x hx => by
            obtain ⟨j, hj, rfl⟩ := List.getElem_of_mem hx
            exact ho j (by omega) hj
          refine Ev.step (fun k => ?_) (all_ev l lim (mergeS l lim).1 (mergeS l lim).2.1 (mergeS l lim).2.2 (by omega) hfl hlim (by unfold mergeS; rw [if_neg hlim, if_pos hall]))
          simp only [fascinelaw17_MergeMerges.l0]
          rw [if_neg (by omega)]
        | succ d ih =>
          intro i hd hi ho
          have hil : i < l.length := by omega
          have hxl := flat_le (List.getElem_mem hil)
          by_cases hlong : l[i].length > 100
          · refine ev_some (fun k => ?_)
            simp only [fascinelaw17_MergeMerges.l0]
            rw [if_pos (by omega), if_pos (by omega), lst_at l hil, if_pos (by omega)]
          · refine Ev.step (f := fun k => (fascinelaw17_rises.f k l[i]).bind fun t => if t = true then fascinelaw17_MergeMerges.l0 k l lim (mergeS l lim).1 (mergeS l lim).2.1 (mergeS l lim).2.2 ((i + 1 : Nat) : Int) else if (mergeS l lim).2.2 = 3 then (if ((mergeS l lim).1.length : Int) = 0 then some (!(mergeS l lim).2.1) else some false) else some false) (fun k => ?_) (Ev.bind (rises_ev l[i] (by omega)) ?_)
            · simp only [fascinelaw17_MergeMerges.l0]
              rw [if_pos (by omega), if_pos (by omega), lst_at l hil, if_neg (by omega), w_succ i (by omega)]
            · cases hc : ordS l[i] with
              | true =>
                simp only [if_pos]
                exact ih (i + 1) (by omega) (by omega) (fun j hj hl => by
                  by_cases hji : j = i
                  · subst hji; exact hc
                  · exact ho j (by omega) hl)
              | false =>
                have hall : ¬ l.all ordS = true := fun h => by
                  have := List.all_eq_true.1 h _ (List.getElem_mem hil)
                  rw [hc] at this; cases this
                have hms : mergeS l lim = ([], false, 3) := by unfold mergeS; rw [if_neg hlim, if_neg hall]
                rw [hms]
                exact Ev.now _
      refine Ev.step (fun k => ?_) (key l.length 0 (by omega) (by omega) (fun j hj => by omega))
      simp only [fascinelaw17_MergeMerges.j0]
      rw [if_neg (by decide), hm]
      simp only [Option.bind_some]
      rw [if_neg hlim]; rfl
theorem flat_sum : ∀ l : List (List S31), l.flatten.length ≤ M.sumB (fun l => M.sumB (fun _ => 1) l + 1) l
  | [] => by simp [M.sumB]
  | x :: l => by
    have := flat_sum l
    rw [List.flatten_cons, List.length_append]
    simp only [M.sumB, M.sumB_one]
    simp only [M.sumB_one] at this
    omega
theorem MergeMerges : MergeMerges_PureU := fun l lim hb _ => by
  obtain ⟨K, hK⟩ := MergeMerges_ev l lim (by have := flat_sum l; omega)
  exact ⟨K, hK K (Nat.le_refl _)⟩

end Go.Proofs.Ytaediecdpgndjaa.Pure
