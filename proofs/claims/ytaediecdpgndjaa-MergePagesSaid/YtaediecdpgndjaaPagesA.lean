/- On the printed functions of MergePages: what each of them answers, in plain words. -/
import Derived.Test.YtaediecdpgndjaaPMergePagesx
import Derived.Test.YtaediecdpgndjaaMArith
namespace Go.Proofs.Ytaediecdpgndjaa.Pure
open Go.RowKit Go.Proofs.Ytaediecdpgndjaa.PMergePages Go.Proofs.YtaediecdpgndjaaW.PrintWords Go.Proofs.YtaediecdpgndjaaW.PrintLast Go.Proofs.YtaediecdpgndjaaW.PrintMore Go.Proofs.Ytaediecdpgndjaa.M
set_option linter.unusedVariables false
set_option linter.unusedSimpArgs false

theorem ev_some {α : Type} {g : Nat → Option α} {r : α} (h : ∀ k, g (k + 1) = some r) : Ev g r := Ev.step (f := fun _ => some r) h (Ev.now r)
theorem ev_mono {α : Type} {g : Nat → Option α} {r : α} (hg : ∀ k, LeO (g k) (g (k + 1))) {k : Nat} (h : g k = some r) : Ev g r := Ev.of hg h

open Go.Proofs.Mg in
/-- which of two entries comes first -/
def ltS (x y : S31) : Bool := M.lt31 (merge_Merge.to x) (merge_Merge.to y)
theorem w_succ (i : Nat) (h : i < 1000000000000000) : wrap64 ((i : Int) + 1) = ((i + 1 : Nat) : Int) := by rw [M.w64 (by omega) (by omega)]; omega
theorem w_pred (i : Nat) (h : i < 1000000000000000) : wrap64 ((i : Int) - 1) = (i : Int) - 1 := M.w64 (by omega) (by omega)
theorem w_pred1 (i : Nat) (h : i < 1000000000000000) : wrap64 (((i + 1 : Nat) : Int) - 1) = (i : Int) := by rw [M.w64 (by omega) (by omega)]; omega
theorem ltS_o : Mg.LtO ltS := ⟨fun a b h => M.lt31_o.as _ _ h, fun a b c h k => M.lt31_o.nt _ _ _ h k⟩
theorem of_to (x : S31) : merge_Merge.of (merge_Merge.to x) = x := rfl
def ordS (x : List S31) : Bool := M.inOrd (x.map merge_Merge.to)
theorem rd_to (x : List S31) (j : Int) (h0 : 0 ≤ j) (h : j < x.length) : Go.Proofs.Ytaediecdpgndjaa.PMrg0.rd_T31 (x.map merge_Merge.to) j = merge_Merge.to (rd_T31 x j) := by
  unfold Go.Proofs.Ytaediecdpgndjaa.PMrg0.rd_T31 rd_T31
  have hj : j.toNat < x.length := by omega
  simp [List.getD, hj]
theorem rd_at (x : List S31) {j : Nat} (h : j < x.length) : rd_T31 x (j : Int) = x[j] := by unfold rd_T31; simp [h]
theorem ordS_iff (x : List S31) : ordS x = true ↔ ∀ j : Nat, 0 < j → j < x.length → ltS (rd_T31 x (j : Int)) (rd_T31 x ((j : Int) - 1)) = false := by
  unfold ordS
  rw [M.inOrd_iff]
  constructor
  · intro h j h0 hj
    have := h j h0 (by rw [List.length_map]; exact hj)
    rw [rd_to x _ (by omega) (by omega), rd_to x _ (by omega) (by omega)] at this
    exact this
  · intro h j h0 hj
    rw [List.length_map] at hj
    rw [rd_to x _ (by omega) (by omega), rd_to x _ (by omega) (by omega)]
    exact h j h0 hj
def mergeS (l : List (List S31)) (lim : Int) : List S31 × Bool × Int :=
  if lim < 0 then ([], false, 1) else if l.all ordS = true then ((Mg.srt ltS l.flatten).take lim.toNat, decide (lim < (l.flatten.length : Int)), 0) else ([], false, 3)
theorem putR_map (d : S31) : ∀ l : List S31, Mg.putR M.lt31 (merge_Merge.to d) (l.map merge_Merge.to) = (Mg.putR ltS d l).map merge_Merge.to
  | [] => rfl
  | y :: r => by
    show (if M.lt31 (merge_Merge.to d) (merge_Merge.to y) = true then _ else _) = List.map _ (if ltS d y = true then _ else _)
    by_cases h : ltS d y = true
    · rw [if_pos (show M.lt31 (merge_Merge.to d) (merge_Merge.to y) = true from h), if_pos h, putR_map d r]; rfl
    · rw [if_neg (show ¬ M.lt31 (merge_Merge.to d) (merge_Merge.to y) = true from h), if_neg h]; rfl
theorem put_map (l : List S31) (d : S31) : Mg.put M.lt31 (l.map merge_Merge.to) (merge_Merge.to d) = (Mg.put ltS l d).map merge_Merge.to := by
  unfold Mg.put
  rw [← List.map_reverse, putR_map, List.map_reverse]
theorem srt_map (l : List S31) : Mg.srt M.lt31 (l.map merge_Merge.to) = (Mg.srt ltS l).map merge_Merge.to := by
  unfold Mg.srt
  have e : ∀ (Q S : List S31), (Q.map merge_Merge.to).foldl (Mg.put M.lt31) (S.map merge_Merge.to) = (Q.foldl (Mg.put ltS) S).map merge_Merge.to := by
    intro Q
    induction Q with
    | nil => intro S; rfl
    | cons q Q ih => intro S; rw [List.map_cons, List.foldl_cons, List.foldl_cons, put_map, ih]
  exact e l []
theorem merge_ev {l : List (List S31)} {lim : Int} (h1 : l.length ≤ 1000) (h2 : l.flatten.length ≤ 1000000000000) : merge_Merge.f l lim = some (mergeS l lim) := by
  unfold merge_Merge.f
  rw [if_pos ⟨h1, h2⟩]
  unfold M.mergeV mergeS
  have hf : (l.map (List.map merge_Merge.to)).flatten = l.flatten.map merge_Merge.to := by rw [List.map_flatten]
  have ha : (l.map (List.map merge_Merge.to)).all M.inOrd = l.all ordS := by rw [List.all_map]; rfl
  rw [hf, ha, srt_map, List.length_map]
  by_cases c1 : lim < 0
  · rw [if_pos c1, if_pos c1]; rfl
  · rw [if_neg c1, if_neg c1]
    by_cases c2 : l.all ordS = true
    · rw [if_pos c2, if_pos c2]
      dsimp only
      rw [← List.map_take, List.map_map]
      congr 2
      exact (List.map_congr_left fun x _ => of_to x).trans (List.map_id _)
    · rw [if_neg c2, if_neg c2]; rfl
theorem ahead_eq (x y : S31) : fascineref07_Ahead.f x.f0 x.f1 x.f2 y.f0 y.f1 y.f2 = some (ltS x y) := by
  have h := M.ahead_eq x.f0 x.f1 x.f2 y.f0 y.f1 y.f2
  have e : some (ltS x y) = some (decide (x.f1 < y.f1 ∨ x.f1 = y.f1 ∧ M.chrs x.f0 < M.chrs y.f0)) := by
    congr 1
    rw [Bool.eq_iff_iff, decide_eq_true_iff]
    exact M.lt31_iff _ _
  rw [e, ← h]
  rfl
theorem ltS_irr (x : S31) : ltS x x = false := by
  cases hq : ltS x x with
  | false => rfl
  | true => have := ltS_o.as _ _ hq; rw [hq] at this; cases this

theorem awake_eq : fascinelaw17_awake.f = some true := by decide +kernel

theorem put_app (A B : List S31) (d : S31) (h : ∀ y ∈ B, ltS d y = true) : Mg.put ltS (A ++ B) d = Mg.put ltS A d ++ B := by
  have e : ∀ (R S : List S31), (∀ y ∈ R, ltS d y = true) → Mg.putR ltS d (R ++ S) = R ++ Mg.putR ltS d S := by
    intro R S
    induction R with
    | nil => intro _; rfl
    | cons y r ih =>
      intro hr
      show (if ltS d y = true then y :: Mg.putR ltS d (r ++ S) else _) = _
      rw [if_pos (hr y (List.mem_cons_self ..)), ih (fun z hz => hr z (List.mem_cons_of_mem _ hz))]; rfl
  unfold Mg.put
  rw [List.reverse_append, e _ _ (fun y hy => h y (List.mem_reverse.1 hy)), List.reverse_append, List.reverse_reverse]
theorem put_last (A : List S31) (y d : S31) (h : ltS d y = false) : Mg.put ltS (A ++ [y]) d = A ++ [y] ++ [d] := by
  unfold Mg.put
  rw [List.reverse_append]
  show (if ltS d y = true then _ else d :: y :: A.reverse).reverse = _
  rw [if_neg (by rw [h]; decide)]
  simp
theorem put_ev (l : List S31) (d : S31) (hl : l.length ≤ 1000000000000) : Ev (fun k => fascineref07_Put.f k l d.f0 d.f1 d.f2) (Mg.put ltS l d) := by
  have fin : ∀ i : Nat, i ≤ l.length → ∀ r, r = l.take i ++ [d] ++ l.drop i →
      (if 0 ≤ (i : Int) then (if (i : Int) ≤ (l.length : Int) then ((some (l.take (i : Int).toNat : List (S31))).bind fun y142 => (if ([] : List (S31)).length + y142.length < 3518437208883 then ((some (([] : List (S31)) ++ y142 : List (S31))).bind fun y146 => (if y146.length < 3518437208883 then ((some (y146 ++ [(⟨d.f0, d.f1, d.f2⟩ : S31)] : List (S31))).bind fun y149 => ((some (l.drop (i : Int).toNat : List (S31))).bind fun y152 => (if y149.length + y152.length < 3518437208883 then (some (y149 ++ y152)) else (none)))) else (none))) else (none))) else (none)) else (none)) = some r := by
    intro i hi r hr
    rw [if_pos (by omega), if_pos (by omega)]
    simp only [Option.bind_some, Int.toNat_natCast, List.nil_append, List.length_nil]
    rw [if_pos (by rw [List.length_take]; omega), if_pos (by rw [List.length_take]; omega), if_pos (by rw [List.length_append, List.length_take, List.length_drop]; simp; omega), hr]
  have key : ∀ i : Nat, i ≤ l.length → Mg.put ltS l d = Mg.put ltS (l.take i) d ++ l.drop i → Ev (fun k => fascineref07_Put.l0 k l (i : Int) d.f0 d.f1 d.f2) (Mg.put ltS l d) := by
    intro i
    induction i with
    | zero =>
      intro hi hp
      refine ev_some (fun k => ?_)
      simp only [fascineref07_Put.l0]
      rw [if_neg (by omega)]
      refine fin 0 hi _ ?_
      rw [hp]; rfl
    | succ i ih =>
      intro hi hp
      have hlt : i < l.length := by omega
      have htk : l.take (i + 1) = l.take i ++ [l[i]] := List.take_succ_eq_append_getElem hlt
      have hdr : l.drop i = l[i] :: l.drop (i + 1) := List.drop_eq_getElem_cons hlt
      cases hc : ltS d l[i] with
      | true =>
        refine Ev.step (fun k => ?_) (ih (by omega) ?_)
        · simp only [fascineref07_Put.l0]
          rw [if_pos (by omega), w_pred1 i (by omega), if_pos (by omega), if_pos (by omega), rd_at l hlt, ahead_eq d l[i], hc]
          rfl
        · rw [hp, htk, put_app _ [l[i]] d (by intro y hy; rw [List.mem_singleton.1 hy]; exact hc), hdr, List.append_assoc]; rfl
      | false =>
        refine ev_some (fun k => ?_)
        simp only [fascineref07_Put.l0]
        rw [if_pos (by omega), w_pred1 i (by omega), if_pos (by omega), if_pos (by omega), rd_at l hlt, ahead_eq d l[i], hc]
        simp only [Option.bind_some]
        rw [if_neg (by decide)]
        refine fin (i + 1) hi _ ?_
        rw [hp, htk, put_last _ _ _ hc]
  exact Ev.congr (f := fun k => fascineref07_Put.l0 k l (l.length : Int) d.f0 d.f1 d.f2) (fun k => rfl) (key l.length (Nat.le_refl _) (by rw [List.take_length, List.drop_length, List.append_nil]))

theorem same_ev (l : List S31) (hl : l.length ≤ 1000000000000) : Ev (fun k => fascineref07_Same.f k l l) true := by
  have key : ∀ (d i : Nat), l.length - i = d → i ≤ l.length → Ev (fun k => fascineref07_Same.l0 k l l (i : Int)) true := by
    intro d
    induction d with
    | zero =>
      intro i hd hi
      refine ev_some (fun k => ?_)
      simp only [fascineref07_Same.l0]
      rw [if_neg (by omega)]
    | succ d ih =>
      intro i hd hi
      refine Ev.step (fun k => ?_) (ih (i + 1) (by omega) (by omega))
      simp only [fascineref07_Same.l0]
      rw [if_pos (by omega), if_pos (by omega), if_pos (by omega), if_neg (by simp), w_succ i (by omega)]
  refine Ev.congr (f := fun k => fascineref07_Same.l0 k l l 0) (fun k => ?_) (key l.length 0 (by omega) (by omega))
  unfold fascineref07_Same.f
  rw [if_pos rfl]

theorem rises_ev (l : List S31) (hl : l.length ≤ 1000000000000) : Ev (fun k => fascinelaw17_rises.f k l) (ordS l) := by
  have key : ∀ (d i : Nat), l.length - i = d → 1 ≤ i → (∀ j : Nat, 0 < j → j < i → j < l.length → ltS (rd_T31 l (j : Int)) (rd_T31 l ((j : Int) - 1)) = false) → Ev (fun k => fascinelaw17_rises.l0 k l (i : Int)) (ordS l) := by
    intro d
    induction d with
    | zero =>
      intro i hd hi hp
      refine ev_some (fun k => ?_)
      simp only [fascinelaw17_rises.l0]
      rw [if_neg (by omega), (ordS_iff l).2 (fun j h0 hj => hp j h0 (by omega) hj)]
    | succ d ih =>
      intro i hd hi hp
      cases hc : ltS (rd_T31 l (i : Int)) (rd_T31 l ((i : Int) - 1)) with
      | true =>
        refine ev_some (fun k => ?_)
        simp only [fascinelaw17_rises.l0]
        rw [if_pos (by omega), if_pos (by omega), w_pred i (by omega), if_pos (by omega), if_pos (by omega), ahead_eq, hc]
        simp only [Option.bind_some]
        rw [if_pos trivial]
        congr 1
        refine (Bool.eq_false_iff.2 fun h => ?_).symm
        have := (ordS_iff l).1 h i (by omega) (by omega)
        rw [hc] at this; cases this
      | false =>
        refine Ev.step (fun k => ?_) (ih (i + 1) (by omega) (by omega) (fun j h0 hj hl => ?_))
        · simp only [fascinelaw17_rises.l0]
          rw [if_pos (by omega), if_pos (by omega), w_pred i (by omega), if_pos (by omega), if_pos (by omega), ahead_eq, hc]
          simp only [Option.bind_some]
          rw [if_neg (by decide), w_succ i (by omega)]
        · by_cases hji : j = i
          · rw [hji]; exact hc
          · exact hp j h0 (by omega) hl
  exact Ev.congr (f := fun k => fascinelaw17_rises.l0 k l 1) (fun k => rfl) (key (l.length - 1) 1 (by omega) (by omega) (fun j h0 hj _ => by omega))

theorem or_same : ∀ (k : Nat) (a : Int) (b : List Int) (c d : Int), cmp_Or_int.l0 k a b c d = Go.Proofs.Ytaediecdpgndjaa.PMrg0.cmp_Or_int.l0 k a b c d
  | 0, _, _, _, _ => rfl
  | k + 1, a, b, c, d => by simp only [cmp_Or_int.l0, Go.Proofs.Ytaediecdpgndjaa.PMrg0.cmp_Or_int.l0, or_same k]
theorem order_same (k : Nat) (a : ByteArray) (b : Int) (c d : ByteArray) (e : Int) (f : ByteArray) : match_Order.f k a b c d e f = Go.Proofs.Ytaediecdpgndjaa.PMrg0.match_Order.f k a b c d e f := by
  unfold match_Order.f Go.Proofs.Ytaediecdpgndjaa.PMrg0.match_Order.f cmp_Or_int.f Go.Proofs.Ytaediecdpgndjaa.PMrg0.cmp_Or_int.f
  simp only [or_same]
  rfl
theorem order_ev (x y : S31) : Ev (fun k => match_Order.f k x.f0 x.f1 x.f2 y.f0 y.f1 y.f2) (M.ordV (merge_Merge.to x) (merge_Merge.to y)) := by
  simp only [order_same]
  exact M.order_ev x.f0 x.f1 x.f2 y.f0 y.f1 y.f2
theorem order_pos (x y : S31) : decide (M.ordV (merge_Merge.to x) (merge_Merge.to y) > 0) = ltS y x := M.ordV_pos _ _
def plc (t : Int) (id : ByteArray) : S31 := ⟨id, t, ⟨#[]⟩⟩
theorem behind_ev (l : List S31) (t : Int) (id : ByteArray) (hl : l.length < 3518437208883) : Ev (fun k => merge_Behind.f k l t id) (l.filter (ltS (plc t id))) := by
  have key : ∀ (d i : Nat), l.length - i = d → i ≤ l.length → Ev (fun k => merge_Behind.l0 k t id ((l.take i).filter (ltS (plc t id))) l (l.length : Int) (i : Int)) (l.filter (ltS (plc t id))) := by
    intro d
    induction d with
    | zero =>
      intro i hd hi
      refine ev_some (fun k => ?_)
      simp only [merge_Behind.l0]
      rw [if_neg (by omega), List.take_of_length_le (by omega)]
    | succ d ih =>
      intro i hd hi
      have hlt : i < l.length := by omega
      have htk : l.take (i + 1) = l.take i ++ [l[i]] := List.take_succ_eq_append_getElem hlt
      have hfl : ((l.take i).filter (ltS (plc t id))).length ≤ i := Nat.le_trans (List.length_filter_le _ _) (List.length_take_le _ _)
      generalize hX : (l.take i).filter (ltS (plc t id)) = X at *
      refine Ev.step (f := fun k => (match_Order.f k (l[i]).f0 (l[i]).f1 (l[i]).f2 id t ⟨#[]⟩).bind fun o => if o > 0 then (if X.length < 3518437208883 then merge_Behind.l0 k t id (X ++ [(⟨(l[i]).f0, (l[i]).f1, (l[i]).f2⟩ : S31)]) l (l.length : Int) ((i + 1 : Nat) : Int) else none) else merge_Behind.l0 k t id X l (l.length : Int) ((i + 1 : Nat) : Int)) (fun k => ?_) (Ev.bind (order_ev l[i] (plc t id)) ?_)
      · simp only [merge_Behind.l0]
        rw [if_pos (by omega), if_pos (by omega), if_pos (by omega), rd_at l hlt, w_succ i (by omega)]
      · have hp := order_pos l[i] (plc t id)
        have hn := ih (i + 1) (by omega) (by omega)
        rw [htk, List.filter_append, hX, List.filter_cons] at hn
        by_cases h : ltS (plc t id) l[i] = true
        · rw [h] at hp
          rw [if_pos h] at hn
          simp only [if_pos (of_decide_eq_true hp), if_pos (show X.length < 3518437208883 by omega)]
          exact hn
        · rw [Bool.eq_false_iff.2 h] at hp
          rw [if_neg h, List.filter_nil, List.append_nil] at hn
          simp only [if_neg (of_decide_eq_false hp)]
          exact hn
  exact Ev.congr (f := fun k => merge_Behind.l0 k t id ([] : List S31) l (l.length : Int) 0) (fun k => rfl) (key l.length 0 (by omega) (by omega))

theorem ltS_trans {a b c : S31} (h1 : ltS a b = true) (h2 : ltS b c = true) : ltS a c = true := by
  cases hq : ltS a c with
  | true => rfl
  | false =>
    have := ltS_o.nt b c a (ltS_o.as _ _ h2) hq
    rw [h1] at this; cases this
theorem strict_of {l : List S31} (h : ∀ j : Nat, 0 < j → j < l.length → ltS (rd_T31 l ((j : Int) - 1)) (rd_T31 l (j : Int)) = true) : l.Pairwise fun a b => ltS a b = true := by
  have key : ∀ d i (hi : i + d + 1 < l.length), ltS (l[i]'(by omega)) (l[i + d + 1]) = true := by
    intro d
    induction d with
    | zero =>
      intro i hi
      have h1 := h (i + 1) (by omega) (by omega)
      rw [show (((i + 1 : Nat) : Int) - 1) = (i : Int) by omega, rd_at l (by omega), rd_at l (by omega)] at h1
      exact h1
    | succ d ih =>
      intro i hi
      have h1 := h (i + d + 1 + 1) (by omega) (by omega)
      rw [show (((i + d + 1 + 1 : Nat) : Int) - 1) = ((i + d + 1 : Nat) : Int) by omega, rd_at l (by omega), rd_at l (by omega)] at h1
      exact ltS_trans (ih i (by omega)) h1
  refine List.pairwise_iff_getElem.2 fun i j hi hj hij => ?_
  have := key (j - i - 1) i (by omega)
  simpa [show i + (j - i - 1) + 1 = j by omega] using this
theorem ordS_of {x : List S31} (h : Mg.Ord ltS x) : ordS x = true := by
  rw [ordS_iff]
  intro j h0 hj
  have := List.pairwise_iff_getElem.1 h (j - 1) j (by omega) hj (by omega)
  rw [show ((j : Int) - 1) = ((j - 1 : Nat) : Int) by omega, rd_at x hj, rd_at x (by omega)]
  exact this
theorem ordS_ord {x : List S31} (h : ordS x = true) : Mg.Ord ltS x := by
  have := M.inOrd_ord h
  exact (List.pairwise_map.1 this)
theorem ordS_filter {x : List S31} (h : ordS x = true) (p : S31 → Bool) : ordS (x.filter p) = true := ordS_of ((ordS_ord h).sublist List.filter_sublist)
theorem lst_at (l : List (List S31)) {i : Nat} (h : i < l.length) : rd_L3 l (i : Int) = l[i] := by unfold rd_L3; simp [h]
abbrev sl (rs : List (List S31)) : List S31 := Mg.srt ltS rs.flatten
abbrev Strict (l : List S31) : Prop := l.Pairwise fun a b => ltS a b = true
theorem drop_filter {s : List S31} (hs : Strict s) {n : Nat} (hn : n < s.length) : s.filter (ltS s[n]) = s.drop (n + 1) := by
  have e : s = s.take (n + 1) ++ s.drop (n + 1) := (List.take_append_drop _ _).symm
  have htk : s.take (n + 1) = s.take n ++ [s[n]] := List.take_succ_eq_append_getElem hn
  have hp := List.pairwise_iff_getElem.1 hs
  conv => lhs; rw [show s.filter (ltS s[n]) = (s.take (n + 1) ++ s.drop (n + 1)).filter (ltS s[n]) by rw [List.take_append_drop]]
  rw [List.filter_append, List.filter_eq_nil_iff.2, List.filter_eq_self.2, List.nil_append]
  · intro y hy
    obtain ⟨j, hj, rfl⟩ := List.getElem_of_mem hy
    rw [List.length_drop] at hj
    rw [List.getElem_drop]
    exact hp n (n + 1 + j) hn (by omega) (by omega)
  · intro y hy hq
    obtain ⟨j, hj, rfl⟩ := List.getElem_of_mem hy
    rw [List.length_take] at hj
    rw [List.getElem_take] at hq
    by_cases hjn : j = n
    · subst hjn; rw [ltS_irr] at hq; cases hq
    · have := ltS_o.as _ _ (hp j n (by omega) hn (by omega))
      rw [this] at hq; cases hq
theorem page_step {rs : List (List S31)} (hs : Strict (sl rs)) {n : Nat} (hn : n < (sl rs).length) : sl (rs.map (List.filter (ltS (sl rs)[n]))) = (sl rs).drop (n + 1) := by
  unfold sl
  rw [← List.filter_flatten, Mg.srt_filter ltS ltS_o _ hs]
  exact drop_filter hs hn
theorem plc_eq (x : S31) : ltS (plc x.f1 x.f0) = ltS x := rfl
theorem srt_snoc (l : List S31) (d : S31) : Mg.srt ltS (l ++ [d]) = Mg.put ltS (Mg.srt ltS l) d := by unfold Mg.srt; rw [List.foldl_append]; rfl
theorem srtS_len (l : List S31) : (Mg.srt ltS l).length = l.length := (Mg.srt_perm ltS l).length_eq
theorem mergeS_ok {rs : List (List S31)} (ho : ∀ x ∈ rs, ordS x = true) (n : Nat) : mergeS rs (n : Int) = ((sl rs).take n, decide ((n : Int) < ((sl rs).length : Int)), 0) := by
  unfold mergeS sl
  rw [if_neg (by omega), if_pos (List.all_eq_true.2 ho), Int.toNat_natCast, srtS_len]

end Go.Proofs.Ytaediecdpgndjaa.Pure
