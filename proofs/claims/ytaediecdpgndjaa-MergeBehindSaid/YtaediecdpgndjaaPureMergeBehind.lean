/- On the printed functions of MergeBehind: what each of them answers, in plain words. -/
import Derived.Test.YtaediecdpgndjaaPMergeBehindx
import Derived.Test.YtaediecdpgndjaaMArith
import Derived.Test.YtaediecdpgndjaaMOpen
import Derived.Test.YtaediecdpgndjaaQMergeBehind
namespace Go.Proofs.Ytaediecdpgndjaa.Pure
open Go.RowKit Go.Proofs.Ytaediecdpgndjaa.PMergeBehind Go.Proofs.YtaediecdpgndjaaW.PrintWords Go.Proofs.YtaediecdpgndjaaW.PrintLast Go.Proofs.YtaediecdpgndjaaW.PrintMore Go.Proofs.Ytaediecdpgndjaa.M
set_option linter.unusedVariables false
set_option linter.unusedSimpArgs false

theorem ev_some {α : Type} {g : Nat → Option α} {r : α} (h : ∀ k, g (k + 1) = some r) : Ev g r := Ev.step (f := fun _ => some r) h (Ev.now r)
theorem ev_mono {α : Type} {g : Nat → Option α} {r : α} (hg : ∀ k, LeO (g k) (g (k + 1))) {k : Nat} (h : g k = some r) : Ev g r := Ev.of hg h

open Go.Proofs.Mg in
/-- which of two entries comes first -/
def ltS (x y : S31) : Bool := M.lt31 (merge_Merge.to x) (merge_Merge.to y)
theorem w_succ (i : Nat) (h : i < 1000000000000000) : wrap64 ((i : Int) + 1) = ((i + 1 : Nat) : Int) := by rw [M.w64 (by omega) (by omega)]; omega
theorem w_pred (i : Nat) (h : i < 1000000000000000) : wrap64 ((i : Int) - 1) = (i : Int) - 1 := M.w64 (by omega) (by omega)
theorem w_pred1 (i : Nat) (h : i < 1000000000000000) : wrap64 (((i + 1 : Nat) : Int) - 1) = (i : Int) := by rw [M.w64 (by omega) (by omega)]; omega
theorem ltS_o : Mg.LtO ltS := ⟨fun a b h => M.lt31_o.as _ _ h, fun a b c h k => M.lt31_o.nt _ _ _ h k⟩
theorem of_to (x : S31) : merge_Merge.of (merge_Merge.to x) = x := rfl
def ordS (x : List S31) : Bool := M.inOrd (x.map merge_Merge.to)
theorem rd_to (x : List S31) (j : Int) (h0 : 0 ≤ j) (h : j < x.length) : Go.Proofs.Ytaediecdpgndjaa.PMrg0.rd_T31 (x.map merge_Merge.to) j = merge_Merge.to (rd_T31 x j) := by
  unfold Go.Proofs.Ytaediecdpgndjaa.PMrg0.rd_T31 rd_T31
  have hj : j.toNat < x.length := by omega
  simp [List.getD, hj]
theorem rd_at (x : List S31) {j : Nat} (h : j < x.length) : rd_T31 x (j : Int) = x[j] := by unfold rd_T31; simp [h]
theorem ordS_iff (x : List S31) : ordS x = true ↔ ∀ j : Nat, 0 < j → j < x.length → ltS (rd_T31 x (j : Int)) (rd_T31 x ((j : Int) - 1)) = false := by
  unfold ordS
  rw [M.inOrd_iff]
  constructor
  · intro h j h0 hj
    have := h j h0 (by rw [List.length_map]; exact hj)
    rw [rd_to x _ (by omega) (by omega), rd_to x _ (by omega) (by omega)] at this
    exact this
  · intro h j h0 hj
    rw [List.length_map] at hj
    rw [rd_to x _ (by omega) (by omega), rd_to x _ (by omega) (by omega)]
    exact h j h0 hj
def mergeS (l : List (List S31)) (lim : Int) : List S31 × Bool × Int :=
  if lim < 0 then ([], false, 1) else if l.all ordS = true then ((Mg.srt ltS l.flatten).take lim.toNat, decide (lim < (l.flatten.length : Int)), 0) else ([], false, 3)
theorem putR_map (d : S31) : ∀ l : List S31, Mg.putR M.lt31 (merge_Merge.to d) (l.map merge_Merge.to) = (Mg.putR ltS d l).map merge_Merge.to
  | [] => rfl
  | y :: r => by
    show (if M.lt31 (merge_Merge.to d) (merge_Merge.to y) = true then _ else _) = List.map _ (if ltS d y = true then _ else _)
    by_cases h : ltS d y = true
    · rw [if_pos (show M.lt31 (merge_Merge.to d) (merge_Merge.to y) = true from h), if_pos h, putR_map d r]; rfl
    · rw [if_neg (show ¬ M.lt31 (merge_Merge.to d) (merge_Merge.to y) = true from h), if_neg h]; rfl
theorem put_map (l : List S31) (d : S31) : Mg.put M.lt31 (l.map merge_Merge.to) (merge_Merge.to d) = (Mg.put ltS l d).map merge_Merge.to := by
  unfold Mg.put
  rw [← List.map_reverse, putR_map, List.map_reverse]
theorem srt_map (l : List S31) : Mg.srt M.lt31 (l.map merge_Merge.to) = (Mg.srt ltS l).map merge_Merge.to := by
  unfold Mg.srt
  have e : ∀ (Q S : List S31), (Q.map merge_Merge.to).foldl (Mg.put M.lt31) (S.map merge_Merge.to) = (Q.foldl (Mg.put ltS) S).map merge_Merge.to := by
    intro Q
    induction Q with
    | nil => intro S; rfl
    | cons q Q ih => intro S; rw [List.map_cons, List.foldl_cons, List.foldl_cons, put_map, ih]
  exact e l []
theorem merge_ev {l : List (List S31)} {lim : Int} (h1 : l.length ≤ 1000) (h2 : l.flatten.length ≤ 1000000000000) : merge_Merge.f l lim = some (mergeS l lim) := by
  unfold merge_Merge.f
  rw [if_pos ⟨h1, h2⟩]
  unfold M.mergeV mergeS
  have hf : (l.map (List.map merge_Merge.to)).flatten = l.flatten.map merge_Merge.to := by rw [List.map_flatten]
  have ha : (l.map (List.map merge_Merge.to)).all M.inOrd = l.all ordS := by rw [List.all_map]; rfl
  rw [hf, ha, srt_map, List.length_map]
  by_cases c1 : lim < 0
  · rw [if_pos c1, if_pos c1]; rfl
  · rw [if_neg c1, if_neg c1]
    by_cases c2 : l.all ordS = true
    · rw [if_pos c2, if_pos c2]
      dsimp only
      rw [← List.map_take, List.map_map]
      congr 2
      exact (List.map_congr_left fun x _ => of_to x).trans (List.map_id _)
    · rw [if_neg c2, if_neg c2]; rfl
theorem ahead_eq (x y : S31) : fascineref07_Ahead.f x.f0 x.f1 x.f2 y.f0 y.f1 y.f2 = some (ltS x y) := by
  have h := M.ahead_eq x.f0 x.f1 x.f2 y.f0 y.f1 y.f2
  have e : some (ltS x y) = some (decide (x.f1 < y.f1 ∨ x.f1 = y.f1 ∧ M.chrs x.f0 < M.chrs y.f0)) := by
    congr 1
    rw [Bool.eq_iff_iff, decide_eq_true_iff]
    exact M.lt31_iff _ _
  rw [e, ← h]
  rfl
theorem ltS_irr (x : S31) : ltS x x = false := by
  cases hq : ltS x x with
  | false => rfl
  | true => have := ltS_o.as _ _ hq; rw [hq] at this; cases this

theorem awake_eq : fascinelaw17_awake.f = some true := by decide +kernel

theorem or_same : ∀ (k : Nat) (a : Int) (b : List Int) (c d : Int), cmp_Or_int.l0 k a b c d = Go.Proofs.Ytaediecdpgndjaa.PMrg0.cmp_Or_int.l0 k a b c d
  | 0, _, _, _, _ => rfl
  | k + 1, a, b, c, d => by simp only [cmp_Or_int.l0, Go.Proofs.Ytaediecdpgndjaa.PMrg0.cmp_Or_int.l0, or_same k]
theorem order_same (k : Nat) (a : ByteArray) (b : Int) (c d : ByteArray) (e : Int) (f : ByteArray) : match_Order.f k a b c d e f = Go.Proofs.Ytaediecdpgndjaa.PMrg0.match_Order.f k a b c d e f := by
  unfold match_Order.f Go.Proofs.Ytaediecdpgndjaa.PMrg0.match_Order.f cmp_Or_int.f Go.Proofs.Ytaediecdpgndjaa.PMrg0.cmp_Or_int.f
  simp only [or_same]
  rfl
theorem order_ev (x y : S31) : Ev (fun k => match_Order.f k x.f0 x.f1 x.f2 y.f0 y.f1 y.f2) (M.ordV (merge_Merge.to x) (merge_Merge.to y)) := by
  simp only [order_same]
  exact M.order_ev x.f0 x.f1 x.f2 y.f0 y.f1 y.f2
theorem order_pos (x y : S31) : decide (M.ordV (merge_Merge.to x) (merge_Merge.to y) > 0) = ltS y x := M.ordV_pos _ _
def plc (t : Int) (id : ByteArray) : S31 := ⟨id, t, ⟨#[]⟩⟩
theorem behind_ev (l : List S31) (t : Int) (id : ByteArray) (hl : l.length < 3518437208883) : Ev (fun k => merge_Behind.f k l t id) (l.filter (ltS (plc t id))) := by
  have key : ∀ (d i : Nat), l.length - i = d → i ≤ l.length → Ev (fun k => merge_Behind.l0 k t id ((l.take i).filter (ltS (plc t id))) l (l.length : Int) (i : Int)) (l.filter (ltS (plc t id))) := by
    intro d
    induction d with
    | zero =>
      intro i hd hi
      refine ev_some (fun k => ?_)
      simp only [merge_Behind.l0]
      rw [if_neg (by omega), List.take_of_length_le (by omega)]
    | succ d ih =>
      intro i hd hi
      have hlt : i < l.length := by omega
      have htk : l.take (i + 1) = l.take i ++ [l[i]] := List.take_succ_eq_append_getElem hlt
      have hfl : ((l.take i).filter (ltS (plc t id))).length ≤ i := Nat.le_trans (List.length_filter_le _ _) (List.length_take_le _ _)
      generalize hX : (l.take i).filter (ltS (plc t id)) = X at *
      refine Ev.step (f := fun k => (match_Order.f k (l[i]).f0 (l[i]).f1 (l[i]).f2 id t ⟨#[]⟩).bind fun o => if o > 0 then (if X.length < 3518437208883 then merge_Behind.l0 k t id (X ++ [(⟨(l[i]).f0, (l[i]).f1, (l[i]).f2⟩ : S31)]) l (l.length : Int) ((i + 1 : Nat) : Int) else none) else merge_Behind.l0 k t id X l (l.length : Int) ((i + 1 : Nat) : Int)) (fun k => ?_) (Ev.bind (order_ev l[i] (plc t id)) ?_)
      · simp only [merge_Behind.l0]
        rw [if_pos (by omega), if_pos (by omega), if_pos (by omega), rd_at l hlt, w_succ i (by omega)]
      · have hp := order_pos l[i] (plc t id)
        have hn := ih (i + 1) (by omega) (by omega)
        rw [htk, List.filter_append, hX, List.filter_cons] at hn
        by_cases h : ltS (plc t id) l[i] = true
        · rw [h] at hp
          rw [if_pos h] at hn
          simp only [if_pos (of_decide_eq_true hp), if_pos (show X.length < 3518437208883 by omega)]
          exact hn
        · rw [Bool.eq_false_iff.2 h] at hp
          rw [if_neg h, List.filter_nil, List.append_nil] at hn
          simp only [if_neg (of_decide_eq_false hp)]
          exact hn
  exact Ev.congr (f := fun k => merge_Behind.l0 k t id ([] : List S31) l (l.length : Int) 0) (fun k => rfl) (key l.length 0 (by omega) (by omega))

theorem MergeBehind_ev (l : List S31) (t : Int) (id : ByteArray) (hl : l.length < 3518437208883) : Ev (fun k => fascinelaw17_MergeBehind.f k l t id) true := by
  have key : ∀ (d i : Nat), l.length - i = d → i ≤ l.length → Ev (fun k => fascinelaw17_MergeBehind.l0 k l t id (l.filter (ltS (plc t id))) (((l.take i).filter (ltS (plc t id))).length : Int) (i : Int)) true := by
    intro d
    induction d with
    | zero =>
      intro i hd hi
      refine ev_some (fun k => ?_)
      simp only [fascinelaw17_MergeBehind.l0]
      rw [if_neg (by omega), List.take_of_length_le (by omega)]
      simp
    | succ d ih =>
      intro i hd hi
      have hlt : i < l.length := by omega
      have htk : l.take (i + 1) = l.take i ++ [l[i]] := List.take_succ_eq_append_getElem hlt
      have hfl : ((l.take i).filter (ltS (plc t id))).length ≤ i := Nat.le_trans (List.length_filter_le _ _) (List.length_take_le _ _)
      have hsp : l.filter (ltS (plc t id)) = (l.take i).filter (ltS (plc t id)) ++ (l.drop i).filter (ltS (plc t id)) := by rw [← List.filter_append, List.take_append_drop]
      have hdr : l.drop i = l[i] :: l.drop (i + 1) := List.drop_eq_getElem_cons hlt
      have hn := ih (i + 1) (by omega) (by omega)
      rw [htk, List.filter_append, List.filter_cons] at hn
      generalize hX : (l.take i).filter (ltS (plc t id)) = X at *
      generalize hF : l.filter (ltS (plc t id)) = F at *
      refine Ev.step (f := fun k => if ltS (plc t id) l[i] = true then fascinelaw17_MergeBehind.l0 k l t id F ((X.length + 1 : Nat) : Int) ((i + 1 : Nat) : Int) else fascinelaw17_MergeBehind.l0 k l t id F (X.length : Int) ((i + 1 : Nat) : Int)) (fun k => ?_) ?_
      · simp only [fascinelaw17_MergeBehind.l0]
        rw [if_pos (by omega), if_pos (by omega), rd_at l hlt, w_succ i (by omega), show fascineref07_Ahead.f id t ⟨#[]⟩ (l[i]).f0 (l[i]).f1 (l[i]).f2 = some (ltS (plc t id) l[i]) from ahead_eq (plc t id) l[i]]
        simp only [Option.bind_some]
        by_cases h : ltS (plc t id) l[i] = true
        · rw [hdr, List.filter_cons, if_pos h] at hsp
          have hk : X.length < F.length := by rw [hsp]; simp
          have hg : rd_T31 F (X.length : Int) = l[i] := by rw [rd_at F hk]; simp [hsp]
          rw [if_pos h, if_pos h, if_neg (by omega), if_pos (by omega), if_pos (by omega), hg, if_neg (by simp), w_succ X.length (by omega)]
        · rw [if_neg h, if_neg h]
      · by_cases h : ltS (plc t id) l[i] = true
        · rw [if_pos h] at hn
          simp only [if_pos h]
          have e : (X ++ [l[i]]).length = X.length + 1 := by simp
          rw [List.filter_nil, e] at hn
          exact hn
        · rw [if_neg h, List.filter_nil, List.append_nil] at hn
          simp only [if_neg h]
          exact hn
  refine Ev.congr (f := fun k => (merge_Behind.f k l t id).bind fun x => fascinelaw17_MergeBehind.l0 k l t id x 0 0) (fun k => ?_) (Ev.bind (behind_ev l t id hl) (key l.length 0 (by omega) (by omega)))
  unfold fascinelaw17_MergeBehind.f
  rw [awake_eq]
  simp only [Option.bind_some]
  rw [if_pos trivial]
theorem MergeBehind : MergeBehind_PureS := fun l t id hl _ _ => by
  obtain ⟨K, hK⟩ := MergeBehind_ev l t id (by have := hl.1; omega)
  exact ⟨K, hK K (Nat.le_refl _)⟩

end Go.Proofs.Ytaediecdpgndjaa.Pure
