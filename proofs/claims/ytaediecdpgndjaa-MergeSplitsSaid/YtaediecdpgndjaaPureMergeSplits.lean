/- On the printed functions of MergeSplits: what each of them answers, in plain words. -/
import Derived.Test.YtaediecdpgndjaaPMergeSplitsx
import Derived.Test.YtaediecdpgndjaaMArith
import Derived.Test.YtaediecdpgndjaaMOpen
import Derived.Test.YtaediecdpgndjaaQMergeSplits
namespace Go.Proofs.Ytaediecdpgndjaa.Pure
open Go.RowKit Go.Proofs.Ytaediecdpgndjaa.PMergeSplits Go.Proofs.YtaediecdpgndjaaW.PrintWords Go.Proofs.YtaediecdpgndjaaW.PrintLast Go.Proofs.YtaediecdpgndjaaW.PrintMore Go.Proofs.Ytaediecdpgndjaa.M
set_option linter.unusedVariables false
set_option linter.unusedSimpArgs false

theorem ev_some {α : Type} {g : Nat → Option α} {r : α} (h : ∀ k, g (k + 1) = some r) : Ev g r := Ev.step (f := fun _ => some r) h (Ev.now r)
theorem ev_mono {α : Type} {g : Nat → Option α} {r : α} (hg : ∀ k, LeO (g k) (g (k + 1))) {k : Nat} (h : g k = some r) : Ev g r := Ev.of hg h

open Go.Proofs.Mg in
/-- which of two entries comes first -/
def ltS (x y : S31) : Bool := M.lt31 (merge_Merge.to x) (merge_Merge.to y)
theorem w_succ (i : Nat) (h : i < 1000000000000000) : wrap64 ((i : Int) + 1) = ((i + 1 : Nat) : Int) := by rw [M.w64 (by omega) (by omega)]; omega
theorem w_pred (i : Nat) (h : i < 1000000000000000) : wrap64 ((i : Int) - 1) = (i : Int) - 1 := M.w64 (by omega) (by omega)
theorem w_pred1 (i : Nat) (h : i < 1000000000000000) : wrap64 (((i + 1 : Nat) : Int) - 1) = (i : Int) := by rw [M.w64 (by omega) (by omega)]; omega
theorem ltS_o : Mg.LtO ltS := ⟨fun a b h => M.lt31_o.as _ _ h, fun a b c h k => M.lt31_o.nt _ _ _ h k⟩
theorem of_to (x : S31) : merge_Merge.of (merge_Merge.to x) = x := rfl
def ordS (x : List S31) : Bool := M.inOrd (x.map merge_Merge.to)
theorem rd_to (x : List S31) (j : Int) (h0 : 0 ≤ j) (h : j < x.length) : Go.Proofs.Ytaediecdpgndjaa.PMrg0.rd_T31 (x.map merge_Merge.to) j = merge_Merge.to (rd_T31 x j) := by
  unfold Go.Proofs.Ytaediecdpgndjaa.PMrg0.rd_T31 rd_T31
  have hj : j.toNat < x.length := by omega
  simp [List.getD, hj]
theorem rd_at (x : List S31) {j : Nat} (h : j < x.length) : rd_T31 x (j : Int) = x[j] := by unfold rd_T31; simp [h]
theorem ordS_iff (x : List S31) : ordS x = true ↔ ∀ j : Nat, 0 < j → j < x.length → ltS (rd_T31 x (j : Int)) (rd_T31 x ((j : Int) - 1)) = false := by
  unfold ordS
  rw [M.inOrd_iff]
  constructor
  · intro h j h0 hj
    have := h j h0 (by rw [List.length_map]; exact hj)
    rw [rd_to x _ (by omega) (by omega), rd_to x _ (by omega) (by omega)] at this
    exact this
  · intro h j h0 hj
    rw [List.length_map] at hj
    rw [rd_to x _ (by omega) (by omega), rd_to x _ (by omega) (by omega)]
    exact h j h0 hj
def mergeS (l : List (List S31)) (lim : Int) : List S31 × Bool × Int :=
  if lim < 0 then ([], false, 1) else if l.all ordS = true then ((Mg.srt ltS l.flatten).take lim.toNat, decide (lim < (l.flatten.length : Int)), 0) else ([], false, 3)
theorem putR_map (d : S31) : ∀ l : List S31, Mg.putR M.lt31 (merge_Merge.to d) (l.map merge_Merge.to) = (Mg.putR ltS d l).map merge_Merge.to
  | [] => rfl
  | y :: r => by
    show (if M.lt31 (merge_Merge.to d) (merge_Merge.to y) = true then _ else _) = List.map _ (if ltS d y = true then _ else _)
    by_cases h : ltS d y = true
    · rw [if_pos (show M.lt31 (merge_Merge.to d) (merge_Merge.to y) = true from h), if_pos h, putR_map d r]; rfl
    · rw [if_neg (show ¬ M.lt31 (merge_Merge.to d) (merge_Merge.to y) = true from h), if_neg h]; rfl
theorem put_map (l : List S31) (d : S31) : Mg.put M.lt31 (l.map merge_Merge.to) (merge_Merge.to d) = (Mg.put ltS l d).map merge_Merge.to := by
  unfold Mg.put
  rw [← List.map_reverse, putR_map, List.map_reverse]
theorem srt_map (l : List S31) : Mg.srt M.lt31 (l.map merge_Merge.to) = (Mg.srt ltS l).map merge_Merge.to := by
  unfold Mg.srt
  have e : ∀ (Q S : List S31), (Q.map merge_Merge.to).foldl (Mg.put M.lt31) (S.map merge_Merge.to) = (Q.foldl (Mg.put ltS) S).map merge_Merge.to := by
    intro Q
    induction Q with
    | nil => intro S; rfl
    | cons q Q ih => intro S; rw [List.map_cons, List.foldl_cons, List.foldl_cons, put_map, ih]
  exact e l []
theorem merge_ev {l : List (List S31)} {lim : Int} (h1 : l.length ≤ 1000) (h2 : l.flatten.length ≤ 1000000000000) : merge_Merge.f l lim = some (mergeS l lim) := by
  unfold merge_Merge.f
  rw [if_pos ⟨h1, h2⟩]
  unfold M.mergeV mergeS
  have hf : (l.map (List.map merge_Merge.to)).flatten = l.flatten.map merge_Merge.to := by rw [List.map_flatten]
  have ha : (l.map (List.map merge_Merge.to)).all M.inOrd = l.all ordS := by rw [List.all_map]; rfl
  rw [hf, ha, srt_map, List.length_map]
  by_cases c1 : lim < 0
  · rw [if_pos c1, if_pos c1]; rfl
  · rw [if_neg c1, if_neg c1]
    by_cases c2 : l.all ordS = true
    · rw [if_pos c2, if_pos c2]
      dsimp only
      rw [← List.map_take, List.map_map]
      congr 2
      exact (List.map_congr_left fun x _ => of_to x).trans (List.map_id _)
    · rw [if_neg c2, if_neg c2]; rfl
theorem ahead_eq (x y : S31) : fascineref07_Ahead.f x.f0 x.f1 x.f2 y.f0 y.f1 y.f2 = some (ltS x y) := by
  have h := M.ahead_eq x.f0 x.f1 x.f2 y.f0 y.f1 y.f2
  have e : some (ltS x y) = some (decide (x.f1 < y.f1 ∨ x.f1 = y.f1 ∧ M.chrs x.f0 < M.chrs y.f0)) := by
    congr 1
    rw [Bool.eq_iff_iff, decide_eq_true_iff]
    exact M.lt31_iff _ _
  rw [e, ← h]
  rfl
theorem ltS_irr (x : S31) : ltS x x = false := by
  cases hq : ltS x x with
  | false => rfl
  | true => have := ltS_o.as _ _ hq; rw [hq] at this; cases this

theorem awake_eq : fascinelaw17_awake.f = some true := by decide +kernel

theorem put_app (A B : List S31) (d : S31) (h : ∀ y ∈ B, ltS d y = true) : Mg.put ltS (A ++ B) d = Mg.put ltS A d ++ B := by
  have e : ∀ (R S : List S31), (∀ y ∈ R, ltS d y = true) → Mg.putR ltS d (R ++ S) = R ++ Mg.putR ltS d S := by
    intro R S
    induction R with
    | nil => intro _; rfl
    | cons y r ih =>
      intro hr
      show (if ltS d y = true then y :: Mg.putR ltS d (r ++ S) else _) = _
      rw [if_pos (hr y (List.mem_cons_self ..)), ih (fun z hz => hr z (List.mem_cons_of_mem _ hz))]; rfl
  unfold Mg.put
  rw [List.reverse_append, e _ _ (fun y hy => h y (List.mem_reverse.1 hy)), List.reverse_append, List.reverse_reverse]
theorem put_last (A : List S31) (y d : S31) (h : ltS d y = false) : Mg.put ltS (A ++ [y]) d = A ++ [y] ++ [d] := by
  unfold Mg.put
  rw [List.reverse_append]
  show (if ltS d y = true then _ else d :: y :: A.reverse).reverse = _
  rw [if_neg (by rw [h]; decide)]
  simp
theorem put_ev (l : List S31) (d : S31) (hl : l.length ≤ 1000000000000) : Ev (fun k => fascineref07_Put.f k l d.f0 d.f1 d.f2) (Mg.put ltS l d) := by
  have fin : ∀ i : Nat, i ≤ l.length → ∀ r, r = l.take i ++ [d] ++ l.drop i →
      (if 0 ≤ (i : Int) then (if (i : Int) ≤ (l.length : Int) then ((some (l.take (i : Int).toNat : List (S31))).bind fun y142 => (if ([] : List (S31)).length + y142.length < 3518437208883 then ((some (([] : List (S31)) ++ y142 : List (S31))).bind fun y146 => (if y146.length < 3518437208883 then ((some (y146 ++ [(⟨d.f0, d.f1, d.f2⟩ : S31)] : List (S31))).bind fun y149 => ((some (l.drop (i : Int).toNat : List (S31))).bind fun y152 => (if y149.length + y152.length < 3518437208883 then (some (y149 ++ y152)) else (none)))) else (none))) else (none))) else (none)) else (none)) = some r := by
    intro i hi r hr
    rw [if_pos (by omega), if_pos (by omega)]
    simp only [Option.bind_some, Int.toNat_natCast, List.nil_append, List.length_nil]
    rw [if_pos (by rw [List.length_take]; omega), if_pos (by rw [List.length_take]; omega), if_pos (by rw [List.length_append, List.length_take, List.length_drop]; simp; omega), hr]
  have key : ∀ i : Nat, i ≤ l.length → Mg.put ltS l d = Mg.put ltS (l.take i) d ++ l.drop i → Ev (fun k => fascineref07_Put.l0 k l (i : Int) d.f0 d.f1 d.f2) (Mg.put ltS l d) := by
    intro i
    induction i with
    | zero =>
      intro hi hp
      refine ev_some (fun k => ?_)
      simp only [fascineref07_Put.l0]
      rw [if_neg (by omega)]
      refine fin 0 hi _ ?_
      rw [hp]; rfl
    | succ i ih =>
      intro hi hp
      have hlt : i < l.length := by omega
      have htk : l.take (i + 1) = l.take i ++ [l[i]] := List.take_succ_eq_append_getElem hlt
      have hdr : l.drop i = l[i] :: l.drop (i + 1) := List.drop_eq_getElem_cons hlt
      cases hc : ltS d l[i] with
      | true =>
        refine Ev.step (fun k => ?_) (ih (by omega) ?_)
        · simp only [fascineref07_Put.l0]
          rw [if_pos (by omega), w_pred1 i (by omega), if_pos (by omega), if_pos (by omega), rd_at l hlt, ahead_eq d l[i], hc]
          rfl
        · rw [hp, htk, put_app _ [l[i]] d (by intro y hy; rw [List.mem_singleton.1 hy]; exact hc), hdr, List.append_assoc]; rfl
      | false =>
        refine ev_some (fun k => ?_)
        simp only [fascineref07_Put.l0]
        rw [if_pos (by omega), w_pred1 i (by omega), if_pos (by omega), if_pos (by omega), rd_at l hlt, ahead_eq d l[i], hc]
        simp only [Option.bind_some]
        rw [if_neg (by decide)]
        refine fin (i + 1) hi _ ?_
        rw [hp, htk, put_last _ _ _ hc]
  exact Ev.congr (f := fun k => fascineref07_Put.l0 k l (l.length : Int) d.f0 d.f1 d.f2) (fun k => rfl) (key l.length (Nat.le_refl _) (by rw [List.take_length, List.drop_length, List.append_nil]))

theorem same_ev (l : List S31) (hl : l.length ≤ 1000000000000) : Ev (fun k => fascineref07_Same.f k l l) true := by
  have key : ∀ (d i : Nat), l.length - i = d → i ≤ l.length → Ev (fun k => fascineref07_Same.l0 k l l (i : Int)) true := by
    intro d
    induction d with
    | zero =>
      intro i hd hi
      refine ev_some (fun k => ?_)
      simp only [fascineref07_Same.l0]
      rw [if_neg (by omega)]
    | succ d ih =>
      intro i hd hi
      refine Ev.step (fun k => ?_) (ih (i + 1) (by omega) (by omega))
      simp only [fascineref07_Same.l0]
      rw [if_pos (by omega), if_pos (by omega), if_pos (by omega), if_neg (by simp), w_succ i (by omega)]
  refine Ev.congr (f := fun k => fascineref07_Same.l0 k l l 0) (fun k => ?_) (key l.length 0 (by omega) (by omega))
  unfold fascineref07_Same.f
  rw [if_pos rfl]

theorem wf_u8 {x : Int} (h : (Lit.int .u8 x).wf = true) : 0 ≤ x ∧ x ≤ 255 := by
  simpa [Lit.wf, IntKind.min, IntKind.max, IntKind.signed, IntKind.bits] using h

/-- bytes -/
def By (l : List Int) : Prop := ∀ x ∈ l, 0 ≤ x ∧ x ≤ 255
theorem ltS_trans {a b c : S31} (h1 : ltS a b = true) (h2 : ltS b c = true) : ltS a c = true := by
  cases hq : ltS a c with
  | true => rfl
  | false =>
    have := ltS_o.nt b c a (ltS_o.as _ _ h2) hq
    rw [h1] at this; cases this
theorem strict_of {l : List S31} (h : ∀ j : Nat, 0 < j → j < l.length → ltS (rd_T31 l ((j : Int) - 1)) (rd_T31 l (j : Int)) = true) : l.Pairwise fun a b => ltS a b = true := by
  have key : ∀ d i (hi : i + d + 1 < l.length), ltS (l[i]'(by omega)) (l[i + d + 1]) = true := by
    intro d
    induction d with
    | zero =>
      intro i hi
      have h1 := h (i + 1) (by omega) (by omega)
      rw [show (((i + 1 : Nat) : Int) - 1) = (i : Int) by omega, rd_at l (by omega), rd_at l (by omega)] at h1
      exact h1
    | succ d ih =>
      intro i hi
      have h1 := h (i + d + 1 + 1) (by omega) (by omega)
      rw [show (((i + d + 1 + 1 : Nat) : Int) - 1) = ((i + d + 1 : Nat) : Int) by omega, rd_at l (by omega), rd_at l (by omega)] at h1
      exact ltS_trans (ih i (by omega)) h1
  refine List.pairwise_iff_getElem.2 fun i j hi hj hij => ?_
  have := key (j - i - 1) i (by omega)
  simpa [show i + (j - i - 1) + 1 = j by omega] using this
theorem ordS_of {x : List S31} (h : Mg.Ord ltS x) : ordS x = true := by
  rw [ordS_iff]
  intro j h0 hj
  have := List.pairwise_iff_getElem.1 h (j - 1) j (by omega) hj (by omega)
  rw [show ((j : Int) - 1) = ((j - 1 : Nat) : Int) by omega, rd_at x hj, rd_at x (by omega)]
  exact this
theorem lst_at (l : List (List S31)) {i : Nat} (h : i < l.length) : rd_L3 l (i : Int) = l[i] := by unfold rd_L3; simp [h]
structure Parts (all : List S31) (i : Nat) (ps : List (List S31)) : Prop where
  n : ps.length = 5
  p : ps.flatten.Perm (all.take i)
  s : ∀ x ∈ ps, x.Sublist (all.take i)
theorem Parts.step {all : List S31} {i : Nat} {ps : List (List S31)} (h : Parts all i ps) (hi : i < all.length) {k : Nat} (hk : k < ps.length) : Parts all (i + 1) (ps.set k (ps[k] ++ [all[i]])) := by
  have htk : all.take (i + 1) = all.take i ++ [all[i]] := List.take_succ_eq_append_getElem hi
  refine ⟨by rw [List.length_set]; exact h.n, ?_, fun x hx => ?_⟩
  · rw [htk]
    have e1 : ps = ps.take k ++ ps[k] :: ps.drop (k + 1) := by simp
    have e2 : ps.set k (ps[k] ++ [all[i]]) = ps.take k ++ (ps[k] ++ [all[i]]) :: ps.drop (k + 1) := by rw [List.set_eq_take_append_cons_drop, if_pos hk]
    have hp := h.p
    rw [e1, List.flatten_append, List.flatten_cons] at hp
    rw [e2, List.flatten_append, List.flatten_cons]
    refine List.Perm.trans ?_ (hp.append_right [all[i]])
    rw [List.append_assoc, List.append_assoc, List.append_assoc]
    exact ((List.perm_append_comm (l₁ := [all[i]])).append_left _).append_left _
  · rw [htk]
    rcases List.mem_or_eq_of_mem_set hx with hm | hm
    · exact (h.s x hm).trans (List.sublist_append_left _ _)
    · rw [hm]
      exact (h.s _ (List.getElem_mem hk)).append_right [all[i]]
theorem splits_end (all : List S31) (ps : List (List S31)) (h : Parts all all.length ps) (hs : all.Pairwise fun a b => ltS a b = true) (hl : all.length ≤ 60) : merge_Merge.f ps (all.length : Int) = some (all, false, 0) := by
  have hp := h.p
  rw [List.take_length] at hp
  have hfl := hp.length_eq
  rw [merge_ev (by rw [h.n]; omega) (by omega)]
  unfold mergeS
  have ho : ps.all ordS = true := List.all_eq_true.2 fun x hx => by
    have hx2 := h.s x hx
    rw [List.take_length] at hx2
    exact ordS_of ((hs.sublist hx2).imp fun h => ltS_o.as _ _ h)
  rw [if_neg (by omega), if_pos ho, Mg.srt_uniq ltS ltS_o hp hs, Int.toNat_natCast, List.take_length, hfl, decide_eq_false (by omega)]
theorem MergeSplits_ev (l : List S31) (ws : List Int) (hw : ∀ x ∈ ws, 0 ≤ x ∧ x ≤ 255) : Ev (fun k => fascinelaw17_MergeSplits.f k l ws) true := by
  have out : Ev (fun k => fascinelaw17_MergeSplits.j0 k l ws true) true := ev_some (fun k => by
    simp only [fascinelaw17_MergeSplits.j0]
    rw [if_pos trivial, awake_eq]; rfl)
  by_cases hlen : l.length > 60
  · refine Ev.congr (f := fun k => fascinelaw17_MergeSplits.j0 k l ws true) (fun k => ?_) out
    unfold fascinelaw17_MergeSplits.f
    rw [awake_eq]
    simp only [Option.bind_some]
    rw [if_pos trivial, if_pos (by omega)]
  by_cases hw0 : ws.length = 0
  · refine Ev.congr (f := fun k => fascinelaw17_MergeSplits.j0 k l ws true) (fun k => ?_) out
    unfold fascinelaw17_MergeSplits.f
    rw [awake_eq]
    simp only [Option.bind_some]
    rw [if_pos trivial, if_neg (by omega), hw0]; rfl
  clear out
  have hsl : (Mg.srt ltS l).length = l.length := (Mg.srt_perm ltS l).length_eq
  -- the parts
  have h2 : ∀ (all : List S31) (hall : all.length ≤ 60) (hst : all.Pairwise fun a b => ltS a b = true) (d i : Nat) (ps : List (List S31)), all.length - i = d → i ≤ all.length → Parts all i ps → Ev (fun k => fascinelaw17_MergeSplits.l2 k ws all ps (i : Int)) true := by
    intro all hall hst d
    induction d with
    | zero =>
      intro i ps hd hi hp
      have hie : i = all.length := by omega
      subst hie
      refine Ev.step (f := fun k => (fascineref07_Same.f k all all).bind fun t => some t) (fun k => ?_) (Ev.bind (same_ev all (by omega)) (Ev.now true))
      simp only [fascinelaw17_MergeSplits.l2]
      rw [if_neg (by omega), splits_end all ps hp hst hall]
      simp only [Option.bind_some]
      rw [if_pos trivial, if_neg (by decide)]
    | succ d ih =>
      intro i ps hd hi hp
      have hil : i < all.length := by omega
      have hm0 : Int.tmod (i : Int) (ws.length : Int) = ((i % ws.length : Nat) : Int) := by
        rw [Int.tmod_eq_emod_of_nonneg (by omega)]; rfl
      have hml : i % ws.length < ws.length := Nat.mod_lt _ (by omega)
      have hrw : ∀ v : Int, 0 ≤ v ∧ v ≤ 255 → ∃ q : Nat, Int.tmod (wrap64 v) 5 = (q : Int) ∧ q < 5 := fun v hv => by
        rw [M.w64 (by omega) (by omega), Int.tmod_eq_emod_of_nonneg hv.1]
        exact ⟨(v % 5).toNat, by omega, by omega⟩
      have hrd : rd ws ((i % ws.length : Nat) : Int) = ws[i % ws.length] := by
        generalize i % ws.length = p at *
        unfold rd; simp [hml]
      obtain ⟨q, hq, hq5⟩ := hrw _ (hw _ (List.getElem_mem hml))
      have hqp : q < ps.length := by rw [hp.n]; exact hq5
      have hpl : ps[q].length ≤ 60 := by
        have h1 := (hp.s _ (List.getElem_mem hqp)).length_le
        rw [List.length_take] at h1; omega
      refine Ev.step (fun k => ?_) (ih (i + 1) (ps.set q (ps[q] ++ [all[i]])) (by omega) (by omega) (hp.step hil hqp))
      simp only [fascinelaw17_MergeSplits.l2]
      rw [if_pos (by omega), if_neg (by omega), hm0, if_pos (by omega), if_pos (by omega), hrd, hq, if_pos (by omega), if_pos (by omega), if_pos (by omega), lst_at ps hqp, if_pos (by omega), rd_at all hil, w_succ i (by omega), Int.toNat_natCast]
  -- are there two that stand together?
  have h1 : ∀ (all : List S31) (hall : all.length ≤ 60) (d i : Nat), all.length - i = d → 1 ≤ i → (∀ j : Nat, 0 < j → j < i → j < all.length → ltS (rd_T31 all ((j : Int) - 1)) (rd_T31 all (j : Int)) = true) → Ev (fun k => fascinelaw17_MergeSplits.l1 k ws all (i : Int)) true := by
    intro all hall d
    induction d with
    | zero =>
      intro i hd hi hp
      refine Ev.step (fun k => ?_) (h2 all hall (strict_of fun j h0 hj => hp j h0 (by omega) hj) all.length 0 (List.replicate 5 []) (by omega) (by omega) ⟨rfl, List.Perm.refl _, fun x hx => by rw [List.eq_of_mem_replicate hx]; exact List.nil_sublist _⟩)
      simp only [fascinelaw17_MergeSplits.l1]
      rw [if_neg (by omega), if_pos (by omega)]
      rfl
    | succ d ih =>
      intro i hd hi hp
      cases hc : ltS (rd_T31 all ((i : Int) - 1)) (rd_T31 all (i : Int)) with
      | false =>
        refine ev_some (fun k => ?_)
        simp only [fascinelaw17_MergeSplits.l1]
        rw [if_pos (by omega), w_pred i (by omega), if_pos (by omega), if_pos (by omega), if_pos (by omega), ahead_eq, hc]
        simp only [Option.bind_some]
        rw [if_neg (by decide)]
      | true =>
        refine Ev.step (fun k => ?_) (ih (i + 1) (by omega) (by omega) (fun j h0 hj hl => ?_))
        · simp only [fascinelaw17_MergeSplits.l1]
          rw [if_pos (by omega), w_pred i (by omega), if_pos (by omega), if_pos (by omega), if_pos (by omega), ahead_eq, hc]
          simp only [Option.bind_some]
          rw [if_pos trivial, w_succ i (by omega)]
        · by_cases hji : j = i
          · rw [hji]; exact hc
          · exact hp j h0 (by omega) hl
  have h0 : ∀ (d i : Nat), l.length - i = d → i ≤ l.length → Ev (fun k => fascinelaw17_MergeSplits.l0 k l ws (Mg.srt ltS (l.take i)) (i : Int)) true := by
    intro d
    induction d with
    | zero =>
      intro i hd hi
      rw [List.take_of_length_le (by omega)]
      refine Ev.step (fun k => ?_) (h1 (Mg.srt ltS l) (by omega) ((Mg.srt ltS l).length - 1) 1 (by omega) (by omega) (fun j h0 hj => by omega))
      simp only [fascinelaw17_MergeSplits.l0]
      rw [if_neg (by omega)]
      rfl
    | succ d ih =>
      intro i hd hi
      have hil : i < l.length := by omega
      have htk : l.take (i + 1) = l.take i ++ [l[i]] := List.take_succ_eq_append_getElem hil
      have hsz : (Mg.srt ltS (l.take i)).length ≤ 60 := by rw [(Mg.srt_perm ltS _).length_eq, List.length_take]; omega
      have hn := ih (i + 1) (by omega) (by omega)
      have hs : Mg.srt ltS (l.take (i + 1)) = Mg.put ltS (Mg.srt ltS (l.take i)) l[i] := by rw [htk]; unfold Mg.srt; rw [List.foldl_append]; rfl
      rw [hs] at hn
      refine Ev.step (f := fun k => (fascineref07_Put.f k (Mg.srt ltS (l.take i)) (l[i]).f0 (l[i]).f1 (l[i]).f2).bind fun t => fascinelaw17_MergeSplits.l0 k l ws t ((i + 1 : Nat) : Int)) (fun k => ?_) (Ev.bind (put_ev _ l[i] (by omega)) hn)
      simp only [fascinelaw17_MergeSplits.l0]
      rw [if_pos (by omega), if_pos (by omega), rd_at l hil, w_succ i (by omega)]
  refine Ev.congr (f := fun k => fascinelaw17_MergeSplits.j0 k l ws false) (fun k => ?_) (Ev.step (fun k => ?_) (h0 l.length 0 (by omega) (by omega)))
  · unfold fascinelaw17_MergeSplits.f
    rw [awake_eq]
    simp only [Option.bind_some]
    rw [if_pos trivial, if_neg (by omega), show ((ws.length : Int) == 0) = false from by simpa using hw0]
  · simp only [fascinelaw17_MergeSplits.j0]
    rw [if_neg (by decide)]
    rfl
theorem MergeSplits : MergeSplits_PureS := fun l ws _ hw => by
  obtain ⟨K, hK⟩ := MergeSplits_ev l ws (fun x hx => wf_u8 (hw.2 x hx))
  exact ⟨K, hK K (Nat.le_refl _)⟩

end Go.Proofs.Ytaediecdpgndjaa.Pure
