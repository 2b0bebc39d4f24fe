/- On the printed functions of MetaNews: what each of them answers, in plain words. -/
import Derived.Test.YtkoaeiiaagipeaaPMetaNewsx
import Derived.Test.YtkoaeiiaagipeaaMPack
import Derived.Test.YtkoaeiiaagipeaaQMetaNews
namespace Go.Proofs.Ytkoaeiiaagipeaa.Pure
open Go.RowKit Go.Proofs.Ytkoaeiiaagipeaa.PMetaNews Go.Proofs.YtkoaeiiaagipeaaW.PrintWords Go.Proofs.YtkoaeiiaagipeaaW.PrintLast Go.Proofs.YtkoaeiiaagipeaaW.PrintMore Go.Proofs.Ytkoaeiiaagipeaa.M
set_option linter.unusedVariables false
set_option linter.unusedSimpArgs false

theorem fascinelaw14_awake_40 : fascinelaw14_awake.f 40 = some true := by decide +kernel
theorem fascinelaw14_awake_is {k : Nat} (hk : 40 ≤ k) : fascinelaw14_awake.f k = some true := by
  obtain ⟨d, rfl⟩ := Nat.exists_eq_add_of_le hk
  induction d with
  | zero => exact fascinelaw14_awake_40
  | succ d ih => exact fascinelaw14_awake.mono (40 + d) true (ih (by omega))

theorem rd_nat {l : List Int} {j : Nat} (h : j < l.length) : rd l (j : Int) = l[j] := by
  unfold rd
  rw [Int.toNat_natCast, List.getD_eq_getElem?_getD, List.getElem?_eq_getElem h]
  rfl
theorem rdT_nat {l : List S42} {j : Nat} (h : j < l.length) : rd_T42 l (j : Int) = l[j] := by
  unfold rd_T42
  rw [Int.toNat_natCast, List.getD_eq_getElem?_getD, List.getElem?_eq_getElem h]
  rfl
theorem w64s {j n : Nat} (h : j < n) (hn : n ≤ 9223372036854775807) : wrap64 ((j : Int) + 1) = ((j + 1 : Nat) : Int) := by
  rw [w64 (by omega) (by omega)]; omega
theorem ev_some {α : Type} {g : Nat → Option α} {r : α} (h : ∀ k, g (k + 1) = some r) : Ev g r := Ev.step (f := fun _ => some r) h (Ev.now r)
theorem ev_mono {α : Type} {g : Nat → Option α} {r : α} (hg : ∀ k, LeO (g k) (g (k + 1))) {k : Nat} (h : g k = some r) : Ev g r := Ev.of hg h
theorem idx_ev (l : List Int) (a : Int) (hl : l.length ≤ 4611686018427387904) : ∀ (d i : Nat), l.length - i = d → i ≤ l.length → ∃ r : Int, Ev (fun k => slices_Index_int_int.l0 k l a (l.length : Int) (i : Int)) r ∧ (0 ≤ r ↔ a ∈ l.drop i) := by
  intro d
  induction d with
  | zero =>
    intro i hd hi
    refine ⟨-1, ev_some (fun k => ?_), ?_⟩
    · simp only [slices_Index_int_int.l0]; rw [if_neg (by omega)]
    · rw [List.drop_of_length_le (by omega)]; simp
  | succ d ih =>
    intro i hd hi
    have hlt : i < l.length := by omega
    obtain ⟨r, hr, hm⟩ := ih (i + 1) (by omega) (by omega)
    by_cases e : a = l[i]
    · refine ⟨(i : Int), ev_some (fun k => ?_), ?_⟩
      · simp only [slices_Index_int_int.l0]; rw [if_pos (by omega), if_pos (by omega), if_pos (by omega), rd_nat hlt, if_pos e]
      · rw [List.drop_eq_getElem_cons hlt, ← e]; simp
    · refine ⟨r, Ev.step (f := fun k => slices_Index_int_int.l0 k l a (l.length : Int) ((i + 1 : Nat) : Int)) (fun k => ?_) hr, ?_⟩
      · simp only [slices_Index_int_int.l0]; rw [if_pos (by omega), if_pos (by omega), if_pos (by omega), rd_nat hlt, if_neg e, w64s hlt (by omega)]
      · rw [List.drop_eq_getElem_cons hlt, List.mem_cons, hm]; simp [e]
theorem contains_ev (l : List Int) (a : Int) (hl : l.length ≤ 4611686018427387904) : Ev (fun k => slices_Contains_int_int.f k l a) (decide (a ∈ l)) := by
  obtain ⟨r, hr, hm⟩ := idx_ev l a hl l.length 0 (by omega) (by omega)
  have h2 : Ev (fun k => (slices_Index_int_int.f k l a).bind fun t => some (decide (t ≥ 0))) (decide (r ≥ 0)) := Ev.bind (f := fun _ t => some (decide (t ≥ 0))) hr (Ev.now _)
  have e : decide (r ≥ 0) = decide (a ∈ l) := decide_eq_decide.mpr (by rw [List.drop_zero] at hm; exact hm)
  rw [e] at h2
  exact h2
def chk (n last : Int) : List Int → Bool
  | [] => true
  | x :: t => decide (last < x) && (decide (x < n) && chk n x t)
def rowOk (n : Int) (s : S42) : Bool := chk n (-1) s.f3 && (decide (1 ≤ s.f1) && decide (s.f2 ∈ s.f3))
def tabOk (n : Int) (l : List S42) : Bool := decide (1 ≤ n ∧ n ≤ 5 ∧ 1 ≤ l.length ∧ l.length ≤ 8) && l.all (rowOk n)
def prevOf (l : List Int) (j : Nat) : Int := if j = 0 then -1 else l.getD (j - 1) 0
theorem prev_succ {l : List Int} {j : Nat} (h : j < l.length) : prevOf l (j + 1) = l[j] := by
  unfold prevOf
  rw [if_neg (by omega), Nat.add_sub_cancel, List.getD_eq_getElem?_getD, List.getElem?_eq_getElem h]
  rfl
theorem form_row (n : Int) (l : List S42) (i : Nat) (s : S42) (rt : Bool) (hs : s.f3.length ≤ 4611686018427387904)
    (ht : Ev (fun k => meta_Form.l0 k l (l.length : Int) (wrap64 ((i : Int) + 1)) n l) rt) :
    ∀ (d j : Nat), s.f3.length - j = d → j ≤ s.f3.length → (0 < j → 0 ≤ prevOf s.f3 j) →
    Ev (fun k => meta_Form.l1 k l (l.length : Int) (i : Int) s.f3 (s.f3.length : Int) (j : Int) n l s.f0 s.f1 s.f2 s.f3) (chk n (prevOf s.f3 j) (s.f3.drop j) && (decide (1 ≤ s.f1) && decide (s.f2 ∈ s.f3)) && rt) := by
  intro d
  induction d with
  | zero =>
    intro j hd hj _
    rw [List.drop_of_length_le (by omega)]
    by_cases h1 : s.f1 < 1
    · rw [decide_eq_false (show ¬ 1 ≤ s.f1 by omega)]
      exact ev_some (fun k => by simp only [meta_Form.l1]; rw [if_neg (by omega), if_pos h1]; simp [chk])
    · rw [decide_eq_true (show 1 ≤ s.f1 by omega)]
      refine Ev.step (f := fun k => (slices_Contains_int_int.f k s.f3 s.f2).bind fun t => if t = true then meta_Form.l0 k l (l.length : Int) (wrap64 ((i : Int) + 1)) n l else some false) (fun k => by simp only [meta_Form.l1]; rw [if_neg (by omega), if_neg h1]) ?_
      refine Ev.bind (f := fun k t => if t = true then meta_Form.l0 k l (l.length : Int) (wrap64 ((i : Int) + 1)) n l else some false) (contains_ev s.f3 s.f2 hs) ?_
      by_cases hc : s.f2 ∈ s.f3
      · simp only [hc, decide_true, if_true, chk, Bool.true_and]; exact ht
      · simp only [hc, decide_false, chk, Bool.true_and, Bool.false_and]; exact Ev.now _
  | succ d ih =>
    intro j hd hj hp
    have hlt : j < s.f3.length := by omega
    have hdr : s.f3.drop j = s.f3[j] :: s.f3.drop (j + 1) := List.drop_eq_getElem_cons hlt
    rw [hdr]
    simp only [chk]
    have hnext : 0 ≤ s.f3[j] → Ev (fun k => meta_Form.l1 k l (l.length : Int) (i : Int) s.f3 (s.f3.length : Int) ((j + 1 : Nat) : Int) n l s.f0 s.f1 s.f2 s.f3) (chk n s.f3[j] (s.f3.drop (j + 1)) && (decide (1 ≤ s.f1) && decide (s.f2 ∈ s.f3)) && rt) := by
      intro h0
      have := ih (j + 1) (by omega) (by omega) (fun _ => by rw [prev_succ hlt]; exact h0)
      rw [prev_succ hlt] at this
      exact this
    by_cases h0 : s.f3[j] < 0
    · have e : decide (prevOf s.f3 j < s.f3[j]) = false := by
        apply decide_eq_false
        by_cases hj0 : j = 0
        · subst hj0; unfold prevOf; rw [if_pos rfl]; omega
        · have := hp (by omega); omega
      rw [e]
      exact ev_some (fun k => by simp only [meta_Form.l1]; rw [if_pos (by omega), if_pos (by omega), if_pos (by omega), rd_nat hlt, if_pos h0]; rfl)
    · by_cases h1 : s.f3[j] ≥ n
      · rw [decide_eq_false (show ¬ s.f3[j] < n by omega), Bool.false_and, Bool.and_false]
        exact ev_some (fun k => by simp only [meta_Form.l1]; rw [if_pos (by omega), if_pos (by omega), if_pos (by omega), rd_nat hlt, if_neg h0, if_pos h1]; rfl)
      · rw [decide_eq_true (show s.f3[j] < n by omega), Bool.true_and]
        by_cases hj0 : j = 0
        · subst hj0
          rw [decide_eq_true (show prevOf s.f3 0 < s.f3[0] by unfold prevOf; rw [if_pos rfl]; omega), Bool.true_and]
          exact Ev.step (fun k => by simp only [meta_Form.l1]; rw [if_pos (by omega), if_pos (by omega), if_pos (by omega), rd_nat hlt, if_neg h0, if_neg h1, if_neg (by omega), w64s hlt (by omega)]) (hnext (by omega))
        · have hpj : prevOf s.f3 j = s.f3[j - 1] := by
            unfold prevOf; rw [if_neg hj0, List.getD_eq_getElem?_getD, List.getElem?_eq_getElem (by omega)]; rfl
          have hw : wrap64 ((j : Int) - 1) = ((j - 1 : Nat) : Int) := by rw [w64 (by omega) (by omega)]; omega
          have hrp : rd s.f3 ((j - 1 : Nat) : Int) = s.f3[j - 1] := rd_nat (by omega)
          rw [hpj]
          by_cases h2 : s.f3[j] ≤ s.f3[j - 1]
          · rw [decide_eq_false (show ¬ s.f3[j - 1] < s.f3[j] by omega)]
            exact ev_some (fun k => by simp only [meta_Form.l1]; rw [if_pos (by omega), if_pos (by omega), if_pos (by omega), rd_nat hlt, if_neg h0, if_neg h1, if_pos (by omega), hw, if_pos (by omega), if_pos (by omega), hrp, if_pos h2]; rfl)
          · rw [decide_eq_true (show s.f3[j - 1] < s.f3[j] by omega), Bool.true_and]
            exact Ev.step (fun k => by simp only [meta_Form.l1]; rw [if_pos (by omega), if_pos (by omega), if_pos (by omega), rd_nat hlt, if_neg h0, if_neg h1, if_pos (by omega), hw, if_pos (by omega), if_pos (by omega), hrp, if_neg h2, w64s hlt (by omega)]) (hnext (by omega))
def Small (s : S42) : Prop := 0 ≤ s.f1 ∧ s.f3.length ≤ 17592186043904
theorem form_rows (n : Int) (l : List S42) (hl : l.length ≤ 8) (hs : ∀ s ∈ l, Small s) : ∀ (d i : Nat), l.length - i = d → i ≤ l.length → Ev (fun k => meta_Form.l0 k l (l.length : Int) (i : Int) n l) ((l.drop i).all (rowOk n)) := by
  intro d
  induction d with
  | zero =>
    intro i hd hi
    rw [List.drop_of_length_le (by omega)]
    exact ev_some (fun k => by simp only [meta_Form.l0]; rw [if_neg (by omega)]; rfl)
  | succ d ih =>
    intro i hd hi
    have hlt : i < l.length := by omega
    have ht := ih (i + 1) (by omega) (by omega)
    rw [← w64s hlt (by omega)] at ht
    have hsm := hs _ (List.getElem_mem hlt)
    have hr := form_row n l i l[i] _ (by unfold Small at hsm; omega) ht l[i].f3.length 0 (by omega) (by omega) (fun h => by omega)
    rw [List.drop_eq_getElem_cons hlt]
    simp only [List.all_cons]
    refine Ev.step (fun k => ?_) hr
    simp only [meta_Form.l0]
    rw [if_pos (by omega), if_pos (by omega), if_pos (by omega), rdT_nat hlt]
    rfl
theorem meta_Form_ev (n : Int) (l : List S42) (hl : l.length ≤ 9223372036854775807) (hs : ∀ s ∈ l, Small s) : Ev (fun k => meta_Form.f k n l) (tabOk n l) := by
  have hno : Ev (fun k => meta_Form.j0 k true n l) false := ev_some (fun k => by simp only [meta_Form.j0]; rw [if_pos trivial])
  unfold tabOk
  by_cases h1 : n < 1
  · rw [decide_eq_false (by omega)]; exact Ev.congr (fun k => by unfold meta_Form.f; rw [if_pos h1]) hno
  by_cases h2 : n > 5
  · rw [decide_eq_false (by omega)]; exact Ev.congr (fun k => by unfold meta_Form.f; rw [if_neg h1, if_pos h2]) hno
  by_cases h3 : (l.length : Int) < 1
  · rw [decide_eq_false (by omega)]; exact Ev.congr (fun k => by unfold meta_Form.f; rw [if_neg h1, if_neg h2, if_pos h3]) hno
  by_cases h4 : (l.length : Int) > 8
  · rw [decide_eq_false (by omega)]; exact Ev.congr (fun k => by unfold meta_Form.f; rw [if_neg h1, if_neg h2, if_neg h3, decide_eq_true h4]) hno
  · rw [decide_eq_true (by omega), Bool.true_and]
    refine Ev.congr (f := fun k => meta_Form.j0 k false n l) (fun k => by unfold meta_Form.f; rw [if_neg h1, if_neg h2, if_neg h3, decide_eq_false h4]) ?_
    refine Ev.step (f := fun k => meta_Form.l0 k l (l.length : Int) 0 n l) (fun k => by simp only [meta_Form.j0]; rw [if_neg (by decide)]) ?_
    have := form_rows n l (by omega) hs l.length 0 (by omega) (by omega)
    rw [List.drop_zero] at this
    exact this

theorem in_ev (a b c x : Int) (l : List Int) (hl : l.length ≤ 4611686018427387904) : Ev (fun k => fascineref14_In.f k a b c l x) (decide (x ∈ l)) := by
  have key : ∀ (d i : Nat), l.length - i = d → i ≤ l.length → Ev (fun k => fascineref14_In.l0 k x (i : Int) a b c l) (decide (x ∈ l.drop i)) := by
    intro d
    induction d with
    | zero =>
      intro i hd hi
      rw [List.drop_of_length_le (by omega)]
      exact ev_some (fun k => by simp only [fascineref14_In.l0]; rw [if_neg (by omega)]; simp)
    | succ d ih =>
      intro i hd hi
      have hlt : i < l.length := by omega
      have ht := ih (i + 1) (by omega) (by omega)
      rw [List.drop_eq_getElem_cons hlt]
      by_cases e : l[i] = x
      · rw [decide_eq_true (by rw [e]; simp)]
        exact ev_some (fun k => by simp only [fascineref14_In.l0]; rw [if_pos (by omega), if_pos (by omega), rd_nat hlt, if_pos e])
      · have e2 : decide (x ∈ l[i] :: l.drop (i + 1)) = decide (x ∈ l.drop (i + 1)) := decide_eq_decide.mpr (by rw [List.mem_cons]; exact ⟨fun h => h.elim (fun h => absurd h.symm e) id, Or.inr⟩)
        rw [e2]
        exact Ev.step (fun k => by simp only [fascineref14_In.l0]; rw [if_pos (by omega), if_pos (by omega), rd_nat hlt, if_neg e, w64s hlt (by omega)]) ht
  have := key l.length 0 (by omega) (by omega)
  rw [List.drop_zero] at this
  exact Ev.congr (fun k => rfl) this
theorem rform_row (n : Int) (l : List S42) (i : Nat) (s : S42) (rt : Bool) (hs : s.f3.length ≤ 4611686018427387904) (h1s : 0 ≤ s.f1)
    (ht : Ev (fun k => fascineref14_Form.l0 k (wrap64 ((i : Int) + 1)) n l) rt) :
    ∀ (d j : Nat) (last : Int), s.f3.length - j = d → j ≤ s.f3.length →
    Ev (fun k => fascineref14_Form.l1 k (i : Int) last (j : Int) n l s.f0 s.f1 s.f2 s.f3) (chk n last (s.f3.drop j) && (decide (1 ≤ s.f1) && decide (s.f2 ∈ s.f3)) && rt) := by
  intro d
  induction d with
  | zero =>
    intro j last hd hj
    rw [List.drop_of_length_le (by omega)]
    by_cases h1 : s.f1 = 0
    · rw [decide_eq_false (show ¬ 1 ≤ s.f1 by omega)]
      exact ev_some (fun k => by simp only [fascineref14_Form.l1]; rw [if_neg (by omega), if_pos h1]; simp [chk])
    · rw [decide_eq_true (show 1 ≤ s.f1 by omega)]
      refine Ev.step (f := fun k => (fascineref14_In.f k s.f0 s.f1 s.f2 s.f3 s.f2).bind fun t => if t = true then fascineref14_Form.l0 k (wrap64 ((i : Int) + 1)) n l else some false) (fun k => by simp only [fascineref14_Form.l1]; rw [if_neg (by omega), if_neg h1]) ?_
      refine Ev.bind (f := fun k t => if t = true then fascineref14_Form.l0 k (wrap64 ((i : Int) + 1)) n l else some false) (in_ev _ _ _ s.f2 s.f3 hs) ?_
      by_cases hc : s.f2 ∈ s.f3
      · simp only [hc, decide_true, if_true, chk, Bool.true_and]; exact ht
      · simp only [hc, decide_false, chk, Bool.true_and, Bool.false_and]; exact Ev.now _
  | succ d ih =>
    intro j last hd hj
    have hlt : j < s.f3.length := by omega
    rw [List.drop_eq_getElem_cons hlt]
    simp only [chk]
    by_cases h0 : s.f3[j] ≤ last
    · rw [decide_eq_false (show ¬ last < s.f3[j] by omega)]
      exact ev_some (fun k => by simp only [fascineref14_Form.l1]; rw [if_pos (by omega), if_pos (by omega), rd_nat hlt, if_pos h0]; rfl)
    · rw [decide_eq_true (show last < s.f3[j] by omega), Bool.true_and]
      by_cases h1 : s.f3[j] ≥ n
      · rw [decide_eq_false (show ¬ s.f3[j] < n by omega)]
        exact ev_some (fun k => by simp only [fascineref14_Form.l1]; rw [if_pos (by omega), if_pos (by omega), rd_nat hlt, if_neg h0, if_pos h1]; rfl)
      · rw [decide_eq_true (show s.f3[j] < n by omega), Bool.true_and]
        exact Ev.step (fun k => by simp only [fascineref14_Form.l1]; rw [if_pos (by omega), if_pos (by omega), rd_nat hlt, if_neg h0, if_neg h1, w64s hlt (by omega)]) (ih (j + 1) s.f3[j] (by omega) (by omega))
theorem rform_rows (n : Int) (l : List S42) (hl : l.length ≤ 8) (hs : ∀ s ∈ l, Small s) : ∀ (d i : Nat), l.length - i = d → i ≤ l.length → Ev (fun k => fascineref14_Form.l0 k (i : Int) n l) ((l.drop i).all (rowOk n)) := by
  intro d
  induction d with
  | zero =>
    intro i hd hi
    rw [List.drop_of_length_le (by omega)]
    exact ev_some (fun k => by simp only [fascineref14_Form.l0]; rw [if_neg (by omega)]; rfl)
  | succ d ih =>
    intro i hd hi
    have hlt : i < l.length := by omega
    have ht := ih (i + 1) (by omega) (by omega)
    rw [← w64s hlt (by omega)] at ht
    have hsm := hs _ (List.getElem_mem hlt)
    have hr := rform_row n l i l[i] _ (by unfold Small at hsm; omega) hsm.1 ht l[i].f3.length 0 (-1) (by omega) (by omega)
    rw [List.drop_eq_getElem_cons hlt]
    simp only [List.all_cons]
    refine Ev.step (fun k => ?_) hr
    simp only [fascineref14_Form.l0]
    rw [if_pos (by omega), if_pos (by omega), rdT_nat hlt]
    rfl
theorem refForm_ev (n : Int) (l : List S42) (hl : l.length ≤ 9223372036854775807) (hs : ∀ s ∈ l, Small s) : Ev (fun k => fascineref14_Form.f k n l) (tabOk n l) := by
  have hno : Ev (fun k => fascineref14_Form.j0 k true n l) false := ev_some (fun k => by simp only [fascineref14_Form.j0]; rw [if_pos trivial])
  unfold tabOk
  by_cases h1 : n < 1
  · rw [decide_eq_false (by omega)]; exact Ev.congr (fun k => by unfold fascineref14_Form.f; rw [if_pos h1]) hno
  by_cases h2 : n > 5
  · rw [decide_eq_false (by omega)]; exact Ev.congr (fun k => by unfold fascineref14_Form.f; rw [if_neg h1, if_pos h2]) hno
  by_cases h3 : (l.length : Int) < 1
  · rw [decide_eq_false (by omega)]; exact Ev.congr (fun k => by unfold fascineref14_Form.f; rw [if_neg h1, if_neg h2, if_pos h3]) hno
  by_cases h4 : (l.length : Int) > 8
  · rw [decide_eq_false (by omega)]; exact Ev.congr (fun k => by unfold fascineref14_Form.f; rw [if_neg h1, if_neg h2, if_neg h3, decide_eq_true h4]) hno
  · rw [decide_eq_true (by omega), Bool.true_and]
    refine Ev.congr (f := fun k => fascineref14_Form.j0 k false n l) (fun k => by unfold fascineref14_Form.f; rw [if_neg h1, if_neg h2, if_neg h3, decide_eq_false h4]) ?_
    refine Ev.step (f := fun k => fascineref14_Form.l0 k 0 n l) (fun k => by simp only [fascineref14_Form.j0]; rw [if_neg (by decide)]) ?_
    have := rform_rows n l (by omega) hs l.length 0 (by omega) (by omega)
    rw [List.drop_zero] at this
    exact this

theorem copy_ev (n : Int) (l : List S42) (hl : l.length * 48 ≤ 140737488351232) (hs : ∀ s ∈ l, Small s) : Ev (fun k => meta_Copy.f k n l) (n, l) := by
  have key : ∀ (d i : Nat), l.length - i = d → i ≤ l.length → Ev (fun k => meta_Copy.l0 k l (l.length : Int) (i : Int) n (l.take i)) (n, l) := by
    intro d
    induction d with
    | zero =>
      intro i hd hi
      rw [List.take_of_length_le (by omega)]
      exact ev_some (fun k => by simp only [meta_Copy.l0]; rw [if_neg (by omega)])
    | succ d ih =>
      intro i hd hi
      have hlt : i < l.length := by omega
      have ht := ih (i + 1) (by omega) (by omega)
      have hsm := (hs _ (List.getElem_mem hlt)).2
      refine Ev.step (fun k => ?_) ht
      have e : l.take (i + 1) = l.take i ++ [(⟨l[i].f0, l[i].f1, l[i].f2, ([] : List Int) ++ l[i].f3⟩ : S42)] := by
        rw [List.take_succ_eq_append_getElem hlt]; rfl
      simp only [meta_Copy.l0]
      rw [if_pos (by omega), if_pos (by omega), if_pos (by omega), rdT_nat hlt, if_pos (by rw [List.length_nil]; omega), if_pos (by rw [List.length_take]; omega), w64s hlt (by omega), e]
  have := key l.length 0 (by omega) (by omega)
  exact Ev.congr (fun k => rfl) this

theorem same_ev (n : Int) (l : List S42) (hl : l.length ≤ 4611686018427387904) (hs : ∀ s ∈ l, Small s) : Ev (fun k => fascineref14_Same.f k n l n l) true := by
  have rows : ∀ (d i : Nat), l.length - i = d → i ≤ l.length → Ev (fun k => fascineref14_Same.l0 k (i : Int) n l n l) true := by
    intro d
    induction d with
    | zero =>
      intro i hd hi
      exact ev_some (fun k => by simp only [fascineref14_Same.l0]; rw [if_neg (by omega)])
    | succ d ih =>
      intro i hd hi
      have hlt : i < l.length := by omega
      have ht := ih (i + 1) (by omega) (by omega)
      rw [← w64s hlt (by omega)] at ht
      have hsm := (hs _ (List.getElem_mem hlt)).2
      have cells : ∀ (e j : Nat), l[i].f3.length - j = e → j ≤ l[i].f3.length → Ev (fun k => fascineref14_Same.l1 k (i : Int) (j : Int) n l n l l[i].f0 l[i].f1 l[i].f2 l[i].f3 l[i].f0 l[i].f1 l[i].f2 l[i].f3) true := by
        intro e
        induction e with
        | zero =>
          intro j he hj
          exact Ev.step (fun k => by simp only [fascineref14_Same.l1]; rw [if_neg (by omega)]) ht
        | succ e ihe =>
          intro j he hj
          have hj' : j < l[i].f3.length := by omega
          exact Ev.step (fun k => by simp only [fascineref14_Same.l1]; rw [if_pos (by omega), if_pos (by omega), if_pos (by omega), if_pos trivial, w64s hj' (by omega)]) (ihe (j + 1) (by omega) (by omega))
      have h0 := cells l[i].f3.length 0 (by omega) (by omega)
      have h1 : Ev (fun k => fascineref14_Same.j2 k (i : Int) false n l n l l[i].f0 l[i].f1 l[i].f2 l[i].f3 l[i].f0 l[i].f1 l[i].f2 l[i].f3) true := Ev.step (fun k => by simp only [fascineref14_Same.j2]; rw [if_neg (by decide)]; rfl) h0
      refine Ev.step (fun k => ?_) h1
      simp only [fascineref14_Same.l0]
      rw [if_pos (by omega), if_pos (by omega), if_pos (by omega), rdT_nat hlt, if_pos trivial, if_pos trivial, if_pos trivial, bne_self_eq_false]
  have h0 := rows l.length 0 (by omega) (by omega)
  have h1 : Ev (fun k => fascineref14_Same.j0 k false n l n l) true := Ev.step (fun k => by simp only [fascineref14_Same.j0]; rw [if_neg (by decide)]; rfl) h0
  refine Ev.congr (fun k => ?_) h1
  unfold fascineref14_Same.f
  rw [if_pos rfl, bne_self_eq_false]

def newsB (a b c : Int) : Bool := match meta_New.f 100 a b c with
  | some (n, l, e) => match fascineref14_New.f 100 a b c with
    | some (n', l') => e == 0 && (fascineref14_Same.f 200 n l n' l' == some true && meta_Form.f 200 n l == some true)
    | none => false
  | none => false
theorem news_dec : ∀ x : Fin 5, ∀ y : Fin 8, ∀ z : Fin 5, z.val ≤ x.val → newsB ((x.val : Int) + 1) ((y.val : Int) + 1) ((z.val : Int) + 1) = true := by decide +kernel
theorem news_all {a b c : Int} (ha : 1 ≤ a) (ha5 : a ≤ 5) (hb : 1 ≤ b) (hb8 : b ≤ 8) (hc : 1 ≤ c) (hca : c ≤ a) :
    ∃ n l n' l', meta_New.f 100 a b c = some (n, l, 0) ∧ fascineref14_New.f 100 a b c = some (n', l') ∧ fascineref14_Same.f 200 n l n' l' = some true ∧ meta_Form.f 200 n l = some true := by
  have h := news_dec ⟨(a - 1).toNat, by omega⟩ ⟨(b - 1).toNat, by omega⟩ ⟨(c - 1).toNat, by omega⟩ (by simp only; omega)
  have e1 : (((a - 1).toNat : Nat) : Int) + 1 = a := by omega
  have e2 : (((b - 1).toNat : Nat) : Int) + 1 = b := by omega
  have e3 : (((c - 1).toNat : Nat) : Int) + 1 = c := by omega
  simp only [e1, e2, e3] at h
  unfold newsB at h
  split at h
  · rename_i n l e h1
    split at h
    · rename_i n' l' h2
      simp only [Bool.and_eq_true, beq_iff_eq] at h
      obtain ⟨rfl, h3, h4⟩ := h
      exact ⟨n, l, n', l', h1, h2, h3, h4⟩
    · cases h
  · cases h
theorem MetaNews : MetaNews_PureS := by
  intro a b c n l wa wb wc wn hl
  obtain ⟨hl, hall⟩ := hl
  have hs : ∀ s ∈ l, Small s := by
    intro s h
    have := hall s h
    unfold WF42 at this
    have h1 := wf_u64 this.2.1
    have h3 := this.2.2.2.1
    exact ⟨h1.1, by omega⟩
  have hj1 : Ev (fun k => fascinelaw14_MetaNews.j1 k n l) true := by
    refine Ev.step (f := fun k => (meta_Form.f k n l).bind fun t => (fascineref14_Form.f k n l).bind fun u => if (t == u) = true then (meta_Copy.f k n l).bind fun b => (fascineref14_Same.f k b.1 b.2 n l).bind fun z => some z else some false) (fun k => by simp only [fascinelaw14_MetaNews.j1]) ?_
    refine Ev.bind (f := fun k t => (fascineref14_Form.f k n l).bind fun u => if (t == u) = true then (meta_Copy.f k n l).bind fun b => (fascineref14_Same.f k b.1 b.2 n l).bind fun z => some z else some false) (meta_Form_ev n l (by omega) hs) ?_
    refine Ev.bind (f := fun k u => if (tabOk n l == u) = true then (meta_Copy.f k n l).bind fun b => (fascineref14_Same.f k b.1 b.2 n l).bind fun z => some z else some false) (refForm_ev n l (by omega) hs) ?_
    simp only [beq_self_eq_true, if_true]
    refine Ev.bind (f := fun k b => (fascineref14_Same.f k b.1 b.2 n l).bind fun z => some z) (copy_ev n l hl hs) ?_
    exact Ev.bind (f := fun k z => some z) (same_ev n l (by omega) hs) (Ev.now _)
  have haw : Ev (fun k => fascinelaw14_awake.f k) true := ⟨40, fun k hk => fascinelaw14_awake_is hk⟩
  refine Ev.rounds (g := fun k => fascinelaw14_MetaNews.f k a b c n l) ?_
  unfold fascinelaw14_MetaNews.f
  refine Ev.bind (f := fun k t => if t = true then (meta_New.f k a b c).bind fun bt => (if a < 1 then (fascinelaw14_MetaNews.j0 k a b c bt.2.2 true n l bt.1 bt.2.1) else (if a > 5 then (fascinelaw14_MetaNews.j0 k a b c bt.2.2 true n l bt.1 bt.2.1) else (if b < 1 then (fascinelaw14_MetaNews.j0 k a b c bt.2.2 true n l bt.1 bt.2.1) else (if b > 8 then (fascinelaw14_MetaNews.j0 k a b c bt.2.2 true n l bt.1 bt.2.1) else (if c < 1 then (fascinelaw14_MetaNews.j0 k a b c bt.2.2 true n l bt.1 bt.2.1) else (fascinelaw14_MetaNews.j0 k a b c bt.2.2 (decide (c > a)) n l bt.1 bt.2.1)))))) else some false) haw ?_
  simp only [if_true]
  by_cases hin : 1 ≤ a ∧ a ≤ 5 ∧ 1 ≤ b ∧ b ≤ 8 ∧ 1 ≤ c ∧ c ≤ a
  · obtain ⟨h1, h2, h3, h4, h5, h6⟩ := hin
    obtain ⟨m, r, m', r', e1, e2, e3, e4⟩ := news_all h1 h2 h3 h4 h5 h6
    refine Ev.bind (a := (m, r, 0)) (f := fun k bt => (if a < 1 then (fascinelaw14_MetaNews.j0 k a b c bt.2.2 true n l bt.1 bt.2.1) else (if a > 5 then (fascinelaw14_MetaNews.j0 k a b c bt.2.2 true n l bt.1 bt.2.1) else (if b < 1 then (fascinelaw14_MetaNews.j0 k a b c bt.2.2 true n l bt.1 bt.2.1) else (if b > 8 then (fascinelaw14_MetaNews.j0 k a b c bt.2.2 true n l bt.1 bt.2.1) else (if c < 1 then (fascinelaw14_MetaNews.j0 k a b c bt.2.2 true n l bt.1 bt.2.1) else (fascinelaw14_MetaNews.j0 k a b c bt.2.2 (decide (c > a)) n l bt.1 bt.2.1))))))) (ev_mono (meta_New.mono a b c) e1) ?_
    simp only [if_neg (show ¬ a < 1 by omega), if_neg (show ¬ a > 5 by omega), if_neg (show ¬ b < 1 by omega), if_neg (show ¬ b > 8 by omega), if_neg (show ¬ c < 1 by omega), decide_eq_false (show ¬ c > a by omega)]
    refine Ev.step (f := fun k => (fascineref14_New.f k a b c).bind fun bt => (fascineref14_Same.f k m r bt.1 bt.2).bind fun t => if t = true then (meta_Form.f k m r).bind fun u => if u = true then fascinelaw14_MetaNews.j1 k n l else some false else some false) (fun k => by simp only [fascinelaw14_MetaNews.j0]; rw [if_neg (by decide), if_pos trivial]) ?_
    refine Ev.bind (a := (m', r')) (f := fun k bt => (fascineref14_Same.f k m r bt.1 bt.2).bind fun t => if t = true then (meta_Form.f k m r).bind fun u => if u = true then fascinelaw14_MetaNews.j1 k n l else some false else some false) (ev_mono (fascineref14_New.mono a b c) e2) ?_
    refine Ev.bind (f := fun k t => if t = true then (meta_Form.f k m r).bind fun u => if u = true then fascinelaw14_MetaNews.j1 k n l else some false else some false) (ev_mono (fascineref14_Same.mono m r m' r') e3) ?_
    simp only [if_true]
    refine Ev.bind (f := fun k u => if u = true then fascinelaw14_MetaNews.j1 k n l else some false) (ev_mono (meta_Form.mono m r) e4) ?_
    simp only [if_true]
    exact hj1
  · have hnew : Ev (fun k => meta_New.f k a b c) (0, ([] : List S42), 1) := by
      have hno : Ev (fun k => meta_New.j0 k a b c true) (0, ([] : List S42), 1) := ev_some (fun k => by simp only [meta_New.j0]; rw [if_pos trivial])
      by_cases h1 : a < 1
      · exact Ev.congr (fun k => by unfold meta_New.f; rw [if_pos h1]) hno
      by_cases h2 : a > 5
      · exact Ev.congr (fun k => by unfold meta_New.f; rw [if_neg h1, if_pos h2]) hno
      by_cases h3 : b < 1
      · exact Ev.congr (fun k => by unfold meta_New.f; rw [if_neg h1, if_neg h2, if_pos h3]) hno
      by_cases h4 : b > 8
      · exact Ev.congr (fun k => by unfold meta_New.f; rw [if_neg h1, if_neg h2, if_neg h3, if_pos h4]) hno
      by_cases h5 : c < 1
      · exact Ev.congr (fun k => by unfold meta_New.f; rw [if_neg h1, if_neg h2, if_neg h3, if_neg h4, if_pos h5]) hno
      · exact Ev.congr (fun k => by unfold meta_New.f; rw [if_neg h1, if_neg h2, if_neg h3, if_neg h4, if_neg h5, decide_eq_true (by omega)]) hno
    refine Ev.bind (a := (0, ([] : List S42), 1)) (f := fun k bt => (if a < 1 then (fascinelaw14_MetaNews.j0 k a b c bt.2.2 true n l bt.1 bt.2.1) else (if a > 5 then (fascinelaw14_MetaNews.j0 k a b c bt.2.2 true n l bt.1 bt.2.1) else (if b < 1 then (fascinelaw14_MetaNews.j0 k a b c bt.2.2 true n l bt.1 bt.2.1) else (if b > 8 then (fascinelaw14_MetaNews.j0 k a b c bt.2.2 true n l bt.1 bt.2.1) else (if c < 1 then (fascinelaw14_MetaNews.j0 k a b c bt.2.2 true n l bt.1 bt.2.1) else (fascinelaw14_MetaNews.j0 k a b c bt.2.2 (decide (c > a)) n l bt.1 bt.2.1))))))) hnew ?_
    have hj0 : Ev (fun k => fascinelaw14_MetaNews.j0 k a b c 1 true n l 0 ([] : List S42)) true := by
      refine Ev.step (fun k => ?_) hj1
      simp only [fascinelaw14_MetaNews.j0]
      rw [if_pos trivial, if_pos trivial, if_neg (by decide)]
    by_cases h1 : a < 1
    · simp only [if_pos h1]; exact hj0
    by_cases h2 : a > 5
    · simp only [if_neg h1, if_pos h2]; exact hj0
    by_cases h3 : b < 1
    · simp only [if_neg h1, if_neg h2, if_pos h3]; exact hj0
    by_cases h4 : b > 8
    · simp only [if_neg h1, if_neg h2, if_neg h3, if_pos h4]; exact hj0
    by_cases h5 : c < 1
    · simp only [if_neg h1, if_neg h2, if_neg h3, if_neg h4, if_pos h5]; exact hj0
    · simp only [if_neg h1, if_neg h2, if_neg h3, if_neg h4, if_neg h5, decide_eq_true (show c > a by omega)]; exact hj0

end Go.Proofs.Ytkoaeiiaagipeaa.Pure
