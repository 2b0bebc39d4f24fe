/- On the printed functions of MetaApplies: what each of them answers, in plain words. -/
import Derived.Test.YtkoaeiiaagipeaaPMetaAppliesx
import Derived.Test.YtkoaeiiaagipeaaMArith
namespace Go.Proofs.Ytkoaeiiaagipeaa.Pure
open Go.RowKit Go.Proofs.Ytkoaeiiaagipeaa.PMetaApplies Go.Proofs.YtkoaeiiaagipeaaW.PrintWords Go.Proofs.YtkoaeiiaagipeaaW.PrintLast Go.Proofs.YtkoaeiiaagipeaaW.PrintMore Go.Proofs.Ytkoaeiiaagipeaa.M
set_option linter.unusedVariables false
set_option linter.unusedSimpArgs false

theorem fascinelaw14_awake_40 : fascinelaw14_awake.f 40 = some true := by decide +kernel
theorem fascinelaw14_awake_is {k : Nat} (hk : 40 ≤ k) : fascinelaw14_awake.f k = some true := by
  obtain ⟨d, rfl⟩ := Nat.exists_eq_add_of_le hk
  induction d with
  | zero => exact fascinelaw14_awake_40
  | succ d ih => exact fascinelaw14_awake.mono (40 + d) true (ih (by omega))

theorem rd_nat {l : List Int} {j : Nat} (h : j < l.length) : rd l (j : Int) = l[j] := by
  unfold rd
  rw [Int.toNat_natCast, List.getD_eq_getElem?_getD, List.getElem?_eq_getElem h]
  rfl
theorem rdT_nat {l : List S42} {j : Nat} (h : j < l.length) : rd_T42 l (j : Int) = l[j] := by
  unfold rd_T42
  rw [Int.toNat_natCast, List.getD_eq_getElem?_getD, List.getElem?_eq_getElem h]
  rfl
theorem w64s {j n : Nat} (h : j < n) (hn : n ≤ 9223372036854775807) : wrap64 ((j : Int) + 1) = ((j + 1 : Nat) : Int) := by
  rw [w64 (by omega) (by omega)]; omega
theorem ev_some {α : Type} {g : Nat → Option α} {r : α} (h : ∀ k, g (k + 1) = some r) : Ev g r := Ev.step (f := fun _ => some r) h (Ev.now r)
theorem ev_mono {α : Type} {g : Nat → Option α} {r : α} (hg : ∀ k, LeO (g k) (g (k + 1))) {k : Nat} (h : g k = some r) : Ev g r := Ev.of hg h
theorem idx_ev (l : List Int) (a : Int) (hl : l.length ≤ 4611686018427387904) : ∀ (d i : Nat), l.length - i = d → i ≤ l.length → ∃ r : Int, Ev (fun k => slices_Index_int_int.l0 k l a (l.length : Int) (i : Int)) r ∧ (0 ≤ r ↔ a ∈ l.drop i) := by
  intro d
  induction d with
  | zero =>
    intro i hd hi
    refine ⟨-1, ev_some (fun k => ?_), ?_⟩
    · simp only [slices_Index_int_int.l0]; rw [if_neg (by omega)]
    · rw [List.drop_of_length_le (by omega)]; simp
  | succ d ih =>
    intro i hd hi
    have hlt : i < l.length := by omega
    obtain ⟨r, hr, hm⟩ := ih (i + 1) (by omega) (by omega)
    by_cases e : a = l[i]
    · refine ⟨(i : Int), ev_some (fun k => ?_), ?_⟩
      · simp only [slices_Index_int_int.l0]; rw [if_pos (by omega), if_pos (by omega), if_pos (by omega), rd_nat hlt, if_pos e]
      · rw [List.drop_eq_getElem_cons hlt, ← e]; simp
    · refine ⟨r, Ev.step (f := fun k => slices_Index_int_int.l0 k l a (l.length : Int) ((i + 1 : Nat) : Int)) (fun k => ?_) hr, ?_⟩
      · simp only [slices_Index_int_int.l0]; rw [if_pos (by omega), if_pos (by omega), if_pos (by omega), rd_nat hlt, if_neg e, w64s hlt (by omega)]
      · rw [List.drop_eq_getElem_cons hlt, List.mem_cons, hm]; simp [e]
theorem contains_ev (l : List Int) (a : Int) (hl : l.length ≤ 4611686018427387904) : Ev (fun k => slices_Contains_int_int.f k l a) (decide (a ∈ l)) := by
  obtain ⟨r, hr, hm⟩ := idx_ev l a hl l.length 0 (by omega) (by omega)
  have h2 : Ev (fun k => (slices_Index_int_int.f k l a).bind fun t => some (decide (t ≥ 0))) (decide (r ≥ 0)) := Ev.bind (f := fun _ t => some (decide (t ≥ 0))) hr (Ev.now _)
  have e : decide (r ≥ 0) = decide (a ∈ l) := decide_eq_decide.mpr (by rw [List.drop_zero] at hm; exact hm)
  rw [e] at h2
  exact h2
def chk (n last : Int) : List Int → Bool
  | [] => true
  | x :: t => decide (last < x) && (decide (x < n) && chk n x t)
def rowOk (n : Int) (s : S42) : Bool := chk n (-1) s.f3 && (decide (1 ≤ s.f1) && decide (s.f2 ∈ s.f3))
def tabOk (n : Int) (l : List S42) : Bool := decide (1 ≤ n ∧ n ≤ 5 ∧ 1 ≤ l.length ∧ l.length ≤ 8) && l.all (rowOk n)
def prevOf (l : List Int) (j : Nat) : Int := if j = 0 then -1 else l.getD (j - 1) 0
theorem prev_succ {l : List Int} {j : Nat} (h : j < l.length) : prevOf l (j + 1) = l[j] := by
  unfold prevOf
  rw [if_neg (by omega), Nat.add_sub_cancel, List.getD_eq_getElem?_getD, List.getElem?_eq_getElem h]
  rfl
theorem form_row (n : Int) (l : List S42) (i : Nat) (s : S42) (rt : Bool) (hs : s.f3.length ≤ 4611686018427387904)
    (ht : Ev (fun k => meta_Form.l0 k l (l.length : Int) (wrap64 ((i : Int) + 1)) n l) rt) :
    ∀ (d j : Nat), s.f3.length - j = d → j ≤ s.f3.length → (0 < j → 0 ≤ prevOf s.f3 j) →
    Ev (fun k => meta_Form.l1 k l (l.length : Int) (i : Int) s.f3 (s.f3.length : Int) (j : Int) n l s.f0 s.f1 s.f2 s.f3) (chk n (prevOf s.f3 j) (s.f3.drop j) && (decide (1 ≤ s.f1) && decide (s.f2 ∈ s.f3)) && rt) := by
  intro d
  induction d with
  | zero =>
    intro j hd hj _
    rw [List.drop_of_length_le (by omega)]
    by_cases h1 : s.f1 < 1
    · rw [decide_eq_false (show ¬ 1 ≤ s.f1 by omega)]
      exact ev_some (fun k => by simp only [meta_Form.l1]; rw [if_neg (by omega), if_pos h1]; simp [chk])
    · rw [decide_eq_true (show 1 ≤ s.f1 by omega)]
      refine Ev.step (f := fun k => (slices_Contains_int_int.f k s.f3 s.f2).bind fun t => if t = true then meta_Form.l0 k l (l.length : Int) (wrap64 ((i : Int) + 1)) n l else some false) (fun k => by simp only [meta_Form.l1]; rw [if_neg (by omega), if_neg h1]) ?_
      refine Ev.bind (f := fun k t => if t = true then meta_Form.l0 k l (l.length : Int) (wrap64 ((i : Int) + 1)) n l else some false) (contains_ev s.f3 s.f2 hs) ?_
      by_cases hc : s.f2 ∈ s.f3
      · simp only [hc, decide_true, if_true, chk, Bool.true_and]; exact ht
      · simp only [hc, decide_false, chk, Bool.true_and, Bool.false_and]; exact Ev.now _
  | succ d ih =>
    intro j hd hj hp
    have hlt : j < s.f3.length := by omega
    have hdr : s.f3.drop j = s.f3[j] :: s.f3.drop (j + 1) := List.drop_eq_getElem_cons hlt
    rw [hdr]
    simp only [chk]
    have hnext : 0 ≤ s.f3[j] → Ev (fun k => meta_Form.l1 k l (l.length : Int) (i : Int) s.f3 (s.f3.length : Int) ((j + 1 : Nat) : Int) n l s.f0 s.f1 s.f2 s.f3) (chk n s.f3[j] (s.f3.drop (j + 1)) && (decide (1 ≤ s.f1) && decide (s.f2 ∈ s.f3)) && rt) := by
      intro h0
      have := ih (j + 1) (by omega) (by omega) (fun _ => by rw [prev_succ hlt]; exact h0)
      rw [prev_succ hlt] at this
      exact this
    by_cases h0 : s.f3[j] < 0
    · have e : decide (prevOf s.f3 j < s.f3[j]) = false := by
        apply decide_eq_false
        by_cases hj0 : j = 0
        · subst hj0; unfold prevOf; rw [if_pos rfl]; omega
        · have := hp (by omega); omega
      rw [e]
      exact ev_some (fun k => by simp only [meta_Form.l1]; rw [if_pos (by omega), if_pos (by omega), if_pos (by omega), rd_nat hlt, if_pos h0]; rfl)
    · by_cases h1 : s.f3[j] ≥ n
      · rw [decide_eq_false (show ¬ s.f3[j] < n by omega), Bool.false_and, Bool.and_false]
        exact ev_some (fun k => by simp only [meta_Form.l1]; rw [if_pos (by omega), if_pos (by omega), if_pos (by omega), rd_nat hlt, if_neg h0, if_pos h1]; rfl)
      · rw [decide_eq_true (show s.f3[j] < n by omega), Bool.true_and]
        by_cases hj0 : j = 0
        · subst hj0
          rw [decide_eq_true (show prevOf s.f3 0 < s.f3[0] by unfold prevOf; rw [if_pos rfl]; omega), Bool.true_and]
          exact Ev.step (fun k => by simp only [meta_Form.l1]; rw [if_pos (by omega), if_pos (by omega), if_pos (by omega), rd_nat hlt, if_neg h0, if_neg h1, if_neg (by omega), w64s hlt (by omega)]) (hnext (by omega))
        · have hpj : prevOf s.f3 j = s.f3[j - 1] := by
            unfold prevOf; rw [if_neg hj0, List.getD_eq_getElem?_getD, List.getElem?_eq_getElem (by omega)]; rfl
          have hw : wrap64 ((j : Int) - 1) = ((j - 1 : Nat) : Int) := by rw [w64 (by omega) (by omega)]; omega
          have hrp : rd s.f3 ((j - 1 : Nat) : Int) = s.f3[j - 1] := rd_nat (by omega)
          rw [hpj]
          by_cases h2 : s.f3[j] ≤ s.f3[j - 1]
          · rw [decide_eq_false (show ¬ s.f3[j - 1] < s.f3[j] by omega)]
            exact ev_some (fun k => by simp only [meta_Form.l1]; rw [if_pos (by omega), if_pos (by omega), if_pos (by omega), rd_nat hlt, if_neg h0, if_neg h1, if_pos (by omega), hw, if_pos (by omega), if_pos (by omega), hrp, if_pos h2]; rfl)
          · rw [decide_eq_true (show s.f3[j - 1] < s.f3[j] by omega), Bool.true_and]
            exact Ev.step (fun k => by simp only [meta_Form.l1]; rw [if_pos (by omega), if_pos (by omega), if_pos (by omega), rd_nat hlt, if_neg h0, if_neg h1, if_pos (by omega), hw, if_pos (by omega), if_pos (by omega), hrp, if_neg h2, w64s hlt (by omega)]) (hnext (by omega))
def Small (s : S42) : Prop := 0 ≤ s.f1 ∧ s.f3.length ≤ 17592186043904
theorem form_rows (n : Int) (l : List S42) (hl : l.length ≤ 8) (hs : ∀ s ∈ l, Small s) : ∀ (d i : Nat), l.length - i = d → i ≤ l.length → Ev (fun k => meta_Form.l0 k l (l.length : Int) (i : Int) n l) ((l.drop i).all (rowOk n)) := by
  intro d
  induction d with
  | zero =>
    intro i hd hi
    rw [List.drop_of_length_le (by omega)]
    exact ev_some (fun k => by simp only [meta_Form.l0]; rw [if_neg (by omega)]; rfl)
  | succ d ih =>
    intro i hd hi
    have hlt : i < l.length := by omega
    have ht := ih (i + 1) (by omega) (by omega)
    rw [← w64s hlt (by omega)] at ht
    have hsm := hs _ (List.getElem_mem hlt)
    have hr := form_row n l i l[i] _ (by unfold Small at hsm; omega) ht l[i].f3.length 0 (by omega) (by omega) (fun h => by omega)
    rw [List.drop_eq_getElem_cons hlt]
    simp only [List.all_cons]
    refine Ev.step (fun k => ?_) hr
    simp only [meta_Form.l0]
    rw [if_pos (by omega), if_pos (by omega), if_pos (by omega), rdT_nat hlt]
    rfl
theorem meta_Form_ev (n : Int) (l : List S42) (hl : l.length ≤ 9223372036854775807) (hs : ∀ s ∈ l, Small s) : Ev (fun k => meta_Form.f k n l) (tabOk n l) := by
  have hno : Ev (fun k => meta_Form.j0 k true n l) false := ev_some (fun k => by simp only [meta_Form.j0]; rw [if_pos trivial])
  unfold tabOk
  by_cases h1 : n < 1
  · rw [decide_eq_false (by omega)]; exact Ev.congr (fun k => by unfold meta_Form.f; rw [if_pos h1]) hno
  by_cases h2 : n > 5
  · rw [decide_eq_false (by omega)]; exact Ev.congr (fun k => by unfold meta_Form.f; rw [if_neg h1, if_pos h2]) hno
  by_cases h3 : (l.length : Int) < 1
  · rw [decide_eq_false (by omega)]; exact Ev.congr (fun k => by unfold meta_Form.f; rw [if_neg h1, if_neg h2, if_pos h3]) hno
  by_cases h4 : (l.length : Int) > 8
  · rw [decide_eq_false (by omega)]; exact Ev.congr (fun k => by unfold meta_Form.f; rw [if_neg h1, if_neg h2, if_neg h3, decide_eq_true h4]) hno
  · rw [decide_eq_true (by omega), Bool.true_and]
    refine Ev.congr (f := fun k => meta_Form.j0 k false n l) (fun k => by unfold meta_Form.f; rw [if_neg h1, if_neg h2, if_neg h3, decide_eq_false h4]) ?_
    refine Ev.step (f := fun k => meta_Form.l0 k l (l.length : Int) 0 n l) (fun k => by simp only [meta_Form.j0]; rw [if_neg (by decide)]) ?_
    have := form_rows n l (by omega) hs l.length 0 (by omega) (by omega)
    rw [List.drop_zero] at this
    exact this

theorem in_ev (a b c x : Int) (l : List Int) (hl : l.length ≤ 4611686018427387904) : Ev (fun k => fascineref14_In.f k a b c l x) (decide (x ∈ l)) := by
  have key : ∀ (d i : Nat), l.length - i = d → i ≤ l.length → Ev (fun k => fascineref14_In.l0 k x (i : Int) a b c l) (decide (x ∈ l.drop i)) := by
    intro d
    induction d with
    | zero =>
      intro i hd hi
      rw [List.drop_of_length_le (by omega)]
      exact ev_some (fun k => by simp only [fascineref14_In.l0]; rw [if_neg (by omega)]; simp)
    | succ d ih =>
      intro i hd hi
      have hlt : i < l.length := by omega
      have ht := ih (i + 1) (by omega) (by omega)
      rw [List.drop_eq_getElem_cons hlt]
      by_cases e : l[i] = x
      · rw [decide_eq_true (by rw [e]; simp)]
        exact ev_some (fun k => by simp only [fascineref14_In.l0]; rw [if_pos (by omega), if_pos (by omega), rd_nat hlt, if_pos e])
      · have e2 : decide (x ∈ l[i] :: l.drop (i + 1)) = decide (x ∈ l.drop (i + 1)) := decide_eq_decide.mpr (by rw [List.mem_cons]; exact ⟨fun h => h.elim (fun h => absurd h.symm e) id, Or.inr⟩)
        rw [e2]
        exact Ev.step (fun k => by simp only [fascineref14_In.l0]; rw [if_pos (by omega), if_pos (by omega), rd_nat hlt, if_neg e, w64s hlt (by omega)]) ht
  have := key l.length 0 (by omega) (by omega)
  rw [List.drop_zero] at this
  exact Ev.congr (fun k => rfl) this
theorem rform_row (n : Int) (l : List S42) (i : Nat) (s : S42) (rt : Bool) (hs : s.f3.length ≤ 4611686018427387904) (h1s : 0 ≤ s.f1)
    (ht : Ev (fun k => fascineref14_Form.l0 k (wrap64 ((i : Int) + 1)) n l) rt) :
    ∀ (d j : Nat) (last : Int), s.f3.length - j = d → j ≤ s.f3.length →
    Ev (fun k => fascineref14_Form.l1 k (i : Int) last (j : Int) n l s.f0 s.f1 s.f2 s.f3) (chk n last (s.f3.drop j) && (decide (1 ≤ s.f1) && decide (s.f2 ∈ s.f3)) && rt) := by
  intro d
  induction d with
  | zero =>
    intro j last hd hj
    rw [List.drop_of_length_le (by omega)]
    by_cases h1 : s.f1 = 0
    · rw [decide_eq_false (show ¬ 1 ≤ s.f1 by omega)]
      exact ev_some (fun k => by simp only [fascineref14_Form.l1]; rw [if_neg (by omega), if_pos h1]; simp [chk])
    · rw [decide_eq_true (show 1 ≤ s.f1 by omega)]
      refine Ev.step (f := fun k => (fascineref14_In.f k s.f0 s.f1 s.f2 s.f3 s.f2).bind fun t => if t = true then fascineref14_Form.l0 k (wrap64 ((i : Int) + 1)) n l else some false) (fun k => by simp only [fascineref14_Form.l1]; rw [if_neg (by omega), if_neg h1]) ?_
      refine Ev.bind (f := fun k t => if t = true then fascineref14_Form.l0 k (wrap64 ((i : Int) + 1)) n l else some false) (in_ev _ _ _ s.f2 s.f3 hs) ?_
      by_cases hc : s.f2 ∈ s.f3
      · simp only [hc, decide_true, if_true, chk, Bool.true_and]; exact ht
      · simp only [hc, decide_false, chk, Bool.true_and, Bool.false_and]; exact Ev.now _
  | succ d ih =>
    intro j last hd hj
    have hlt : j < s.f3.length := by omega
    rw [List.drop_eq_getElem_cons hlt]
    simp only [chk]
    by_cases h0 : s.f3[j] ≤ last
    · rw [decide_eq_false (show ¬ last < s.f3[j] by omega)]
      exact ev_some (fun k => by simp only [fascineref14_Form.l1]; rw [if_pos (by omega), if_pos (by omega), rd_nat hlt, if_pos h0]; rfl)
    · rw [decide_eq_true (show last < s.f3[j] by omega), Bool.true_and]
      by_cases h1 : s.f3[j] ≥ n
      · rw [decide_eq_false (show ¬ s.f3[j] < n by omega)]
        exact ev_some (fun k => by simp only [fascineref14_Form.l1]; rw [if_pos (by omega), if_pos (by omega), rd_nat hlt, if_neg h0, if_pos h1]; rfl)
      · rw [decide_eq_true (show s.f3[j] < n by omega), Bool.true_and]
        exact Ev.step (fun k => by simp only [fascineref14_Form.l1]; rw [if_pos (by omega), if_pos (by omega), rd_nat hlt, if_neg h0, if_neg h1, w64s hlt (by omega)]) (ih (j + 1) s.f3[j] (by omega) (by omega))
theorem rform_rows (n : Int) (l : List S42) (hl : l.length ≤ 8) (hs : ∀ s ∈ l, Small s) : ∀ (d i : Nat), l.length - i = d → i ≤ l.length → Ev (fun k => fascineref14_Form.l0 k (i : Int) n l) ((l.drop i).all (rowOk n)) := by
  intro d
  induction d with
  | zero =>
    intro i hd hi
    rw [List.drop_of_length_le (by omega)]
    exact ev_some (fun k => by simp only [fascineref14_Form.l0]; rw [if_neg (by omega)]; rfl)
  | succ d ih =>
    intro i hd hi
    have hlt : i < l.length := by omega
    have ht := ih (i + 1) (by omega) (by omega)
    rw [← w64s hlt (by omega)] at ht
    have hsm := hs _ (List.getElem_mem hlt)
    have hr := rform_row n l i l[i] _ (by unfold Small at hsm; omega) hsm.1 ht l[i].f3.length 0 (-1) (by omega) (by omega)
    rw [List.drop_eq_getElem_cons hlt]
    simp only [List.all_cons]
    refine Ev.step (fun k => ?_) hr
    simp only [fascineref14_Form.l0]
    rw [if_pos (by omega), if_pos (by omega), rdT_nat hlt]
    rfl
theorem refForm_ev (n : Int) (l : List S42) (hl : l.length ≤ 9223372036854775807) (hs : ∀ s ∈ l, Small s) : Ev (fun k => fascineref14_Form.f k n l) (tabOk n l) := by
  have hno : Ev (fun k => fascineref14_Form.j0 k true n l) false := ev_some (fun k => by simp only [fascineref14_Form.j0]; rw [if_pos trivial])
  unfold tabOk
  by_cases h1 : n < 1
  · rw [decide_eq_false (by omega)]; exact Ev.congr (fun k => by unfold fascineref14_Form.f; rw [if_pos h1]) hno
  by_cases h2 : n > 5
  · rw [decide_eq_false (by omega)]; exact Ev.congr (fun k => by unfold fascineref14_Form.f; rw [if_neg h1, if_pos h2]) hno
  by_cases h3 : (l.length : Int) < 1
  · rw [decide_eq_false (by omega)]; exact Ev.congr (fun k => by unfold fascineref14_Form.f; rw [if_neg h1, if_neg h2, if_pos h3]) hno
  by_cases h4 : (l.length : Int) > 8
  · rw [decide_eq_false (by omega)]; exact Ev.congr (fun k => by unfold fascineref14_Form.f; rw [if_neg h1, if_neg h2, if_neg h3, decide_eq_true h4]) hno
  · rw [decide_eq_true (by omega), Bool.true_and]
    refine Ev.congr (f := fun k => fascineref14_Form.j0 k false n l) (fun k => by unfold fascineref14_Form.f; rw [if_neg h1, if_neg h2, if_neg h3, decide_eq_false h4]) ?_
    refine Ev.step (f := fun k => fascineref14_Form.l0 k 0 n l) (fun k => by simp only [fascineref14_Form.j0]; rw [if_neg (by decide)]) ?_
    have := rform_rows n l (by omega) hs l.length 0 (by omega) (by omega)
    rw [List.drop_zero] at this
    exact this

theorem copy_ev (n : Int) (l : List S42) (hl : l.length * 48 ≤ 140737488351232) (hs : ∀ s ∈ l, Small s) : Ev (fun k => meta_Copy.f k n l) (n, l) := by
  have key : ∀ (d i : Nat), l.length - i = d → i ≤ l.length → Ev (fun k => meta_Copy.l0 k l (l.length : Int) (i : Int) n (l.take i)) (n, l) := by
    intro d
    induction d with
    | zero =>
      intro i hd hi
      rw [List.take_of_length_le (by omega)]
      exact ev_some (fun k => by simp only [meta_Copy.l0]; rw [if_neg (by omega)])
    | succ d ih =>
      intro i hd hi
      have hlt : i < l.length := by omega
      have ht := ih (i + 1) (by omega) (by omega)
      have hsm := (hs _ (List.getElem_mem hlt)).2
      refine Ev.step (fun k => ?_) ht
      have e : l.take (i + 1) = l.take i ++ [(⟨l[i].f0, l[i].f1, l[i].f2, ([] : List Int) ++ l[i].f3⟩ : S42)] := by
        rw [List.take_succ_eq_append_getElem hlt]; rfl
      simp only [meta_Copy.l0]
      rw [if_pos (by omega), if_pos (by omega), if_pos (by omega), rdT_nat hlt, if_pos (by rw [List.length_nil]; omega), if_pos (by rw [List.length_take]; omega), w64s hlt (by omega), e]
  have := key l.length 0 (by omega) (by omega)
  exact Ev.congr (fun k => rfl) this

theorem same_ev (n : Int) (l : List S42) (hl : l.length ≤ 4611686018427387904) (hs : ∀ s ∈ l, Small s) : Ev (fun k => fascineref14_Same.f k n l n l) true := by
  have rows : ∀ (d i : Nat), l.length - i = d → i ≤ l.length → Ev (fun k => fascineref14_Same.l0 k (i : Int) n l n l) true := by
    intro d
    induction d with
    | zero =>
      intro i hd hi
      exact ev_some (fun k => by simp only [fascineref14_Same.l0]; rw [if_neg (by omega)])
    | succ d ih =>
      intro i hd hi
      have hlt : i < l.length := by omega
      have ht := ih (i + 1) (by omega) (by omega)
      rw [← w64s hlt (by omega)] at ht
      have hsm := (hs _ (List.getElem_mem hlt)).2
      have cells : ∀ (e j : Nat), l[i].f3.length - j = e → j ≤ l[i].f3.length → Ev (fun k => fascineref14_Same.l1 k (i : Int) (j : Int) n l n l l[i].f0 l[i].f1 l[i].f2 l[i].f3 l[i].f0 l[i].f1 l[i].f2 l[i].f3) true := by
        intro e
        induction e with
        | zero =>
          intro j he hj
          exact Ev.step (fun k => by simp only [fascineref14_Same.l1]; rw [if_neg (by omega)]) ht
        | succ e ihe =>
          intro j he hj
          have hj' : j < l[i].f3.length := by omega
          exact Ev.step (fun k => by simp only [fascineref14_Same.l1]; rw [if_pos (by omega), if_pos (by omega), if_pos (by omega), if_pos trivial, w64s hj' (by omega)]) (ihe (j + 1) (by omega) (by omega))
      have h0 := cells l[i].f3.length 0 (by omega) (by omega)
      have h1 : Ev (fun k => fascineref14_Same.j2 k (i : Int) false n l n l l[i].f0 l[i].f1 l[i].f2 l[i].f3 l[i].f0 l[i].f1 l[i].f2 l[i].f3) true := Ev.step (fun k => by simp only [fascineref14_Same.j2]; rw [if_neg (by decide)]; rfl) h0
      refine Ev.step (fun k => ?_) h1
      simp only [fascineref14_Same.l0]
      rw [if_pos (by omega), if_pos (by omega), if_pos (by omega), rdT_nat hlt, if_pos trivial, if_pos trivial, if_pos trivial, bne_self_eq_false]
  have h0 := rows l.length 0 (by omega) (by omega)
  have h1 : Ev (fun k => fascineref14_Same.j0 k false n l n l) true := Ev.step (fun k => by simp only [fascineref14_Same.j0]; rw [if_neg (by decide)]; rfl) h0
  refine Ev.congr (fun k => ?_) h1
  unfold fascineref14_Same.f
  rw [if_pos rfl, bne_self_eq_false]

open Go.Proofs.Ytkoaeiiaagipeaa.G
theorem chk_iff {n : Int} : ∀ {l : List Int} {last : Int}, chk n last l = true ↔ (∀ x ∈ l, last < x ∧ x < n) ∧ l.Pairwise (· < ·)
  | [], last => by simp [chk]
  | y :: t, last => by
    simp only [chk, Bool.and_eq_true, decide_eq_true_eq, chk_iff (l := t), List.mem_cons, List.pairwise_cons]
    constructor
    · rintro ⟨h1, h2, h3, h4⟩
      refine ⟨?_, fun z hz => (h3 z hz).1, h4⟩
      rintro x (rfl | hx)
      · exact ⟨h1, h2⟩
      · have := h3 x hx; omega
    · rintro ⟨h1, h2, h3⟩
      exact ⟨(h1 y (Or.inl rfl)).1, (h1 y (Or.inl rfl)).2, fun x hx => ⟨h2 x hx, (h1 x (Or.inr hx)).2⟩, h3⟩
theorem rising_len {n : Int} : ∀ {l : List Int} {last : Int}, (∀ x ∈ l, last < x ∧ x < n) → l.Pairwise (· < ·) → last < n → (l.length : Int) ≤ n - 1 - last
  | [], last, _, _, h => by simp; omega
  | y :: t, last, h1, h2, h => by
    have h3 := List.pairwise_cons.1 h2
    have hy := h1 y (by simp)
    have := rising_len (l := t) (last := y) (fun x hx => ⟨h3.1 x hx, (h1 x (by simp [hx])).2⟩) h3.2 hy.2
    simp only [List.length_cons]
    omega
theorem rowOk_iff {n : Int} {s : S42} : rowOk n s = true ↔ (∀ x ∈ s.f3, 0 ≤ x ∧ x < n) ∧ s.f3.Pairwise (· < ·) ∧ 1 ≤ s.f1 ∧ s.f2 ∈ s.f3 := by
  unfold rowOk
  simp only [Bool.and_eq_true, decide_eq_true_eq, chk_iff]
  constructor
  · rintro ⟨⟨h1, h2⟩, h3, h4⟩; exact ⟨fun x hx => by have := h1 x hx; omega, h2, h3, h4⟩
  · rintro ⟨h1, h2, h3, h4⟩; exact ⟨⟨fun x hx => by have := h1 x hx; omega, h2⟩, h3, h4⟩
theorem tabOk_iff {n : Int} {l : List S42} : tabOk n l = true ↔ (1 ≤ n ∧ n ≤ 5 ∧ 1 ≤ l.length ∧ l.length ≤ 8) ∧ ∀ s ∈ l, rowOk n s = true := by
  unfold tabOk
  simp only [Bool.and_eq_true, decide_eq_true_eq, List.all_eq_true]
/-- a right table whose numbers of changes are at most c -/
def Inv (n : Int) (l : List S42) (c : Int) : Prop := tabOk n l = true ∧ ∀ s ∈ l, 0 ≤ s.f0 ∧ s.f0 ≤ c ∧ s.f1 ≤ c + 1
theorem Inv.small {n : Int} {l : List S42} {c : Int} (h : Inv n l c) : ∀ s ∈ l, Small s := by
  intro s hs
  have h1 := tabOk_iff.1 h.1
  have h2 := rowOk_iff.1 (h1.2 s hs)
  have := rising_len (n := n) (l := s.f3) (last := -1) (fun x hx => by have := h2.1 x hx; omega) h2.2.1 (by omega)
  exact ⟨by omega, by omega⟩
theorem mem_set_or {α : Type} {l : List α} {i : Nat} {a x : α} (h : x ∈ l.set i a) : x ∈ l ∨ x = a := List.mem_or_eq_of_mem_set h
theorem Inv.set {n : Int} {l : List S42} {c : Int} (h : Inv n l c) (i : Nat) (s : S42) (h1 : rowOk n s = true) (h2 : 0 ≤ s.f0) (h3 : s.f0 ≤ c + 1) (h4 : s.f1 ≤ c + 2) : Inv n (l.set i s) (c + 1) := by
  have ht := tabOk_iff.1 h.1
  refine ⟨tabOk_iff.2 ⟨by rw [List.length_set]; exact ht.1, fun x hx => ?_⟩, fun x hx => ?_⟩
  · rcases mem_set_or hx with hx | rfl
    · exact ht.2 x hx
    · exact h1
  · rcases mem_set_or hx with hx | rfl
    · have := h.2 x hx; omega
    · omega
theorem Inv.more {n : Int} {l : List S42} {c c' : Int} (h : Inv n l c) (hc : c ≤ c') : Inv n l c' := ⟨h.1, fun s hs => by have := h.2 s hs; omega⟩
theorem apply_ev {n : Int} {l : List S42} {c : Int} (h : Inv n l c) (kd nd rv : Int) (i : Nat) (hi : i < l.length) (h0 : 0 ≤ nd) (h1 : nd < n) {r : Int × List S42 × Bool} (hg : meta_Apply.g n l kd (i : Int) nd rv l[i] (decide (nd ∈ l[i].f3)) = some r) :
    Ev (fun k => meta_Apply.f k n l kd (i : Int) nd rv) r := by
  have hs := h.small
  have ht := tabOk_iff.1 h.1
  unfold meta_Apply.f
  refine Ev.bind (a := (n, l)) (f := fun k b => (meta_Form.f k n l).bind fun t => if t = true ∧ 0 ≤ (i : Int) ∧ (i : Int) < (l.length : Int) ∧ 0 ≤ nd ∧ nd < n then (if (i : Int) < (b.2.length : Int) then (slices_Contains_int_int.f k (rd_T42 b.2 (i : Int)).f3 nd).bind fun z => meta_Apply.g b.1 b.2 kd (i : Int) nd rv (rd_T42 b.2 (i : Int)) z else none) else some (b.1, b.2, false)) (copy_ev n l (by omega) hs) ?_
  refine Ev.bind (f := fun k t => if t = true ∧ 0 ≤ (i : Int) ∧ (i : Int) < (l.length : Int) ∧ 0 ≤ nd ∧ nd < n then (if (i : Int) < (l.length : Int) then (slices_Contains_int_int.f k (rd_T42 l (i : Int)).f3 nd).bind fun z => meta_Apply.g n l kd (i : Int) nd rv (rd_T42 l (i : Int)) z else none) else some (n, l, false)) (meta_Form_ev n l (by omega) hs) ?_
  simp only [if_pos (show tabOk n l = true ∧ 0 ≤ (i : Int) ∧ (i : Int) < (l.length : Int) ∧ 0 ≤ nd ∧ nd < n from ⟨h.1, by omega, by omega, h0, h1⟩), if_pos (show (i : Int) < (l.length : Int) by omega), rdT_nat hi]
  refine Ev.bind (f := fun k z => meta_Apply.g n l kd (i : Int) nd rv l[i] z) (contains_ev l[i].f3 nd (by have := (hs _ (List.getElem_mem hi)).2; omega)) ?_
  rw [hg]
  exact Ev.now _
theorem apply_no {n : Int} {l : List S42} (hl : l.length * 48 ≤ 140737488351232) (hs : ∀ s ∈ l, Small s) (kd sd nd rv : Int) (hno : ¬ (tabOk n l = true ∧ 0 ≤ sd ∧ sd < (l.length : Int) ∧ 0 ≤ nd ∧ nd < n)) :
    Ev (fun k => meta_Apply.f k n l kd sd nd rv) (n, l, false) := by
  unfold meta_Apply.f
  refine Ev.bind (a := (n, l)) (f := fun k b => (meta_Form.f k n l).bind fun t => if t = true ∧ 0 ≤ sd ∧ sd < (l.length : Int) ∧ 0 ≤ nd ∧ nd < n then (if sd < (b.2.length : Int) then (slices_Contains_int_int.f k (rd_T42 b.2 sd).f3 nd).bind fun z => meta_Apply.g b.1 b.2 kd sd nd rv (rd_T42 b.2 sd) z else none) else some (b.1, b.2, false)) (copy_ev n l hl hs) ?_
  refine Ev.bind (f := fun k t => if t = true ∧ 0 ≤ sd ∧ sd < (l.length : Int) ∧ 0 ≤ nd ∧ nd < n then (if sd < (l.length : Int) then (slices_Contains_int_int.f k (rd_T42 l sd).f3 nd).bind fun z => meta_Apply.g n l kd sd nd rv (rd_T42 l sd) z else none) else some (n, l, false)) (meta_Form_ev n l (by omega) hs) ?_
  simp only [if_neg hno]
  exact Ev.now _
theorem sort_some {l : List Int} (h : l ≠ []) (hl : l.length < 140737488355328) : slices_Sort_int_int.f l = some (sortI l) := by
  unfold slices_Sort_int_int.f
  rw [if_neg h, if_pos hl]
theorem lt_of_le_nodup : ∀ {l : List Int}, l.Pairwise (· ≤ ·) → l.Nodup → l.Pairwise (· < ·)
  | [], _, _ => List.Pairwise.nil
  | x :: t, h, hn => by
    have h1 := List.pairwise_cons.1 h
    have h2 := List.nodup_cons.1 hn
    refine List.pairwise_cons.2 ⟨fun y hy => ?_, lt_of_le_nodup h1.2 h2.2⟩
    have := h1.1 y hy
    have : x ≠ y := fun e => h2.1 (e ▸ hy)
    omega
theorem nodup_of_lt {l : List Int} (h : l.Pairwise (· < ·)) : l.Nodup := h.imp (fun hxy => by omega)
theorem ins_ok {n nd : Int} {l : List Int} (h1 : ∀ x ∈ l, 0 ≤ x ∧ x < n) (h2 : l.Pairwise (· < ·)) (h3 : nd ∉ l) (h4 : 0 ≤ nd) (h5 : nd < n) : (∀ x ∈ sortI (l ++ [nd]), 0 ≤ x ∧ x < n) ∧ (sortI (l ++ [nd])).Pairwise (· < ·) := by
  have hp := sortI_perm (l ++ [nd])
  refine ⟨fun x hx => ?_, lt_of_le_nodup (sortI_rising _) (hp.nodup_iff.2 ?_)⟩
  · rcases List.mem_append.1 (hp.mem_iff.1 hx) with h | h
    · exact h1 x h
    · rw [List.mem_singleton.1 h]; exact ⟨h4, h5⟩
  · rw [List.nodup_append]
    exact ⟨nodup_of_lt h2, by simp, fun a ha b hb => by rw [List.mem_singleton.1 hb]; exact fun e => h3 (e ▸ ha)⟩
theorem wu1 {x : Int} (h0 : 0 ≤ x) (h1 : x ≤ 1000000) : IntKind.u64.wrap (x + 1) = x + 1 := wu64 (by omega) (by omega)
theorem g_add {n : Int} {l : List S42} {c : Int} (h : Inv n l c) (hc : c ≤ 900000) (i : Nat) (hi : i < l.length) (nd : Int) (h3 : nd ∉ l[i].f3) (h4 : 0 ≤ nd) (h5 : nd < n) :
    meta_Apply.g n l 2 (i : Int) nd l[i].f0 l[i] (decide (nd ∈ l[i].f3)) = some (n, l.set i ⟨l[i].f0 + 1, l[i].f1, l[i].f2, sortI (l[i].f3 ++ [nd])⟩, true) := by
  have hv := h.2 _ (List.getElem_mem hi)
  have hsm := h.small _ (List.getElem_mem hi)
  rw [decide_eq_false h3]
  unfold meta_Apply.g
  rw [if_neg (by simp), if_neg (by omega), if_neg (by omega), if_neg (by simp), if_pos ⟨rfl, rfl⟩, if_pos (by have := hsm.2; omega), sort_some (by simp) (by have := hsm.2; simp; omega), Option.bind_some, Int.toNat_natCast, wu1 hv.1 (by omega)]
theorem g_pro {n : Int} {l : List S42} {c : Int} (h : Inv n l c) (hc : c ≤ 900000) (i : Nat) (hi : i < l.length) (nd : Int) (h3 : nd ∈ l[i].f3) :
    meta_Apply.g n l 1 (i : Int) nd l[i].f0 l[i] (decide (nd ∈ l[i].f3)) = some (n, l.set i ⟨l[i].f0 + 1, l[i].f1 + 1, nd, l[i].f3⟩, true) := by
  have hv := h.2 _ (List.getElem_mem hi)
  have hsm := h.small _ (List.getElem_mem hi)
  rw [decide_eq_true h3]
  unfold meta_Apply.g
  rw [if_neg (by simp), if_neg (by omega), if_neg (by omega), if_pos ⟨rfl, rfl⟩, Int.toNat_natCast, wu1 hv.1 (by omega), wu1 hsm.1 (by omega)]
theorem g_rem {n : Int} {l : List S42} {c : Int} (h : Inv n l c) (hc : c ≤ 900000) (i : Nat) (hi : i < l.length) (nd : Int) (h3 : nd ∈ l[i].f3) (h4 : nd ≠ l[i].f2) :
    meta_Apply.g n l 3 (i : Int) nd l[i].f0 l[i] (decide (nd ∈ l[i].f3)) = some (n, l.set i ⟨l[i].f0 + 1, l[i].f1, l[i].f2, l[i].f3.filter fun x => !(x == nd)⟩, true) := by
  have hv := h.2 _ (List.getElem_mem hi)
  rw [decide_eq_true h3]
  unfold meta_Apply.g
  rw [if_neg (by simp), if_neg (by omega), if_neg (by omega), if_neg (by simp), if_neg (by simp), if_pos ⟨rfl, rfl, h4⟩, if_neg (fun e => by rw [e] at h3; simp at h3), Int.toNat_natCast, wu1 hv.1 (by omega)]
theorem ok_add {n : Int} {s : S42} (hr : rowOk n s = true) {nd : Int} (h3 : nd ∉ s.f3) (h4 : 0 ≤ nd) (h5 : nd < n) (a : Int) : rowOk n ⟨a, s.f1, s.f2, sortI (s.f3 ++ [nd])⟩ = true := by
  have h := rowOk_iff.1 hr
  have hi := ins_ok h.1 h.2.1 h3 h4 h5
  exact rowOk_iff.2 ⟨hi.1, hi.2, h.2.2.1, (sortI_perm _).mem_iff.2 (List.mem_append_left _ h.2.2.2)⟩
theorem ok_pro {n : Int} {s : S42} (hr : rowOk n s = true) {nd : Int} (h3 : nd ∈ s.f3) (a : Int) : rowOk n ⟨a, s.f1 + 1, nd, s.f3⟩ = true := by
  have h := rowOk_iff.1 hr
  exact rowOk_iff.2 ⟨h.1, h.2.1, by show 1 ≤ s.f1 + 1; omega, h3⟩
theorem ok_rem {n : Int} {s : S42} (hr : rowOk n s = true) {nd : Int} (h4 : nd ≠ s.f2) (a : Int) : rowOk n ⟨a, s.f1, s.f2, s.f3.filter fun x => !(x == nd)⟩ = true := by
  have h := rowOk_iff.1 hr
  exact rowOk_iff.2 ⟨fun x hx => h.1 x (List.mem_filter.1 hx).1, h.2.1.filter _, h.2.2.1, List.mem_filter.2 ⟨h.2.2.2, by simp; exact fun e => h4 e.symm⟩⟩
/-- whatever the command: done or not, the table stays right -/
theorem apply_any {n : Int} {l : List S42} {c : Int} (h : Inv n l c) (hc : c ≤ 900000) (kd sd nd rv : Int) :
    ∃ l' b, Ev (fun k => meta_Apply.f k n l kd sd nd rv) (n, l', b) ∧ Inv n l' (c + 1) ∧ l'.length = l.length := by
  have ht := tabOk_iff.1 h.1
  have hno : ∀ r : Int × List S42 × Bool, r = (n, l, false) → ∃ l' b, r = (n, l', b) ∧ Inv n l' (c + 1) ∧ l'.length = l.length := fun r hr => ⟨l, false, hr, h.more (by omega), rfl⟩
  by_cases hy : tabOk n l = true ∧ 0 ≤ sd ∧ sd < (l.length : Int) ∧ 0 ≤ nd ∧ nd < n
  · obtain ⟨_, h1, h2, h3, h4⟩ := hy
    obtain ⟨i, rfl⟩ := Int.eq_ofNat_of_zero_le h1
    have hi : i < l.length := by omega
    have hrow := ht.2 _ (List.getElem_mem hi)
    have hv := h.2 _ (List.getElem_mem hi)
    have hsm := h.small _ (List.getElem_mem hi)
    have key : ∃ r, meta_Apply.g n l kd (i : Int) nd rv l[i] (decide (nd ∈ l[i].f3)) = some r ∧ ∃ l' b, r = (n, l', b) ∧ Inv n l' (c + 1) ∧ l'.length = l.length := by
      by_cases e0 : rv = l[i].f0
      · subst e0
        by_cases m : nd ∈ l[i].f3
        · by_cases k1 : kd = 1
          · subst k1
            exact ⟨_, g_pro h hc i hi nd m, _, _, rfl, h.set i _ (ok_pro hrow m _) (by show 0 ≤ l[i].f0 + 1; omega) (by show l[i].f0 + 1 ≤ _; omega) (by show l[i].f1 + 1 ≤ _; omega), List.length_set⟩
          · by_cases k3 : kd = 3 ∧ nd ≠ l[i].f2
            · obtain ⟨rfl, k3⟩ := k3
              exact ⟨_, g_rem h hc i hi nd m k3, _, _, rfl, h.set i _ (ok_rem hrow k3 _) (by show 0 ≤ l[i].f0 + 1; omega) (by show l[i].f0 + 1 ≤ _; omega) (by show l[i].f1 ≤ _; omega), List.length_set⟩
            · refine ⟨(n, l, false), ?_, hno _ rfl⟩
              rw [decide_eq_true m]
              unfold meta_Apply.g
              rw [if_neg (by simp), if_neg (by omega), if_neg (by omega), if_neg (fun e => k1 e.1), if_neg (by simp), if_neg (fun e => k3 ⟨e.1, e.2.2⟩)]
        · by_cases k2 : kd = 2
          · subst k2
            exact ⟨_, g_add h hc i hi nd m h3 h4, _, _, rfl, h.set i _ (ok_add hrow m h3 h4 _) (by show 0 ≤ l[i].f0 + 1; omega) (by show l[i].f0 + 1 ≤ _; omega) (by show l[i].f1 ≤ _; omega), List.length_set⟩
          · refine ⟨(n, l, false), ?_, hno _ rfl⟩
            rw [decide_eq_false m]
            unfold meta_Apply.g
            rw [if_neg (by simp), if_neg (by omega), if_neg (by omega), if_neg (by simp), if_neg (fun e => k2 e.1), if_neg (by simp)]
      · refine ⟨(n, l, false), ?_, hno _ rfl⟩
        unfold meta_Apply.g
        rw [if_pos e0]
    obtain ⟨r, hg, l', b, rfl, h5, h6⟩ := key
    exact ⟨l', b, apply_ev h kd nd rv i hi h3 h4 hg, h5, h6⟩
  · exact ⟨l, false, apply_no (by omega) h.small kd sd nd rv hy, h.more (by omega), rfl⟩

/-- a row that can be told: of no great size, its number of changes none below 0 -/
def RowB (s : S42) : Prop := Small s ∧ 0 ≤ s.f0
def applyIn (l : List S42) (s : S42) (kd sd nd rv : Int) : List S42 × Bool :=
  if rv ≠ s.f0 ∨ 1152921504606846976 ≤ s.f0 ∨ 1152921504606846976 ≤ s.f1 then (l, false)
  else if kd = 1 ∧ nd ∈ s.f3 then (l.set sd.toNat ⟨s.f0 + 1, s.f1 + 1, nd, s.f3⟩, true)
  else if kd = 2 ∧ nd ∉ s.f3 then (l.set sd.toNat ⟨s.f0 + 1, s.f1, s.f2, sortI (s.f3 ++ [nd])⟩, true)
  else if kd = 3 ∧ nd ∈ s.f3 ∧ nd ≠ s.f2 then (l.set sd.toNat ⟨s.f0 + 1, s.f1, s.f2, s.f3.filter fun x => !(x == nd)⟩, true)
  else (l, false)
/-- the table behind a command, and whether it was done -/
def applyV (n : Int) (l : List S42) (kd sd nd rv : Int) : List S42 × Bool :=
  if tabOk n l = true ∧ 0 ≤ sd ∧ sd < (l.length : Int) ∧ 0 ≤ nd ∧ nd < n then applyIn l (rd_T42 l sd) kd sd nd rv else (l, false)
theorem rdT_mem {l : List S42} {sd : Int} (h0 : 0 ≤ sd) (h1 : sd < (l.length : Int)) : rd_T42 l sd ∈ l := by
  obtain ⟨i, rfl⟩ : ∃ i : Nat, sd = (i : Int) := ⟨sd.toNat, by omega⟩
  rw [rdT_nat (by omega)]; exact List.getElem_mem _
theorem u64s {x : Int} (h0 : 0 ≤ x) (h1 : x < 1152921504606846976) : IntKind.u64.wrap (x + 1) = x + 1 := wu64 (by omega) (by omega)
theorem row_len {n : Int} {s : S42} (h5 : n ≤ 5) (h0 : 1 ≤ n) (h : rowOk n s = true) : s.f3.length ≤ 5 := by
  have h2 := rowOk_iff.1 h
  have := rising_len (n := n) (l := s.f3) (last := -1) (fun x hx => by have := h2.1 x hx; omega) h2.2.1 (by omega)
  omega
theorem g_eq {n : Int} {l : List S42} {kd sd nd rv : Int} (ht : tabOk n l = true) (h0 : 0 ≤ sd) (h1 : sd < (l.length : Int)) (h2 : 0 ≤ nd) (h3 : nd < n) (hb : ∀ s ∈ l, RowB s) :
    meta_Apply.g n l kd sd nd rv (rd_T42 l sd) (decide (nd ∈ (rd_T42 l sd).f3)) = some (n, (applyV n l kd sd nd rv).1, (applyV n l kd sd nd rv).2) := by
  have hm := rdT_mem h0 h1
  have hB := hb _ hm
  have hk := tabOk_iff.1 ht
  have hr := hk.2 _ hm
  have hlen := row_len (by omega) (by omega) hr
  have hr2 := rowOk_iff.1 hr
  have e : applyV n l kd sd nd rv = applyIn l (rd_T42 l sd) kd sd nd rv := by unfold applyV; exact if_pos ⟨ht, h0, h1, h2, h3⟩
  rw [e]
  generalize rd_T42 l sd = s at *
  unfold meta_Apply.g applyIn
  by_cases c1 : rv ≠ s.f0
  · rw [if_pos c1, if_pos (.inl c1)]
  · rw [if_neg c1]
    by_cases c2 : s.f0 ≥ 1152921504606846976
    · rw [if_pos c2, if_pos (.inr (.inl c2))]
    · rw [if_neg c2]
      by_cases c3 : s.f1 ≥ 1152921504606846976
      · rw [if_pos c3, if_pos (.inr (.inr c3))]
      · have cc : ¬ (rv ≠ s.f0 ∨ 1152921504606846976 ≤ s.f0 ∨ 1152921504606846976 ≤ s.f1) := fun h => h.elim c1 fun h => h.elim c2 c3
        rw [if_neg c3, if_neg cc]
        have e0 := u64s (x := s.f0) hB.2 (by omega)
        have e1 := u64s (x := s.f1) hB.1.1 (by omega)
        have ft : ¬ (false = true) := by decide
        have tf : ¬ (true = false) := by decide
        by_cases hin : nd ∈ s.f3
        · rw [decide_eq_true hin]
          have q2 : ¬ (kd = 2 ∧ true = false) := fun h => tf h.2
          have q2' : ¬ (kd = 2 ∧ nd ∉ s.f3) := fun h => h.2 hin
          by_cases k1 : kd = 1
          · rw [if_pos (show kd = 1 ∧ true = true from ⟨k1, rfl⟩), if_pos (show kd = 1 ∧ nd ∈ s.f3 from ⟨k1, hin⟩), e0, e1]
          · rw [if_neg (show ¬ (kd = 1 ∧ true = true) from fun h => k1 h.1), if_neg (show ¬ (kd = 1 ∧ nd ∈ s.f3) from fun h => k1 h.1), if_neg q2, if_neg q2']
            by_cases k3 : kd = 3 ∧ nd ≠ s.f2
            · rw [if_pos (show kd = 3 ∧ true = true ∧ nd ≠ s.f2 from ⟨k3.1, rfl, k3.2⟩), if_pos (show kd = 3 ∧ nd ∈ s.f3 ∧ nd ≠ s.f2 from ⟨k3.1, hin, k3.2⟩), if_neg (show ¬ s.f3 = [] from fun e => by rw [e] at hin; cases hin), e0]
            · rw [if_neg (show ¬ (kd = 3 ∧ true = true ∧ nd ≠ s.f2) from fun h => k3 ⟨h.1, h.2.2⟩), if_neg (show ¬ (kd = 3 ∧ nd ∈ s.f3 ∧ nd ≠ s.f2) from fun h => k3 ⟨h.1, h.2.2⟩)]
        · rw [decide_eq_false hin, if_neg (show ¬ (kd = 1 ∧ false = true) from fun h => ft h.2), if_neg (show ¬ (kd = 1 ∧ nd ∈ s.f3) from fun h => hin h.2)]
          have q3 : ¬ (kd = 3 ∧ false = true ∧ nd ≠ s.f2) := fun h => ft h.2.1
          have q3' : ¬ (kd = 3 ∧ nd ∈ s.f3 ∧ nd ≠ s.f2) := fun h => hin h.2.1
          by_cases k2 : kd = 2
          · rw [if_pos (show kd = 2 ∧ false = false from ⟨k2, rfl⟩), if_pos (show kd = 2 ∧ nd ∉ s.f3 from ⟨k2, hin⟩), if_pos (show s.f3.length < 17592186044416 by omega), sort_some (by simp) (by rw [List.length_append, List.length_singleton]; omega), e0]
            rfl
          · rw [if_neg (show ¬ (kd = 2 ∧ false = false) from fun h => k2 h.1), if_neg (show ¬ (kd = 2 ∧ nd ∉ s.f3) from fun h => k2 h.1), if_neg q3, if_neg q3']
theorem papply_ev {n : Int} {l : List S42} (hl : l.length * 48 ≤ 140737488351232) (hb : ∀ s ∈ l, RowB s) (kd sd nd rv : Int) : Ev (fun k => meta_Apply.f k n l kd sd nd rv) (n, (applyV n l kd sd nd rv).1, (applyV n l kd sd nd rv).2) := by
  have hs : ∀ s ∈ l, Small s := fun s h => (hb s h).1
  by_cases hc : tabOk n l = true ∧ 0 ≤ sd ∧ sd < (l.length : Int) ∧ 0 ≤ nd ∧ nd < n
  · obtain ⟨ht, h0, h1, h2, h3⟩ := hc
    unfold meta_Apply.f
    refine Ev.bind (a := (n, l)) (f := fun k b => (meta_Form.f k n l).bind fun t => if t = true ∧ 0 ≤ sd ∧ sd < (l.length : Int) ∧ 0 ≤ nd ∧ nd < n then (if sd < (b.2.length : Int) then (slices_Contains_int_int.f k (rd_T42 b.2 sd).f3 nd).bind fun z => meta_Apply.g b.1 b.2 kd sd nd rv (rd_T42 b.2 sd) z else none) else some (b.1, b.2, false)) (copy_ev n l hl hs) ?_
    refine Ev.bind (f := fun k t => if t = true ∧ 0 ≤ sd ∧ sd < (l.length : Int) ∧ 0 ≤ nd ∧ nd < n then (if sd < (l.length : Int) then (slices_Contains_int_int.f k (rd_T42 l sd).f3 nd).bind fun z => meta_Apply.g n l kd sd nd rv (rd_T42 l sd) z else none) else some (n, l, false)) (meta_Form_ev n l (by omega) hs) ?_
    simp only [if_pos (show tabOk n l = true ∧ 0 ≤ sd ∧ sd < (l.length : Int) ∧ 0 ≤ nd ∧ nd < n from ⟨ht, h0, h1, h2, h3⟩), if_pos h1]
    refine Ev.bind (f := fun k z => meta_Apply.g n l kd sd nd rv (rd_T42 l sd) z) (contains_ev (rd_T42 l sd).f3 nd (by have := (hs _ (rdT_mem h0 h1)).2; omega)) ?_
    rw [g_eq ht h0 h1 h2 h3 hb]
    exact Ev.now _
  · have := apply_no hl hs kd sd nd rv hc
    unfold applyV
    rw [if_neg hc]
    exact this
/-- what is behind a command is told as before -/
theorem applyV_ok {n : Int} {l : List S42} (hl : l.length * 48 ≤ 140737488351232) (hb : ∀ s ∈ l, RowB s) (kd sd nd rv : Int) : (applyV n l kd sd nd rv).1.length * 48 ≤ 140737488351232 ∧ ∀ s ∈ (applyV n l kd sd nd rv).1, RowB s := by
  have key : ∀ s' : S42, RowB s' → (l.set sd.toNat s').length * 48 ≤ 140737488351232 ∧ ∀ s ∈ l.set sd.toNat s', RowB s := fun s' h' =>
    ⟨by rw [List.length_set]; exact hl, fun s hs => by
      rcases List.mem_or_eq_of_mem_set hs with h | h
      · exact hb s h
      · rw [h]; exact h'⟩
  unfold applyV
  split
  · rename_i hc
    obtain ⟨ht, h0, h1, h2, h3⟩ := hc
    have hm := rdT_mem h0 h1
    have hB := hb _ hm
    have hk := tabOk_iff.1 ht
    have hlen := row_len (by omega) (by omega) (hk.2 _ hm)
    have g0 := hB.2
    have g1 := hB.1.1
    generalize rd_T42 l sd = s at *
    unfold applyIn
    split
    · exact ⟨hl, hb⟩
    · split
      · exact key _ ⟨⟨by show 0 ≤ s.f1 + 1; omega, by show s.f3.length ≤ _; omega⟩, by show 0 ≤ s.f0 + 1; omega⟩
      · split
        · refine key _ ⟨⟨g1, ?_⟩, by show 0 ≤ s.f0 + 1; omega⟩
          show (sortI (s.f3 ++ [nd])).length ≤ _
          rw [(sortI_perm _).length_eq, List.length_append, List.length_singleton]; omega
        · split
          · refine key _ ⟨⟨g1, ?_⟩, by show 0 ≤ s.f0 + 1; omega⟩
            show (s.f3.filter fun x => !(x == nd)).length ≤ _
            have := List.length_filter_le (fun x => !(x == nd)) s.f3
            omega
          · exact ⟨hl, hb⟩
  · exact ⟨hl, hb⟩
/-- the reference's list: those in sync, the one at hand put in or left out -/
def refList (n : Nat) (s : S42) (kd nd : Int) : List Int := ((List.range n).map (fun x : Nat => (x : Int))).filter fun x => if x = nd then decide (kd ≠ 3) else decide (x ∈ s.f3)
theorem range_lt : ∀ n : Nat, ((List.range n).map (fun x : Nat => (x : Int))).Pairwise (· < ·) := fun n => by
  rw [List.pairwise_map]
  exact List.pairwise_lt_range.imp fun h => by omega
theorem lt_unique : ∀ {a b : List Int}, a.Pairwise (· < ·) → b.Pairwise (· < ·) → (∀ x, x ∈ a ↔ x ∈ b) → a = b := by
  intro a b ha hb hm
  refine List.Perm.eq_of_pairwise (le := (· ≤ ·)) (fun x y _ _ h1 h2 => by omega) (ha.imp fun h => by omega) (hb.imp fun h => by omega) ?_
  exact (List.perm_ext_iff_of_nodup (nodup_of_lt ha) (nodup_of_lt hb)).2 hm
theorem refList_mem (n : Nat) (s : S42) (kd nd x : Int) : x ∈ refList n s kd nd ↔ (0 ≤ x ∧ x < n) ∧ (if x = nd then kd ≠ 3 else x ∈ s.f3) := by
  unfold refList
  rw [List.mem_filter, List.mem_map]
  constructor
  · rintro ⟨⟨y, hy, rfl⟩, h⟩
    have := List.mem_range.1 hy
    refine ⟨by omega, ?_⟩
    split at h
    · rename_i e; rw [if_pos e]; exact of_decide_eq_true h
    · rename_i e; rw [if_neg e]; exact of_decide_eq_true h
  · rintro ⟨⟨h0, h1⟩, h⟩
    refine ⟨⟨x.toNat, List.mem_range.2 (by omega), by omega⟩, ?_⟩
    split at h
    · rename_i e; rw [if_pos e]; exact decide_eq_true h
    · rename_i e; rw [if_neg e]; exact decide_eq_true h
theorem refList_lt (n : Nat) (s : S42) (kd nd : Int) : (refList n s kd nd).Pairwise (· < ·) := (range_lt n).sublist List.filter_sublist
theorem refList_add {n : Int} {s : S42} (h : rowOk n s = true) {nd : Int} (h0 : 0 ≤ nd) (h1 : nd < n) (hin : nd ∉ s.f3) : refList n.toNat s 2 nd = sortI (s.f3 ++ [nd]) := by
  have hr := rowOk_iff.1 h
  have hi := ins_ok hr.1 hr.2.1 hin h0 h1
  refine lt_unique (refList_lt ..) hi.2 fun x => ?_
  rw [refList_mem, (sortI_perm _).mem_iff, List.mem_append, List.mem_singleton]
  constructor
  · rintro ⟨_, h⟩
    split at h
    · rename_i e; exact .inr e
    · exact .inl h
  · rintro (h | h)
    · have := hr.1 x h
      refine ⟨by omega, ?_⟩
      rw [if_neg (show ¬ x = nd from fun e => hin (e ▸ h))]; exact h
    · refine ⟨by omega, ?_⟩
      rw [if_pos h]; decide
theorem refList_rem {n : Int} {s : S42} (h : rowOk n s = true) {nd : Int} : refList n.toNat s 3 nd = s.f3.filter fun x => !(x == nd) := by
  have hr := rowOk_iff.1 h
  refine lt_unique (refList_lt ..) (hr.2.1.sublist List.filter_sublist) fun x => ?_
  rw [refList_mem, List.mem_filter]
  constructor
  · rintro ⟨_, h⟩
    split at h
    · exact absurd rfl h
    · rename_i e; exact ⟨h, by simpa using e⟩
  · rintro ⟨h, e⟩
    have hx := hr.1 x h
    have e : x ≠ nd := by simpa using e
    exact ⟨by omega, by rw [if_neg e]; exact h⟩

end Go.Proofs.Ytkoaeiiaagipeaa.Pure
