/- On the printed functions of MetaPlans: what each of them answers, in plain words. -/
import Derived.Test.YtkoaeiiaagipeaaPMetaPlansx
import Derived.Test.YtkoaeiiaagipeaaMPack
import Derived.Test.YtkoaeiiaagipeaaQMetaPlans
namespace Go.Proofs.Ytkoaeiiaagipeaa.Pure
open Go.RowKit Go.Proofs.Ytkoaeiiaagipeaa.PMetaPlans Go.Proofs.YtkoaeiiaagipeaaW.PrintWords Go.Proofs.YtkoaeiiaagipeaaW.PrintLast Go.Proofs.YtkoaeiiaagipeaaW.PrintMore Go.Proofs.Ytkoaeiiaagipeaa.M
set_option linter.unusedVariables false
set_option linter.unusedSimpArgs false

theorem fascinelaw14_awake_40 : fascinelaw14_awake.f 40 = some true := by decide +kernel
theorem fascinelaw14_awake_is {k : Nat} (hk : 40 ≤ k) : fascinelaw14_awake.f k = some true := by
  obtain ⟨d, rfl⟩ := Nat.exists_eq_add_of_le hk
  induction d with
  | zero => exact fascinelaw14_awake_40
  | succ d ih => exact fascinelaw14_awake.mono (40 + d) true (ih (by omega))

theorem rd_nat {l : List Int} {j : Nat} (h : j < l.length) : rd l (j : Int) = l[j] := by
  unfold rd
  rw [Int.toNat_natCast, List.getD_eq_getElem?_getD, List.getElem?_eq_getElem h]
  rfl
theorem rdT_nat {l : List S42} {j : Nat} (h : j < l.length) : rd_T42 l (j : Int) = l[j] := by
  unfold rd_T42
  rw [Int.toNat_natCast, List.getD_eq_getElem?_getD, List.getElem?_eq_getElem h]
  rfl
theorem w64s {j n : Nat} (h : j < n) (hn : n ≤ 9223372036854775807) : wrap64 ((j : Int) + 1) = ((j + 1 : Nat) : Int) := by
  rw [w64 (by omega) (by omega)]; omega
theorem ev_some {α : Type} {g : Nat → Option α} {r : α} (h : ∀ k, g (k + 1) = some r) : Ev g r := Ev.step (f := fun _ => some r) h (Ev.now r)
theorem ev_mono {α : Type} {g : Nat → Option α} {r : α} (hg : ∀ k, LeO (g k) (g (k + 1))) {k : Nat} (h : g k = some r) : Ev g r := Ev.of hg h
theorem idx_ev (l : List Int) (a : Int) (hl : l.length ≤ 4611686018427387904) : ∀ (d i : Nat), l.length - i = d → i ≤ l.length → ∃ r : Int, Ev (fun k => slices_Index_int_int.l0 k l a (l.length : Int) (i : Int)) r ∧ (0 ≤ r ↔ a ∈ l.drop i) := by
  intro d
  induction d with
  | zero =>
    intro i hd hi
    refine ⟨-1, ev_some (fun k => ?_), ?_⟩
    · simp only [slices_Index_int_int.l0]; rw [if_neg (by omega)]
    · rw [List.drop_of_length_le (by omega)]; simp
  | succ d ih =>
    intro i hd hi
    have hlt : i < l.length := by omega
    obtain ⟨r, hr, hm⟩ := ih (i + 1) (by omega) (by omega)
    by_cases e : a = l[i]
    · refine ⟨(i : Int), ev_some (fun k => ?_), ?_⟩
      · simp only [slices_Index_int_int.l0]; rw [if_pos (by omega), if_pos (by omega), if_pos (by omega), rd_nat hlt, if_pos e]
      · rw [List.drop_eq_getElem_cons hlt, ← e]; simp
    · refine ⟨r, Ev.step (f := fun k => slices_Index_int_int.l0 k l a (l.length : Int) ((i + 1 : Nat) : Int)) (fun k => ?_) hr, ?_⟩
      · simp only [slices_Index_int_int.l0]; rw [if_pos (by omega), if_pos (by omega), if_pos (by omega), rd_nat hlt, if_neg e, w64s hlt (by omega)]
      · rw [List.drop_eq_getElem_cons hlt, List.mem_cons, hm]; simp [e]
theorem contains_ev (l : List Int) (a : Int) (hl : l.length ≤ 4611686018427387904) : Ev (fun k => slices_Contains_int_int.f k l a) (decide (a ∈ l)) := by
  obtain ⟨r, hr, hm⟩ := idx_ev l a hl l.length 0 (by omega) (by omega)
  have h2 : Ev (fun k => (slices_Index_int_int.f k l a).bind fun t => some (decide (t ≥ 0))) (decide (r ≥ 0)) := Ev.bind (f := fun _ t => some (decide (t ≥ 0))) hr (Ev.now _)
  have e : decide (r ≥ 0) = decide (a ∈ l) := decide_eq_decide.mpr (by rw [List.drop_zero] at hm; exact hm)
  rw [e] at h2
  exact h2
def chk (n last : Int) : List Int → Bool
  | [] => true
  | x :: t => decide (last < x) && (decide (x < n) && chk n x t)
def rowOk (n : Int) (s : S42) : Bool := chk n (-1) s.f3 && (decide (1 ≤ s.f1) && decide (s.f2 ∈ s.f3))
def tabOk (n : Int) (l : List S42) : Bool := decide (1 ≤ n ∧ n ≤ 5 ∧ 1 ≤ l.length ∧ l.length ≤ 8) && l.all (rowOk n)
def prevOf (l : List Int) (j : Nat) : Int := if j = 0 then -1 else l.getD (j - 1) 0
theorem prev_succ {l : List Int} {j : Nat} (h : j < l.length) : prevOf l (j + 1) = l[j] := by
  unfold prevOf
  rw [if_neg (by omega), Nat.add_sub_cancel, List.getD_eq_getElem?_getD, List.getElem?_eq_getElem h]
  rfl
theorem form_row (n : Int) (l : List S42) (i : Nat) (s : S42) (rt : Bool) (hs : s.f3.length ≤ 4611686018427387904)
    (ht : Ev (fun k => meta_Form.l0 k l (l.length : Int) (wrap64 ((i : Int) + 1)) n l) rt) :
    ∀ (d j : Nat), s.f3.length - j = d → j ≤ s.f3.length → (0 < j → 0 ≤ prevOf s.f3 j) →
    Ev (fun k => meta_Form.l1 k l (l.length : Int) (i : Int) s.f3 (s.f3.length : Int) (j : Int) n l s.f0 s.f1 s.f2 s.f3) (chk n (prevOf s.f3 j) (s.f3.drop j) && (decide (1 ≤ s.f1) && decide (s.f2 ∈ s.f3)) && rt) := by
  intro d
  induction d with
  | zero =>
    intro j hd hj _
    rw [List.drop_of_length_le (by omega)]
    by_cases h1 : s.f1 < 1
    · rw [decide_eq_false (show ¬ 1 ≤ s.f1 by omega)]
      exact ev_some (fun k => by simp only [meta_Form.l1]; rw [if_neg (by omega), if_pos h1]; simp [chk])
    · rw [decide_eq_true (show 1 ≤ s.f1 by omega)]
      refine Ev.step (f := fun k => (slices_Contains_int_int.f k s.f3 s.f2).bind fun t => if t = true then meta_Form.l0 k l (l.length : Int) (wrap64 ((i : Int) + 1)) n l else some false) (fun k => by simp only [meta_Form.l1]; rw [if_neg (by omega), if_neg h1]) ?_
      refine Ev.bind (f := fun k t => if t = true then meta_Form.l0 k l (l.length : Int) (wrap64 ((i : Int) + 1)) n l else some false) (contains_ev s.f3 s.f2 hs) ?_
      by_cases hc : s.f2 ∈ s.f3
      · simp only [hc, decide_true, if_true, chk, Bool.true_and]; exact ht
      · simp only [hc, decide_false, chk, Bool.true_and, Bool.false_and]; exact Ev.now _
  | succ d ih =>
    intro j hd hj hp
    have hlt : j < s.f3.length := by omega
    have hdr : s.f3.drop j = s.f3[j] :: s.f3.drop (j + 1) := List.drop_eq_getElem_cons hlt
    rw [hdr]
    simp only [chk]
    have hnext : 0 ≤ s.f3[j] → Ev (fun k => meta_Form.l1 k l (l.length : Int) (i : Int) s.f3 (s.f3.length : Int) ((j + 1 : Nat) : Int) n l s.f0 s.f1 s.f2 s.f3) (chk n s.f3[j] (s.f3.drop (j + 1)) && (decide (1 ≤ s.f1) && decide (s.f2 ∈ s.f3)) && rt) := by
      intro h0
      have := ih (j + 1) (by omega) (by omega) (fun _ => by rw [prev_succ hlt]; exact h0)
      rw [prev_succ hlt] at this
      exact this
    by_cases h0 : s.f3[j] < 0
    · have e : decide (prevOf s.f3 j < s.f3[j]) = false := by
        apply decide_eq_false
        by_cases hj0 : j = 0
        · subst hj0; unfold prevOf; rw [if_pos rfl]; omega
        · have := hp (by omega); omega
      rw [e]
      exact ev_some (fun k => by simp only [meta_Form.l1]; rw [if_pos (by omega), if_pos (by omega), if_pos (by omega), rd_nat hlt, if_pos h0]; rfl)
    · by_cases h1 : s.f3[j] ≥ n
      · rw [decide_eq_false (show ¬ s.f3[j] < n by omega), Bool.false_and, Bool.and_false]
        exact ev_some (fun k => by simp only [meta_Form.l1]; rw [if_pos (by omega), if_pos (by omega), if_pos (by omega), rd_nat hlt, if_neg h0, if_pos h1]; rfl)
      · rw [decide_eq_true (show s.f3[j] < n by omega), Bool.true_and]
        by_cases hj0 : j = 0
        · subst hj0
          rw [decide_eq_true (show prevOf s.f3 0 < s.f3[0] by unfold prevOf; rw [if_pos rfl]; omega), Bool.true_and]
          exact Ev.step (fun k => by simp only [meta_Form.l1]; rw [if_pos (by omega), if_pos (by omega), if_pos (by omega), rd_nat hlt, if_neg h0, if_neg h1, if_neg (by omega), w64s hlt (by omega)]) (hnext (by omega))
        · have hpj : prevOf s.f3 j = s.f3[j - 1] := by
            unfold prevOf; rw [if_neg hj0, List.getD_eq_getElem?_getD, List.getElem?_eq_getElem (by omega)]; rfl
          have hw : wrap64 ((j : Int) - 1) = ((j - 1 : Nat) : Int) := by rw [w64 (by omega) (by omega)]; omega
          have hrp : rd s.f3 ((j - 1 : Nat) : Int) = s.f3[j - 1] := rd_nat (by omega)
          rw [hpj]
          by_cases h2 : s.f3[j] ≤ s.f3[j - 1]
          · rw [decide_eq_false (show ¬ s.f3[j - 1] < s.f3[j] by omega)]
            exact ev_some (fun k => by simp only [meta_Form.l1]; rw [if_pos (by omega), if_pos (by omega), if_pos (by omega), rd_nat hlt, if_neg h0, if_neg h1, if_pos (by omega), hw, if_pos (by omega), if_pos (by omega), hrp, if_pos h2]; rfl)
          · rw [decide_eq_true (show s.f3[j - 1] < s.f3[j] by omega), Bool.true_and]
            exact Ev.step (fun k => by simp only [meta_Form.l1]; rw [if_pos (by omega), if_pos (by omega), if_pos (by omega), rd_nat hlt, if_neg h0, if_neg h1, if_pos (by omega), hw, if_pos (by omega), if_pos (by omega), hrp, if_neg h2, w64s hlt (by omega)]) (hnext (by omega))
def Small (s : S42) : Prop := 0 ≤ s.f1 ∧ s.f3.length ≤ 17592186043904
theorem form_rows (n : Int) (l : List S42) (hl : l.length ≤ 8) (hs : ∀ s ∈ l, Small s) : ∀ (d i : Nat), l.length - i = d → i ≤ l.length → Ev (fun k => meta_Form.l0 k l (l.length : Int) (i : Int) n l) ((l.drop i).all (rowOk n)) := by
  intro d
  induction d with
  | zero =>
    intro i hd hi
    rw [List.drop_of_length_le (by omega)]
    exact ev_some (fun k => by simp only [meta_Form.l0]; rw [if_neg (by omega)]; rfl)
  | succ d ih =>
    intro i hd hi
    have hlt : i < l.length := by omega
    have ht := ih (i + 1) (by omega) (by omega)
    rw [← w64s hlt (by omega)] at ht
    have hsm := hs _ (List.getElem_mem hlt)
    have hr := form_row n l i l[i] _ (by unfold Small at hsm; omega) ht l[i].f3.length 0 (by omega) (by omega) (fun h => by omega)
    rw [List.drop_eq_getElem_cons hlt]
    simp only [List.all_cons]
    refine Ev.step (fun k => ?_) hr
    simp only [meta_Form.l0]
    rw [if_pos (by omega), if_pos (by omega), if_pos (by omega), rdT_nat hlt]
    rfl
theorem meta_Form_ev (n : Int) (l : List S42) (hl : l.length ≤ 9223372036854775807) (hs : ∀ s ∈ l, Small s) : Ev (fun k => meta_Form.f k n l) (tabOk n l) := by
  have hno : Ev (fun k => meta_Form.j0 k true n l) false := ev_some (fun k => by simp only [meta_Form.j0]; rw [if_pos trivial])
  unfold tabOk
  by_cases h1 : n < 1
  · rw [decide_eq_false (by omega)]; exact Ev.congr (fun k => by unfold meta_Form.f; rw [if_pos h1]) hno
  by_cases h2 : n > 5
  · rw [decide_eq_false (by omega)]; exact Ev.congr (fun k => by unfold meta_Form.f; rw [if_neg h1, if_pos h2]) hno
  by_cases h3 : (l.length : Int) < 1
  · rw [decide_eq_false (by omega)]; exact Ev.congr (fun k => by unfold meta_Form.f; rw [if_neg h1, if_neg h2, if_pos h3]) hno
  by_cases h4 : (l.length : Int) > 8
  · rw [decide_eq_false (by omega)]; exact Ev.congr (fun k => by unfold meta_Form.f; rw [if_neg h1, if_neg h2, if_neg h3, decide_eq_true h4]) hno
  · rw [decide_eq_true (by omega), Bool.true_and]
    refine Ev.congr (f := fun k => meta_Form.j0 k false n l) (fun k => by unfold meta_Form.f; rw [if_neg h1, if_neg h2, if_neg h3, decide_eq_false h4]) ?_
    refine Ev.step (f := fun k => meta_Form.l0 k l (l.length : Int) 0 n l) (fun k => by simp only [meta_Form.j0]; rw [if_neg (by decide)]) ?_
    have := form_rows n l (by omega) hs l.length 0 (by omega) (by omega)
    rw [List.drop_zero] at this
    exact this

theorem in_ev (a b c x : Int) (l : List Int) (hl : l.length ≤ 4611686018427387904) : Ev (fun k => fascineref14_In.f k a b c l x) (decide (x ∈ l)) := by
  have key : ∀ (d i : Nat), l.length - i = d → i ≤ l.length → Ev (fun k => fascineref14_In.l0 k x (i : Int) a b c l) (decide (x ∈ l.drop i)) := by
    intro d
    induction d with
    | zero =>
      intro i hd hi
      rw [List.drop_of_length_le (by omega)]
      exact ev_some (fun k => by simp only [fascineref14_In.l0]; rw [if_neg (by omega)]; simp)
    | succ d ih =>
      intro i hd hi
      have hlt : i < l.length := by omega
      have ht := ih (i + 1) (by omega) (by omega)
      rw [List.drop_eq_getElem_cons hlt]
      by_cases e : l[i] = x
      · rw [decide_eq_true (by rw [e]; simp)]
        exact ev_some (fun k => by simp only [fascineref14_In.l0]; rw [if_pos (by omega), if_pos (by omega), rd_nat hlt, if_pos e])
      · have e2 : decide (x ∈ l[i] :: l.drop (i + 1)) = decide (x ∈ l.drop (i + 1)) := decide_eq_decide.mpr (by rw [List.mem_cons]; exact ⟨fun h => h.elim (fun h => absurd h.symm e) id, Or.inr⟩)
        rw [e2]
        exact Ev.step (fun k => by simp only [fascineref14_In.l0]; rw [if_pos (by omega), if_pos (by omega), rd_nat hlt, if_neg e, w64s hlt (by omega)]) ht
  have := key l.length 0 (by omega) (by omega)
  rw [List.drop_zero] at this
  exact Ev.congr (fun k => rfl) this
theorem rform_row (n : Int) (l : List S42) (i : Nat) (s : S42) (rt : Bool) (hs : s.f3.length ≤ 4611686018427387904) (h1s : 0 ≤ s.f1)
    (ht : Ev (fun k => fascineref14_Form.l0 k (wrap64 ((i : Int) + 1)) n l) rt) :
    ∀ (d j : Nat) (last : Int), s.f3.length - j = d → j ≤ s.f3.length →
    Ev (fun k => fascineref14_Form.l1 k (i : Int) last (j : Int) n l s.f0 s.f1 s.f2 s.f3) (chk n last (s.f3.drop j) && (decide (1 ≤ s.f1) && decide (s.f2 ∈ s.f3)) && rt) := by
  intro d
  induction d with
  | zero =>
    intro j last hd hj
    rw [List.drop_of_length_le (by omega)]
    by_cases h1 : s.f1 = 0
    · rw [decide_eq_false (show ¬ 1 ≤ s.f1 by omega)]
      exact ev_some (fun k => by simp only [fascineref14_Form.l1]; rw [if_neg (by omega), if_pos h1]; simp [chk])
    · rw [decide_eq_true (show 1 ≤ s.f1 by omega)]
      refine Ev.step (f := fun k => (fascineref14_In.f k s.f0 s.f1 s.f2 s.f3 s.f2).bind fun t => if t = true then fascineref14_Form.l0 k (wrap64 ((i : Int) + 1)) n l else some false) (fun k => by simp only [fascineref14_Form.l1]; rw [if_neg (by omega), if_neg h1]) ?_
      refine Ev.bind (f := fun k t => if t = true then fascineref14_Form.l0 k (wrap64 ((i : Int) + 1)) n l else some false) (in_ev _ _ _ s.f2 s.f3 hs) ?_
      by_cases hc : s.f2 ∈ s.f3
      · simp only [hc, decide_true, if_true, chk, Bool.true_and]; exact ht
      · simp only [hc, decide_false, chk, Bool.true_and, Bool.false_and]; exact Ev.now _
  | succ d ih =>
    intro j last hd hj
    have hlt : j < s.f3.length := by omega
    rw [List.drop_eq_getElem_cons hlt]
    simp only [chk]
    by_cases h0 : s.f3[j] ≤ last
    · rw [decide_eq_false (show ¬ last < s.f3[j] by omega)]
      exact ev_some (fun k => by simp only [fascineref14_Form.l1]; rw [if_pos (by omega), if_pos (by omega), rd_nat hlt, if_pos h0]; rfl)
    · rw [decide_eq_true (show last < s.f3[j] by omega), Bool.true_and]
      by_cases h1 : s.f3[j] ≥ n
      · rw [decide_eq_false (show ¬ s.f3[j] < n by omega)]
        exact ev_some (fun k => by simp only [fascineref14_Form.l1]; rw [if_pos (by omega), if_pos (by omega), rd_nat hlt, if_neg h0, if_pos h1]; rfl)
      · rw [decide_eq_true (show s.f3[j] < n by omega), Bool.true_and]
        exact Ev.step (fun k => by simp only [fascineref14_Form.l1]; rw [if_pos (by omega), if_pos (by omega), rd_nat hlt, if_neg h0, if_neg h1, w64s hlt (by omega)]) (ih (j + 1) s.f3[j] (by omega) (by omega))
theorem rform_rows (n : Int) (l : List S42) (hl : l.length ≤ 8) (hs : ∀ s ∈ l, Small s) : ∀ (d i : Nat), l.length - i = d → i ≤ l.length → Ev (fun k => fascineref14_Form.l0 k (i : Int) n l) ((l.drop i).all (rowOk n)) := by
  intro d
  induction d with
  | zero =>
    intro i hd hi
    rw [List.drop_of_length_le (by omega)]
    exact ev_some (fun k => by simp only [fascineref14_Form.l0]; rw [if_neg (by omega)]; rfl)
  | succ d ih =>
    intro i hd hi
    have hlt : i < l.length := by omega
    have ht := ih (i + 1) (by omega) (by omega)
    rw [← w64s hlt (by omega)] at ht
    have hsm := hs _ (List.getElem_mem hlt)
    have hr := rform_row n l i l[i] _ (by unfold Small at hsm; omega) hsm.1 ht l[i].f3.length 0 (-1) (by omega) (by omega)
    rw [List.drop_eq_getElem_cons hlt]
    simp only [List.all_cons]
    refine Ev.step (fun k => ?_) hr
    simp only [fascineref14_Form.l0]
    rw [if_pos (by omega), if_pos (by omega), rdT_nat hlt]
    rfl
theorem refForm_ev (n : Int) (l : List S42) (hl : l.length ≤ 9223372036854775807) (hs : ∀ s ∈ l, Small s) : Ev (fun k => fascineref14_Form.f k n l) (tabOk n l) := by
  have hno : Ev (fun k => fascineref14_Form.j0 k true n l) false := ev_some (fun k => by simp only [fascineref14_Form.j0]; rw [if_pos trivial])
  unfold tabOk
  by_cases h1 : n < 1
  · rw [decide_eq_false (by omega)]; exact Ev.congr (fun k => by unfold fascineref14_Form.f; rw [if_pos h1]) hno
  by_cases h2 : n > 5
  · rw [decide_eq_false (by omega)]; exact Ev.congr (fun k => by unfold fascineref14_Form.f; rw [if_neg h1, if_pos h2]) hno
  by_cases h3 : (l.length : Int) < 1
  · rw [decide_eq_false (by omega)]; exact Ev.congr (fun k => by unfold fascineref14_Form.f; rw [if_neg h1, if_neg h2, if_pos h3]) hno
  by_cases h4 : (l.length : Int) > 8
  · rw [decide_eq_false (by omega)]; exact Ev.congr (fun k => by unfold fascineref14_Form.f; rw [if_neg h1, if_neg h2, if_neg h3, decide_eq_true h4]) hno
  · rw [decide_eq_true (by omega), Bool.true_and]
    refine Ev.congr (f := fun k => fascineref14_Form.j0 k false n l) (fun k => by unfold fascineref14_Form.f; rw [if_neg h1, if_neg h2, if_neg h3, decide_eq_false h4]) ?_
    refine Ev.step (f := fun k => fascineref14_Form.l0 k 0 n l) (fun k => by simp only [fascineref14_Form.j0]; rw [if_neg (by decide)]) ?_
    have := rform_rows n l (by omega) hs l.length 0 (by omega) (by omega)
    rw [List.drop_zero] at this
    exact this

theorem chk_mem {n : Int} : ∀ {l : List Int} {last : Int}, chk n last l = true → ∀ x ∈ l, last < x ∧ x < n
  | [], _, _, x, hx => by simp at hx
  | y :: t, last, h, x, hx => by
    simp only [chk, Bool.and_eq_true, decide_eq_true_eq] at h
    rcases List.mem_cons.1 hx with rfl | hx
    · exact ⟨h.1, h.2.1⟩
    · have := chk_mem h.2.2 x hx; omega
theorem rowOk_mem {n : Int} {s : S42} (h : rowOk n s = true) : ∀ x ∈ s.f3, 0 ≤ x ∧ x < n := by
  intro x hx
  unfold rowOk at h
  simp only [Bool.and_eq_true] at h
  have := chk_mem h.1 x hx
  omega
def incL (ld : List Int) (x : Int) : List Int := ld.set x.toNat (rd ld x + 1)
def loadR (ld : List Int) (xs : List Int) : List Int := xs.foldl incL ld
def loadT (ld : List Int) (l : List S42) : List Int := l.foldl (fun ld s => loadR ld s.f3) ld
def pk (ld : List Int) : Nat → Nat → Int → Int → Int × Int
  | 0, _, f, t => (f, t)
  | d + 1, j, f, t => if rd ld (j : Int) > rd ld f then (if rd ld (j : Int) < rd ld t then pk ld d (j + 1) j j else pk ld d (j + 1) j t) else (if rd ld (j : Int) < rd ld t then pk ld d (j + 1) f j else pk ld d (j + 1) f t)
def mv (f t : Int) : List S42 → Nat → Int × Int × Int × Bool
  | [], _ => (0, 0, 0, false)
  | s :: r, i => if f ∈ s.f3 ∧ t ∉ s.f3 then ((i : Int), f, t, true) else mv f t r (i + 1)
def planL (ld : List Int) (l : List S42) (f t : Int) : Int × Int × Int × Bool := if rd ld f > rd ld t + 1 then mv f t l 0 else (0, 0, 0, false)
def plan (n : Int) (l : List S42) : Int × Int × Int × Bool :=
  if tabOk n l = true then planL (loadT (List.replicate n.toNat 0) l) l (pk (loadT (List.replicate n.toNat 0) l) n.toNat 0 0 0).1 (pk (loadT (List.replicate n.toNat 0) l) n.toNat 0 0 0).2 else (0, 0, 0, false)
def Bd (n : Int) (ld : List Int) (c : Nat) : Prop := ld.length = n.toNat ∧ ∀ x ∈ ld, 0 ≤ x ∧ x ≤ (c : Int)
theorem rd_mem {l : List Int} {x : Int} (h0 : 0 ≤ x) (h : x < (l.length : Int)) : rd l x ∈ l := by
  obtain ⟨j, rfl⟩ := Int.eq_ofNat_of_zero_le h0
  rw [rd_nat (by omega)]
  exact List.getElem_mem _
theorem Bd.inc {n : Int} {ld : List Int} {c : Nat} (h : Bd n ld c) {x : Int} (h0 : 0 ≤ x) (h1 : x < n) : Bd n (incL ld x) (c + 1) := by
  refine ⟨by unfold incL; rw [List.length_set]; exact h.1, fun y hy => ?_⟩
  have hr := h.2 _ (rd_mem (l := ld) h0 (by rw [h.1]; omega))
  unfold incL at hy
  rcases List.mem_or_eq_of_mem_set hy with hy | rfl
  · have := h.2 y hy; omega
  · omega
theorem Bd.row {n : Int} : ∀ {xs : List Int} {ld : List Int} {c : Nat}, Bd n ld c → (∀ x ∈ xs, 0 ≤ x ∧ x < n) → Bd n (loadR ld xs) (c + xs.length)
  | [], ld, c, h, _ => h
  | x :: t, ld, c, h, hx => by
    have := Bd.row (h.inc (hx x (by simp)).1 (hx x (by simp)).2) (fun y hy => hx y (by simp [hy])) (xs := t)
    have e : c + 1 + t.length = c + (x :: t).length := by simp; omega
    rw [e] at this
    exact this
theorem plan_row (n : Int) (l : List S42) (i : Nat) (s : S42) (r : Int × Int × Int × Bool) (hs : ∀ x ∈ s.f3, 0 ≤ x ∧ x < n) (hn : 0 ≤ n) (hl3 : s.f3.length ≤ 17592186043904) :
    ∀ (d j : Nat) (ld : List Int) (c : Nat), s.f3.length - j = d → j ≤ s.f3.length → Bd n ld c → c + d ≤ 4611686018427387904 →
    Ev (fun k => meta_Plan.l0 k 0 0 (loadR ld (s.f3.drop j)) l (l.length : Int) (wrap64 ((i : Int) + 1)) n l) r →
    Ev (fun k => meta_Plan.l1 k 0 0 ld l (l.length : Int) (i : Int) s.f3 (s.f3.length : Int) (j : Int) n l) r := by
  intro d
  induction d with
  | zero =>
    intro j ld c hd hj hb hc ht
    rw [List.drop_of_length_le (by omega)] at ht
    exact Ev.step (fun k => by simp only [meta_Plan.l1]; rw [if_neg (by omega)]; rfl) ht
  | succ d ih =>
    intro j ld c hd hj hb hc ht
    have hlt : j < s.f3.length := by omega
    have hx := hs _ (List.getElem_mem hlt)
    rw [List.drop_eq_getElem_cons hlt] at ht
    have hb2 := hb.inc hx.1 hx.2
    have hr := hb.2 _ (rd_mem (l := ld) hx.1 (by rw [hb.1]; omega))
    refine Ev.step (fun k => ?_) (ih (j + 1) (incL ld s.f3[j]) (c + 1) (by omega) (by omega) hb2 (by omega) ht)
    simp only [meta_Plan.l1]
    rw [if_pos (by omega), if_pos (by omega), if_pos (by omega), rd_nat hlt, if_pos hx.1, if_pos (by rw [hb.1]; omega), w64s hlt (by omega), w64 (x := rd ld s.f3[j] + 1) (by omega) (by omega)]
    rfl
theorem plan_rows (n : Int) (l : List S42) (r : Int × Int × Int × Bool) (hn : 0 ≤ n) (hl : l.length ≤ 8) (hs : ∀ s ∈ l, s.f3.length ≤ 17592186043904 ∧ ∀ x ∈ s.f3, 0 ≤ x ∧ x < n) :
    ∀ (d i : Nat) (ld : List Int) (c : Nat), l.length - i = d → i ≤ l.length → Bd n ld c → c + d * 17592186043904 ≤ 4611686018427387904 →
    Ev (fun k => meta_Plan.l2 k 0 0 (loadT ld (l.drop i)) ((loadT ld (l.drop i)).length : Int) 0 n l) r →
    Ev (fun k => meta_Plan.l0 k 0 0 ld l (l.length : Int) (i : Int) n l) r := by
  intro d
  induction d with
  | zero =>
    intro i ld c hd hi hb hc ht
    rw [List.drop_of_length_le (by omega)] at ht
    exact Ev.step (fun k => by simp only [meta_Plan.l0]; rw [if_neg (by omega)]; rfl) ht
  | succ d ih =>
    intro i ld c hd hi hb hc ht
    have hlt : i < l.length := by omega
    have hsi := hs _ (List.getElem_mem hlt)
    rw [List.drop_eq_getElem_cons hlt] at ht
    have h1 := ih (i + 1) (loadR ld l[i].f3) (c + l[i].f3.length) (by omega) (by omega) (hb.row hsi.2) (by omega) ht
    rw [← w64s hlt (by omega)] at h1
    have h2 := plan_row n l i l[i] r hsi.2 hn hsi.1 l[i].f3.length 0 ld c (by omega) (by omega) hb (by omega) (by rw [List.drop_zero]; exact h1)
    refine Ev.step (fun k => ?_) h2
    simp only [meta_Plan.l0]
    rw [if_pos (by omega), if_pos (by omega), if_pos (by omega), rdT_nat hlt]
    rfl
theorem pk_bd {ld : List Int} {N : Nat} : ∀ (d j : Nat) (f t : Int), j + d = N → 0 ≤ f → f < N → 0 ≤ t → t < N → 0 ≤ (pk ld d j f t).1 ∧ (pk ld d j f t).1 < N ∧ 0 ≤ (pk ld d j f t).2 ∧ (pk ld d j f t).2 < N
  | 0, _, f, t, _, h1, h2, h3, h4 => ⟨h1, h2, h3, h4⟩
  | d + 1, j, f, t, hj, h1, h2, h3, h4 => by
    simp only [pk]
    split
    · split
      · exact pk_bd d (j + 1) _ _ (by omega) (by omega) (by omega) (by omega) (by omega)
      · exact pk_bd d (j + 1) _ _ (by omega) (by omega) (by omega) (by omega) (by omega)
    · split
      · exact pk_bd d (j + 1) _ _ (by omega) (by omega) (by omega) (by omega) (by omega)
      · exact pk_bd d (j + 1) _ _ (by omega) (by omega) (by omega) (by omega) (by omega)
theorem plan_pick (n : Int) (l : List S42) (ld : List Int) (r : Int × Int × Int × Bool) (hln : ld.length ≤ 5) : ∀ (d j : Nat) (f t : Int), ld.length - j = d → j ≤ ld.length → 0 ≤ f → f < ld.length → 0 ≤ t → t < ld.length →
    Ev (fun k => meta_Plan.l3 k (pk ld d j f t).1 (pk ld d j f t).2 ld l (l.length : Int) 0) r →
    Ev (fun k => meta_Plan.l2 k f t ld (ld.length : Int) (j : Int) n l) r := by
  intro d
  induction d with
  | zero =>
    intro j f t hd hj h1 h2 h3 h4 ht
    exact Ev.step (fun k => by simp only [meta_Plan.l2]; rw [if_neg (by omega)]; rfl) ht
  | succ d ih =>
    intro j f t hd hj h1 h2 h3 h4 ht
    have hlt : j < ld.length := by omega
    simp only [pk] at ht
    by_cases c1 : rd ld (j : Int) > rd ld f
    · simp only [if_pos c1] at ht
      by_cases c2 : rd ld (j : Int) < rd ld t
      · simp only [if_pos c2] at ht
        exact Ev.step (fun k => by simp only [meta_Plan.l2]; rw [if_pos (by omega), if_pos (by omega), if_pos (by omega), if_pos h1, if_pos h2, if_pos c1, if_pos h3, if_pos h4, if_pos c2, w64s hlt (by omega)]) (ih (j + 1) _ _ (by omega) (by omega) (by omega) (by omega) (by omega) (by omega) ht)
      · simp only [if_neg c2] at ht
        exact Ev.step (fun k => by simp only [meta_Plan.l2]; rw [if_pos (by omega), if_pos (by omega), if_pos (by omega), if_pos h1, if_pos h2, if_pos c1, if_pos h3, if_pos h4, if_neg c2, w64s hlt (by omega)]) (ih (j + 1) _ _ (by omega) (by omega) (by omega) (by omega) (by omega) (by omega) ht)
    · simp only [if_neg c1] at ht
      by_cases c2 : rd ld (j : Int) < rd ld t
      · simp only [if_pos c2] at ht
        exact Ev.step (fun k => by simp only [meta_Plan.l2]; rw [if_pos (by omega), if_pos (by omega), if_pos (by omega), if_pos h1, if_pos h2, if_neg c1, if_pos h3, if_pos h4, if_pos c2, w64s hlt (by omega)]) (ih (j + 1) _ _ (by omega) (by omega) (by omega) (by omega) (by omega) (by omega) ht)
      · simp only [if_neg c2] at ht
        exact Ev.step (fun k => by simp only [meta_Plan.l2]; rw [if_pos (by omega), if_pos (by omega), if_pos (by omega), if_pos h1, if_pos h2, if_neg c1, if_pos h3, if_pos h4, if_neg c2, w64s hlt (by omega)]) (ih (j + 1) _ _ (by omega) (by omega) (by omega) (by omega) (by omega) (by omega) ht)
theorem plan_move (l : List S42) (ld : List Int) (f t : Int) (hl : l.length ≤ 8) (hs : ∀ s ∈ l, s.f3.length ≤ 4611686018427387904) (h1 : 0 ≤ f) (h2 : f < ld.length) (h3 : 0 ≤ t) (h4 : t < ld.length) (hb : -4611686018427387904 ≤ rd ld t ∧ rd ld t ≤ 4611686018427387904) :
    ∀ (d i : Nat), l.length - i = d → i ≤ l.length → Ev (fun k => meta_Plan.l3 k f t ld l (l.length : Int) (i : Int)) (if rd ld f > rd ld t + 1 then mv f t (l.drop i) i else (0, 0, 0, false)) := by
  intro d
  induction d with
  | zero =>
    intro i hd hi
    rw [List.drop_of_length_le (by omega)]
    exact ev_some (fun k => by simp only [meta_Plan.l3]; rw [if_neg (by omega)]; simp [mv])
  | succ d ih =>
    intro i hd hi
    have hlt : i < l.length := by omega
    have ht := ih (i + 1) (by omega) (by omega)
    have hsi := hs _ (List.getElem_mem hlt)
    have hw : wrap64 (rd ld t + 1) = rd ld t + 1 := w64 (by omega) (by omega)
    have step : ∀ k, meta_Plan.l3 (k + 1) f t ld l (l.length : Int) (i : Int) = if rd ld f > rd ld t + 1 then ((slices_Contains_int_int.f k l[i].f3 f).bind fun u => if u = true then ((slices_Contains_int_int.f k l[i].f3 t).bind fun v => if v = true then meta_Plan.l3 k f t ld l (l.length : Int) ((i + 1 : Nat) : Int) else some ((i : Int), f, t, true)) else meta_Plan.l3 k f t ld l (l.length : Int) ((i + 1 : Nat) : Int)) else meta_Plan.l3 k f t ld l (l.length : Int) ((i + 1 : Nat) : Int) := by
      intro k
      simp only [meta_Plan.l3]
      rw [if_pos (by omega), if_pos (by omega), if_pos (by omega), if_pos h1, if_pos h2, if_pos h3, if_pos h4, hw, rdT_nat hlt, w64s hlt (by omega)]
    rw [List.drop_eq_getElem_cons hlt]
    by_cases c : rd ld f > rd ld t + 1
    · rw [if_pos c] at ht ⊢
      simp only [if_pos c] at step
      refine Ev.step step ?_
      refine Ev.bind (f := fun k u => if u = true then ((slices_Contains_int_int.f k l[i].f3 t).bind fun v => if v = true then meta_Plan.l3 k f t ld l (l.length : Int) ((i + 1 : Nat) : Int) else some ((i : Int), f, t, true)) else meta_Plan.l3 k f t ld l (l.length : Int) ((i + 1 : Nat) : Int)) (contains_ev l[i].f3 f hsi) ?_
      simp only [mv]
      by_cases m1 : f ∈ l[i].f3
      · simp only [m1, decide_true, if_true, true_and]
        refine Ev.bind (f := fun k v => if v = true then meta_Plan.l3 k f t ld l (l.length : Int) ((i + 1 : Nat) : Int) else some ((i : Int), f, t, true)) (contains_ev l[i].f3 t hsi) ?_
        by_cases m2 : t ∈ l[i].f3
        · simp only [m2, decide_true, if_true, not_true_eq_false, if_false]; exact ht
        · simp only [m2, decide_false, not_false_eq_true, if_true, Bool.false_eq_true, if_false]; exact Ev.now _
      · simp only [m1, decide_false, Bool.false_eq_true, if_false, false_and]; exact ht
    · rw [if_neg c] at ht ⊢
      simp only [if_neg c] at step
      exact Ev.step step ht
theorem loadT_bd {n : Int} : ∀ {l : List S42} {ld : List Int} {c : Nat}, Bd n ld c → (∀ s ∈ l, s.f3.length ≤ 17592186043904 ∧ ∀ x ∈ s.f3, 0 ≤ x ∧ x < n) → ∃ c', Bd n (loadT ld l) c' ∧ c' ≤ c + l.length * 17592186043904
  | [], ld, c, h, _ => ⟨c, h, by simp⟩
  | s :: r, ld, c, h, hs => by
    obtain ⟨c', h1, h2⟩ := loadT_bd (l := r) (h.row (hs s (by simp)).2) (fun s hs' => hs s (by simp [hs']))
    refine ⟨c', h1, ?_⟩
    have := (hs s (by simp)).1
    simp only [List.length_cons]
    omega
theorem Bd.zero (n : Int) : Bd n (List.replicate n.toNat 0) 0 := ⟨by simp, fun x hx => by have := (List.mem_replicate.1 hx).2; omega⟩
theorem tabOk_parts {n : Int} {l : List S42} (h : tabOk n l = true) : 1 ≤ n ∧ n ≤ 5 ∧ 1 ≤ l.length ∧ l.length ≤ 8 ∧ ∀ s ∈ l, rowOk n s = true := by
  unfold tabOk at h
  simp only [Bool.and_eq_true, decide_eq_true_eq, List.all_eq_true] at h
  exact ⟨h.1.1, h.1.2.1, h.1.2.2.1, h.1.2.2.2, h.2⟩
theorem meta_Plan_ev (n : Int) (l : List S42) (hl : l.length ≤ 9223372036854775807) (hs : ∀ s ∈ l, Small s) : Ev (fun k => meta_Plan.f k n l) (plan n l) := by
  unfold meta_Plan.f
  refine Ev.bind (f := fun k t => if t = true then (if 0 ≤ n then (if (n : Int).toNat ≤ 35184372088832 then (meta_Plan.l0 k 0 0 (List.replicate (n : Int).toNat 0) l (l.length : Int) 0 n l) else (none)) else (none)) else (some (0, 0, 0, false))) (meta_Form_ev n l hl hs) ?_
  unfold plan
  by_cases h : tabOk n l = true
  · obtain ⟨h1, h2, h3, h4, h5⟩ := tabOk_parts h
    have hsx : ∀ s ∈ l, s.f3.length ≤ 17592186043904 ∧ ∀ x ∈ s.f3, 0 ≤ x ∧ x < n := fun s hsl => ⟨(hs s hsl).2, rowOk_mem (h5 s hsl)⟩
    obtain ⟨c, hb, hc⟩ := loadT_bd (Bd.zero n) hsx
    simp only [if_pos h, if_pos (show 0 ≤ n by omega), if_pos (show n.toNat ≤ 35184372088832 by omega)]
    generalize hld : loadT (List.replicate n.toNat 0) l = ld at *
    have hN := hb.1
    have hp := pk_bd (ld := ld) (N := n.toNat) n.toNat 0 0 0 (by omega) (by omega) (by omega) (by omega) (by omega)
    have ht := hb.2 _ (rd_mem (l := ld) hp.2.2.1 (by rw [hN]; exact hp.2.2.2))
    have hm := plan_move l ld (pk ld n.toNat 0 0 0).1 (pk ld n.toNat 0 0 0).2 h4 (fun s hsl => by have := (hsx s hsl).1; omega) hp.1 (by rw [hN]; exact hp.2.1) hp.2.2.1 (by rw [hN]; exact hp.2.2.2) ⟨by omega, by omega⟩ l.length 0 (by omega) (by omega)
    rw [List.drop_zero] at hm
    have hpk := plan_pick n l ld _ (by omega) n.toNat 0 0 0 (by omega) (by omega) (by omega) (by omega) (by omega) (by omega) hm
    have hr := plan_rows n l _ (by omega) h4 hsx l.length 0 (List.replicate n.toNat 0) 0 (by omega) (by omega) (Bd.zero n) (by omega) (by rw [List.drop_zero, hld]; exact hpk)
    exact hr
  · simp only [if_neg h]
    exact Ev.now _

theorem rplan_row (n : Int) (l : List S42) (i : Nat) (hi : i < l.length) (r : Int × Int × Int × Bool) (hs : ∀ x ∈ l[i].f3, 0 ≤ x ∧ x < n) (hn : 0 ≤ n) (hl3 : l[i].f3.length ≤ 17592186043904) :
    ∀ (d j : Nat) (ld : List Int) (c : Nat), l[i].f3.length - j = d → j ≤ l[i].f3.length → Bd n ld c → c + d ≤ 4611686018427387904 →
    Ev (fun k => fascineref14_Plan.l0 k (loadR ld (l[i].f3.drop j)) 0 0 (wrap64 ((i : Int) + 1)) n l) r →
    Ev (fun k => fascineref14_Plan.l1 k ld 0 0 (i : Int) (j : Int) n l) r := by
  intro d
  induction d with
  | zero =>
    intro j ld c hd hj hb hc ht
    rw [List.drop_of_length_le (by omega)] at ht
    exact Ev.step (fun k => by simp only [fascineref14_Plan.l1]; rw [if_pos (by omega), if_pos (by omega), rdT_nat hi, if_neg (by omega)]; rfl) ht
  | succ d ih =>
    intro j ld c hd hj hb hc ht
    have hlt : j < l[i].f3.length := by omega
    have hx := hs _ (List.getElem_mem hlt)
    rw [List.drop_eq_getElem_cons hlt] at ht
    have hb2 := hb.inc hx.1 hx.2
    have hr := hb.2 _ (rd_mem (l := ld) hx.1 (by rw [hb.1]; omega))
    refine Ev.step (fun k => ?_) (ih (j + 1) (incL ld l[i].f3[j]) (c + 1) (by omega) (by omega) hb2 (by omega) ht)
    simp only [fascineref14_Plan.l1]
    rw [if_pos (by omega), if_pos (by omega), rdT_nat hi, if_pos (by omega), if_pos (by omega), rd_nat hlt, if_pos hx.1, if_pos (by rw [hb.1]; omega), w64s hlt (by omega), w64 (x := rd ld l[i].f3[j] + 1) (by omega) (by omega)]
    rfl
theorem rplan_rows (n : Int) (l : List S42) (r : Int × Int × Int × Bool) (hn : 0 ≤ n) (hl : l.length ≤ 8) (hs : ∀ s ∈ l, s.f3.length ≤ 17592186043904 ∧ ∀ x ∈ s.f3, 0 ≤ x ∧ x < n) :
    ∀ (d i : Nat) (ld : List Int) (c : Nat), l.length - i = d → i ≤ l.length → Bd n ld c → c + d * 17592186043904 ≤ 4611686018427387904 →
    Ev (fun k => fascineref14_Plan.l2 k (loadT ld (l.drop i)) 0 0 1 n l) r →
    Ev (fun k => fascineref14_Plan.l0 k ld 0 0 (i : Int) n l) r := by
  intro d
  induction d with
  | zero =>
    intro i ld c hd hi hb hc ht
    rw [List.drop_of_length_le (by omega)] at ht
    exact Ev.step (fun k => by simp only [fascineref14_Plan.l0]; rw [if_neg (by omega)]; rfl) ht
  | succ d ih =>
    intro i ld c hd hi hb hc ht
    have hlt : i < l.length := by omega
    have hsi := hs _ (List.getElem_mem hlt)
    rw [List.drop_eq_getElem_cons hlt] at ht
    have h1 := ih (i + 1) (loadR ld l[i].f3) (c + l[i].f3.length) (by omega) (by omega) (hb.row hsi.2) (by omega) ht
    rw [← w64s hlt (by omega)] at h1
    have h2 := rplan_row n l i hlt r hsi.2 hn hsi.1 l[i].f3.length 0 ld c (by omega) (by omega) hb (by omega) (by rw [List.drop_zero]; exact h1)
    refine Ev.step (fun k => ?_) h2
    simp only [fascineref14_Plan.l0]
    rw [if_pos (by omega)]
    rfl
theorem rplan_move (n : Int) (l : List S42) (f t : Int) (hl : l.length ≤ 8) (hs : ∀ s ∈ l, s.f3.length ≤ 4611686018427387904) :
    ∀ (d i : Nat), l.length - i = d → i ≤ l.length → Ev (fun k => fascineref14_Plan.l3 k f t (i : Int) n l) (mv f t (l.drop i) i) := by
  intro d
  induction d with
  | zero =>
    intro i hd hi
    rw [List.drop_of_length_le (by omega)]
    exact ev_some (fun k => by simp only [fascineref14_Plan.l3]; rw [if_neg (by omega)]; simp [mv])
  | succ d ih =>
    intro i hd hi
    have hlt : i < l.length := by omega
    have ht := ih (i + 1) (by omega) (by omega)
    have hsi := hs _ (List.getElem_mem hlt)
    rw [List.drop_eq_getElem_cons hlt]
    refine Ev.step (f := fun k => (fascineref14_In.f k l[i].f0 l[i].f1 l[i].f2 l[i].f3 f).bind fun u => if u = true then ((fascineref14_In.f k l[i].f0 l[i].f1 l[i].f2 l[i].f3 t).bind fun v => if v = true then fascineref14_Plan.l3 k f t ((i + 1 : Nat) : Int) n l else some ((i : Int), f, t, true)) else fascineref14_Plan.l3 k f t ((i + 1 : Nat) : Int) n l) (fun k => by simp only [fascineref14_Plan.l3]; rw [if_pos (by omega), if_pos (by omega), rdT_nat hlt, w64s hlt (by omega)]) ?_
    refine Ev.bind (f := fun k u => if u = true then ((fascineref14_In.f k l[i].f0 l[i].f1 l[i].f2 l[i].f3 t).bind fun v => if v = true then fascineref14_Plan.l3 k f t ((i + 1 : Nat) : Int) n l else some ((i : Int), f, t, true)) else fascineref14_Plan.l3 k f t ((i + 1 : Nat) : Int) n l) (in_ev _ _ _ f l[i].f3 hsi) ?_
    simp only [mv]
    by_cases m1 : f ∈ l[i].f3
    · simp only [m1, decide_true, if_true, true_and]
      refine Ev.bind (f := fun k v => if v = true then fascineref14_Plan.l3 k f t ((i + 1 : Nat) : Int) n l else some ((i : Int), f, t, true)) (in_ev _ _ _ t l[i].f3 hsi) ?_
      by_cases m2 : t ∈ l[i].f3
      · simp only [m2, decide_true, if_true, not_true_eq_false, if_false]; exact ht
      · simp only [m2, decide_false, not_false_eq_true, if_true, Bool.false_eq_true, if_false]; exact Ev.now _
    · simp only [m1, decide_false, Bool.false_eq_true, if_false, false_and]; exact ht
theorem rplan_pick (n : Int) (l : List S42) (ld : List Int) (hn : ld.length = n.toNat) (hln : n ≤ 5) (hn0 : 0 ≤ n) (hb : ∀ x ∈ ld, 0 ≤ x ∧ x ≤ 4611686018427387904) (hl : l.length ≤ 8) (hs : ∀ s ∈ l, s.f3.length ≤ 4611686018427387904) : ∀ (d j : Nat) (f t : Int), ld.length - j = d → j ≤ ld.length → 0 ≤ f → f < ld.length → 0 ≤ t → t < ld.length →
    Ev (fun k => fascineref14_Plan.l2 k ld f t (j : Int) n l) (planL ld l (pk ld d j f t).1 (pk ld d j f t).2) := by
  intro d
  induction d with
  | zero =>
    intro j f t hd hj h1 h2 h3 h4
    have hf := hb _ (rd_mem h1 h2)
    have htt := hb _ (rd_mem h3 h4)
    have hw : wrap64 (rd ld f - rd ld t) = rd ld f - rd ld t := w64 (by omega) (by omega)
    show Ev _ (planL ld l f t)
    unfold planL
    have step : ∀ k, fascineref14_Plan.l2 (k + 1) ld f t (j : Int) n l = if rd ld f - rd ld t < 2 then some (0, 0, 0, false) else fascineref14_Plan.l3 k f t 0 n l := by
      intro k
      simp only [fascineref14_Plan.l2]
      rw [if_neg (by omega), if_pos h1, if_pos h2, if_pos h3, if_pos h4, hw]
    by_cases c : rd ld f - rd ld t < 2
    · simp only [if_pos c] at step
      rw [if_neg (by omega)]
      exact ev_some step
    · simp only [if_neg c] at step
      rw [if_pos (by omega)]
      have hm := rplan_move n l f t hl hs l.length 0 (by omega) (by omega)
      rw [List.drop_zero] at hm
      exact Ev.step step hm
  | succ d ih =>
    intro j f t hd hj h1 h2 h3 h4
    have hlt : j < ld.length := by omega
    simp only [pk]
    by_cases c1 : rd ld (j : Int) > rd ld f
    · simp only [if_pos c1]
      by_cases c2 : rd ld (j : Int) < rd ld t
      · simp only [if_pos c2]
        exact Ev.step (fun k => by simp only [fascineref14_Plan.l2]; rw [if_pos (by omega), if_pos (by omega), if_pos (by omega), if_pos h1, if_pos h2, if_pos c1, if_pos h3, if_pos h4, if_pos c2, w64s hlt (by omega)]) (ih (j + 1) _ _ (by omega) (by omega) (by omega) (by omega) (by omega) (by omega))
      · simp only [if_neg c2]
        exact Ev.step (fun k => by simp only [fascineref14_Plan.l2]; rw [if_pos (by omega), if_pos (by omega), if_pos (by omega), if_pos h1, if_pos h2, if_pos c1, if_pos h3, if_pos h4, if_neg c2, w64s hlt (by omega)]) (ih (j + 1) _ _ (by omega) (by omega) (by omega) (by omega) (by omega) (by omega))
    · simp only [if_neg c1]
      by_cases c2 : rd ld (j : Int) < rd ld t
      · simp only [if_pos c2]
        exact Ev.step (fun k => by simp only [fascineref14_Plan.l2]; rw [if_pos (by omega), if_pos (by omega), if_pos (by omega), if_pos h1, if_pos h2, if_neg c1, if_pos h3, if_pos h4, if_pos c2, w64s hlt (by omega)]) (ih (j + 1) _ _ (by omega) (by omega) (by omega) (by omega) (by omega) (by omega))
      · simp only [if_neg c2]
        exact Ev.step (fun k => by simp only [fascineref14_Plan.l2]; rw [if_pos (by omega), if_pos (by omega), if_pos (by omega), if_pos h1, if_pos h2, if_neg c1, if_pos h3, if_pos h4, if_neg c2, w64s hlt (by omega)]) (ih (j + 1) _ _ (by omega) (by omega) (by omega) (by omega) (by omega) (by omega))
theorem refPlan_ev (n : Int) (l : List S42) (hl : l.length ≤ 9223372036854775807) (hs : ∀ s ∈ l, Small s) : Ev (fun k => fascineref14_Plan.f k n l) (plan n l) := by
  unfold fascineref14_Plan.f
  refine Ev.bind (f := fun k t => if t = true then (if 0 ≤ n then (if (n : Int).toNat ≤ 35184372088832 then (fascineref14_Plan.l0 k (List.replicate (n : Int).toNat 0) 0 0 0 n l) else (none)) else (none)) else (some (0, 0, 0, false))) (refForm_ev n l hl hs) ?_
  unfold plan
  by_cases h : tabOk n l = true
  · obtain ⟨h1, h2, h3, h4, h5⟩ := tabOk_parts h
    have hsx : ∀ s ∈ l, s.f3.length ≤ 17592186043904 ∧ ∀ x ∈ s.f3, 0 ≤ x ∧ x < n := fun s hsl => ⟨(hs s hsl).2, rowOk_mem (h5 s hsl)⟩
    obtain ⟨c, hb, hc⟩ := loadT_bd (Bd.zero n) hsx
    simp only [if_pos h, if_pos (show 0 ≤ n by omega), if_pos (show n.toNat ≤ 35184372088832 by omega)]
    generalize hld : loadT (List.replicate n.toNat 0) l = ld at *
    have hN := hb.1
    have hpk := rplan_pick n l ld hN h2 (by omega) (fun x hx => by have := hb.2 x hx; omega) h4 (fun s hsl => by have := (hsx s hsl).1; omega) (n.toNat - 1) 1 0 0 (by omega) (by omega) (by omega) (by omega) (by omega) (by omega)
    have e : pk ld n.toNat 0 0 0 = pk ld (n.toNat - 1) 1 0 0 := by
      obtain ⟨m, hm⟩ : ∃ m, n.toNat = m + 1 := ⟨n.toNat - 1, by omega⟩
      rw [hm, Nat.add_sub_cancel]
      simp only [pk]
      rw [if_neg (by simp), if_neg (by simp)]
    rw [e]
    have hr := rplan_rows n l _ (by omega) h4 hsx l.length 0 (List.replicate n.toNat 0) 0 (by omega) (by omega) (Bd.zero n) (by omega) (by rw [List.drop_zero, hld]; exact hpk)
    exact hr
  · simp only [if_neg h]
    exact Ev.now _

theorem MetaPlans : MetaPlans_PureS := by
  intro n l wn hl
  obtain ⟨hl, hall⟩ := hl
  have hs : ∀ s ∈ l, Small s := by
    intro s h
    have := hall s h
    unfold WF42 at this
    have h1 := wf_u64 this.2.1
    have h3 := this.2.2.2.1
    exact ⟨h1.1, by omega⟩
  have haw : Ev (fun k => fascinelaw14_awake.f k) true := ⟨40, fun k hk => fascinelaw14_awake_is hk⟩
  refine Ev.rounds (g := fun k => fascinelaw14_MetaPlans.f k n l) ?_
  unfold fascinelaw14_MetaPlans.f
  refine Ev.bind (f := fun k t => if t = true then (meta_Plan.f k n l).bind fun b => (fascineref14_Plan.f k n l).bind fun c => if b.1 = c.1 then (if b.2.1 = c.2.1 then (if b.2.2.1 = c.2.2.1 then some (b.2.2.2 == c.2.2.2) else some false) else some false) else some false else some false) haw ?_
  simp only [if_true]
  refine Ev.bind (f := fun k b => (fascineref14_Plan.f k n l).bind fun c => if b.1 = c.1 then (if b.2.1 = c.2.1 then (if b.2.2.1 = c.2.2.1 then some (b.2.2.2 == c.2.2.2) else some false) else some false) else some false) (meta_Plan_ev n l (by omega) hs) ?_
  refine Ev.bind (f := fun k c => if (plan n l).1 = c.1 then (if (plan n l).2.1 = c.2.1 then (if (plan n l).2.2.1 = c.2.2.1 then some ((plan n l).2.2.2 == c.2.2.2) else some false) else some false) else some false) (refPlan_ev n l (by omega) hs) ?_
  simp only [if_true, beq_self_eq_true]
  exact Ev.now _

end Go.Proofs.Ytkoaeiiaagipeaa.Pure
