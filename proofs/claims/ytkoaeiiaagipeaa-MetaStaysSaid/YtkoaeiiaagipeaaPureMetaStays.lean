/- On the printed functions of MetaStays: what each of them answers, in plain words. -/
import Derived.Test.YtkoaeiiaagipeaaPMetaStaysx
import Derived.Test.YtkoaeiiaagipeaaMArith
import Derived.Test.YtkoaeiiaagipeaaQMetaStays
namespace Go.Proofs.Ytkoaeiiaagipeaa.Pure
open Go.RowKit Go.Proofs.Ytkoaeiiaagipeaa.PMetaStays Go.Proofs.YtkoaeiiaagipeaaW.PrintWords Go.Proofs.YtkoaeiiaagipeaaW.PrintLast Go.Proofs.YtkoaeiiaagipeaaW.PrintMore Go.Proofs.Ytkoaeiiaagipeaa.M
set_option linter.unusedVariables false
set_option linter.unusedSimpArgs false

theorem fascinelaw14_awake_40 : fascinelaw14_awake.f 40 = some true := by decide +kernel
theorem fascinelaw14_awake_is {k : Nat} (hk : 40 ≤ k) : fascinelaw14_awake.f k = some true := by
  obtain ⟨d, rfl⟩ := Nat.exists_eq_add_of_le hk
  induction d with
  | zero => exact fascinelaw14_awake_40
  | succ d ih => exact fascinelaw14_awake.mono (40 + d) true (ih (by omega))

theorem rd_nat {l : List Int} {j : Nat} (h : j < l.length) : rd l (j : Int) = l[j] := by
  unfold rd
  rw [Int.toNat_natCast, List.getD_eq_getElem?_getD, List.getElem?_eq_getElem h]
  rfl
theorem rdT_nat {l : List S42} {j : Nat} (h : j < l.length) : rd_T42 l (j : Int) = l[j] := by
  unfold rd_T42
  rw [Int.toNat_natCast, List.getD_eq_getElem?_getD, List.getElem?_eq_getElem h]
  rfl
theorem w64s {j n : Nat} (h : j < n) (hn : n ≤ 9223372036854775807) : wrap64 ((j : Int) + 1) = ((j + 1 : Nat) : Int) := by
  rw [w64 (by omega) (by omega)]; omega
theorem ev_some {α : Type} {g : Nat → Option α} {r : α} (h : ∀ k, g (k + 1) = some r) : Ev g r := Ev.step (f := fun _ => some r) h (Ev.now r)
theorem ev_mono {α : Type} {g : Nat → Option α} {r : α} (hg : ∀ k, LeO (g k) (g (k + 1))) {k : Nat} (h : g k = some r) : Ev g r := Ev.of hg h
theorem idx_ev (l : List Int) (a : Int) (hl : l.length ≤ 4611686018427387904) : ∀ (d i : Nat), l.length - i = d → i ≤ l.length → ∃ r : Int, Ev (fun k => slices_Index_int_int.l0 k l a (l.length : Int) (i : Int)) r ∧ (0 ≤ r ↔ a ∈ l.drop i) := by
  intro d
  induction d with
  | zero =>
    intro i hd hi
    refine ⟨-1, ev_some (fun k => ?_), ?_⟩
    · simp only [slices_Index_int_int.l0]; rw [if_neg (by omega)]
    · rw [List.drop_of_length_le (by omega)]; simp
  | succ d ih =>
    intro i hd hi
    have hlt : i < l.length := by omega
    obtain ⟨r, hr, hm⟩ := ih (i + 1) (by omega) (by omega)
    by_cases e : a = l[i]
    · refine ⟨(i : Int), ev_some (fun k => ?_), ?_⟩
      · simp only [slices_Index_int_int.l0]; rw [if_pos (by omega), if_pos (by omega), if_pos (by omega), rd_nat hlt, if_pos e]
      · rw [List.drop_eq_getElem_cons hlt, ← e]; simp
    · refine ⟨r, Ev.step (f := fun k => slices_Index_int_int.l0 k l a (l.length : Int) ((i + 1 : Nat) : Int)) (fun k => ?_) hr, ?_⟩
      · simp only [slices_Index_int_int.l0]; rw [if_pos (by omega), if_pos (by omega), if_pos (by omega), rd_nat hlt, if_neg e, w64s hlt (by omega)]
      · rw [List.drop_eq_getElem_cons hlt, List.mem_cons, hm]; simp [e]
theorem contains_ev (l : List Int) (a : Int) (hl : l.length ≤ 4611686018427387904) : Ev (fun k => slices_Contains_int_int.f k l a) (decide (a ∈ l)) := by
  obtain ⟨r, hr, hm⟩ := idx_ev l a hl l.length 0 (by omega) (by omega)
  have h2 : Ev (fun k => (slices_Index_int_int.f k l a).bind fun t => some (decide (t ≥ 0))) (decide (r ≥ 0)) := Ev.bind (f := fun _ t => some (decide (t ≥ 0))) hr (Ev.now _)
  have e : decide (r ≥ 0) = decide (a ∈ l) := decide_eq_decide.mpr (by rw [List.drop_zero] at hm; exact hm)
  rw [e] at h2
  exact h2
def chk (n last : Int) : List Int → Bool
  | [] => true
  | x :: t => decide (last < x) && (decide (x < n) && chk n x t)
def rowOk (n : Int) (s : S42) : Bool := chk n (-1) s.f3 && (decide (1 ≤ s.f1) && decide (s.f2 ∈ s.f3))
def tabOk (n : Int) (l : List S42) : Bool := decide (1 ≤ n ∧ n ≤ 5 ∧ 1 ≤ l.length ∧ l.length ≤ 8) && l.all (rowOk n)
def prevOf (l : List Int) (j : Nat) : Int := if j = 0 then -1 else l.getD (j - 1) 0
theorem prev_succ {l : List Int} {j : Nat} (h : j < l.length) : prevOf l (j + 1) = l[j] := by
  unfold prevOf
  rw [if_neg (by omega), Nat.add_sub_cancel, List.getD_eq_getElem?_getD, List.getElem?_eq_getElem h]
  rfl
theorem form_row (n : Int) (l : List S42) (i : Nat) (s : S42) (rt : Bool) (hs : s.f3.length ≤ 4611686018427387904)
    (ht : Ev (fun k => meta_Form.l0 k l (l.length : Int) (wrap64 ((i : Int) + 1)) n l) rt) :
    ∀ (d j : Nat), s.f3.length - j = d → j ≤ s.f3.length → (0 < j → 0 ≤ prevOf s.f3 j) →
    Ev (fun k => meta_Form.l1 k l (l.length : Int) (i : Int) s.f3 (s.f3.length : Int) (j : Int) n l s.f0 s.f1 s.f2 s.f3) (chk n (prevOf s.f3 j) (s.f3.drop j) && (decide (1 ≤ s.f1) && decide (s.f2 ∈ s.f3)) && rt) := by
  intro d
  induction d with
  | zero =>
    intro j hd hj _
    rw [List.drop_of_length_le (by omega)]
    by_cases h1 : s.f1 < 1
    · rw [decide_eq_false (show ¬ 1 ≤ s.f1 by omega)]
      exact ev_some (fun k => by simp only [meta_Form.l1]; rw [if_neg (by omega), if_pos h1]; simp [chk])
    · rw [decide_eq_true (show 1 ≤ s.f1 by omega)]
      refine Ev.step (f := fun k => (slices_Contains_int_int.f k s.f3 s.f2).bind fun t => if t = true then meta_Form.l0 k l (l.length : Int) (wrap64 ((i : Int) + 1)) n l else some false) (fun k => by simp only [meta_Form.l1]; rw [if_neg (by omega), if_neg h1]) ?_
      refine Ev.bind (f := fun k t => if t = true then meta_Form.l0 k l (l.length : Int) (wrap64 ((i : Int) + 1)) n l else some false) (contains_ev s.f3 s.f2 hs) ?_
      by_cases hc : s.f2 ∈ s.f3
      · simp only [hc, decide_true, if_true, chk, Bool.true_and]; exact ht
      · simp only [hc, decide_false, chk, Bool.true_and, Bool.false_and]; exact Ev.now _
  | succ d ih =>
    intro j hd hj hp
    have hlt : j < s.f3.length := by omega
    have hdr : s.f3.drop j = s.f3[j] :: s.f3.drop (j + 1) := List.drop_eq_getElem_cons hlt
    rw [hdr]
    simp only [chk]
    have hnext : 0 ≤ s.f3[j] → Ev (fun k => meta_Form.l1 k l (l.length : Int) (i : Int) s.f3 (s.f3.length : Int) ((j + 1 : Nat) : Int) n l s.f0 s.f1 s.f2 s.f3) (chk n s.f3[j] (s.f3.drop (j + 1)) && (decide (1 ≤ s.f1) && decide (s.f2 ∈ s.f3)) && rt) := by
      intro h0
      have := ih (j + 1) (by omega) (by omega) (fun _ => by rw [prev_succ hlt]; exact h0)
      rw [prev_succ hlt] at this
      exact this
    have hJt : Ev (fun k => meta_Form.j3 k l (l.length : Int) (i : Int) s.f3 (s.f3.length : Int) (j : Int) true n l s.f0 s.f1 s.f2 s.f3) false := ev_some (fun k => by simp only [meta_Form.j3]; rw [if_pos trivial])
    have hJf : 0 ≤ s.f3[j] → Ev (fun k => meta_Form.j3 k l (l.length : Int) (i : Int) s.f3 (s.f3.length : Int) (j : Int) false n l s.f0 s.f1 s.f2 s.f3) (chk n s.f3[j] (s.f3.drop (j + 1)) && (decide (1 ≤ s.f1) && decide (s.f2 ∈ s.f3)) && rt) := fun h => Ev.step (fun k => by simp only [meta_Form.j3]; rw [if_neg (by decide), w64s hlt (by omega)]) (hnext h)
    by_cases h0 : s.f3[j] < 0
    · have e : decide (prevOf s.f3 j < s.f3[j]) = false := by
        apply decide_eq_false
        by_cases hj0 : j = 0
        · subst hj0; unfold prevOf; rw [if_pos rfl]; omega
        · have := hp (by omega); omega
      rw [e]
      exact Ev.step (fun k => by simp only [meta_Form.l1]; rw [if_pos (by omega), if_pos (by omega), if_pos (by omega), rd_nat hlt, if_pos h0]) hJt
    · by_cases h1 : s.f3[j] ≥ n
      · rw [decide_eq_false (show ¬ s.f3[j] < n by omega), Bool.false_and, Bool.and_false]
        exact Ev.step (fun k => by simp only [meta_Form.l1]; rw [if_pos (by omega), if_pos (by omega), if_pos (by omega), rd_nat hlt, if_neg h0, if_pos h1]) hJt
      · rw [decide_eq_true (show s.f3[j] < n by omega), Bool.true_and]
        by_cases hj0 : j = 0
        · subst hj0
          rw [decide_eq_true (show prevOf s.f3 0 < s.f3[0] by unfold prevOf; rw [if_pos rfl]; omega), Bool.true_and]
          exact Ev.step (fun k => by simp only [meta_Form.l1]; rw [if_pos (by omega), if_pos (by omega), if_pos (by omega), rd_nat hlt, if_neg h0, if_neg h1, if_neg (by omega)]) (hJf (by omega))
        · have hpj : prevOf s.f3 j = s.f3[j - 1] := by
            unfold prevOf; rw [if_neg hj0, List.getD_eq_getElem?_getD, List.getElem?_eq_getElem (by omega)]; rfl
          have hw : wrap64 ((j : Int) - 1) = ((j - 1 : Nat) : Int) := by rw [w64 (by omega) (by omega)]; omega
          have hrp : rd s.f3 ((j - 1 : Nat) : Int) = s.f3[j - 1] := rd_nat (by omega)
          rw [hpj]
          by_cases h2 : s.f3[j] ≤ s.f3[j - 1]
          · rw [decide_eq_false (show ¬ s.f3[j - 1] < s.f3[j] by omega)]
            exact Ev.step (fun k => by simp only [meta_Form.l1]; rw [if_pos (by omega), if_pos (by omega), if_pos (by omega), rd_nat hlt, if_neg h0, if_neg h1, if_pos (by omega), hw, if_pos (by omega), if_pos (by omega), hrp, decide_eq_true h2]) hJt
          · rw [decide_eq_true (show s.f3[j - 1] < s.f3[j] by omega), Bool.true_and]
            exact Ev.step (fun k => by simp only [meta_Form.l1]; rw [if_pos (by omega), if_pos (by omega), if_pos (by omega), rd_nat hlt, if_neg h0, if_neg h1, if_pos (by omega), hw, if_pos (by omega), if_pos (by omega), hrp, decide_eq_false h2]) (hJf (by omega))
def Small (s : S42) : Prop := 0 ≤ s.f1 ∧ s.f3.length ≤ 17592186043904
theorem form_rows (n : Int) (l : List S42) (hl : l.length ≤ 8) (hs : ∀ s ∈ l, Small s) : ∀ (d i : Nat), l.length - i = d → i ≤ l.length → Ev (fun k => meta_Form.l0 k l (l.length : Int) (i : Int) n l) ((l.drop i).all (rowOk n)) := by
  intro d
  induction d with
  | zero =>
    intro i hd hi
    rw [List.drop_of_length_le (by omega)]
    exact ev_some (fun k => by simp only [meta_Form.l0]; rw [if_neg (by omega)]; rfl)
  | succ d ih =>
    intro i hd hi
    have hlt : i < l.length := by omega
    have ht := ih (i + 1) (by omega) (by omega)
    rw [← w64s hlt (by omega)] at ht
    have hsm := hs _ (List.getElem_mem hlt)
    have hr := form_row n l i l[i] _ (by unfold Small at hsm; omega) ht l[i].f3.length 0 (by omega) (by omega) (fun h => by omega)
    rw [List.drop_eq_getElem_cons hlt]
    simp only [List.all_cons]
    refine Ev.step (fun k => ?_) hr
    simp only [meta_Form.l0]
    rw [if_pos (by omega), if_pos (by omega), if_pos (by omega), rdT_nat hlt]
    rfl
theorem meta_Form_ev (n : Int) (l : List S42) (hl : l.length ≤ 9223372036854775807) (hs : ∀ s ∈ l, Small s) : Ev (fun k => meta_Form.f k n l) (tabOk n l) := by
  have hno : Ev (fun k => meta_Form.j0 k true n l) false := ev_some (fun k => by simp only [meta_Form.j0]; rw [if_pos trivial])
  unfold tabOk
  by_cases h1 : n < 1
  · rw [decide_eq_false (by omega)]; exact Ev.congr (fun k => by unfold meta_Form.f; rw [if_pos h1]) hno
  by_cases h2 : n > 5
  · rw [decide_eq_false (by omega)]; exact Ev.congr (fun k => by unfold meta_Form.f; rw [if_neg h1, if_pos h2]) hno
  by_cases h3 : (l.length : Int) < 1
  · rw [decide_eq_false (by omega)]; exact Ev.congr (fun k => by unfold meta_Form.f; rw [if_neg h1, if_neg h2, if_pos h3]) hno
  by_cases h4 : (l.length : Int) > 8
  · rw [decide_eq_false (by omega)]; exact Ev.congr (fun k => by unfold meta_Form.f; rw [if_neg h1, if_neg h2, if_neg h3, decide_eq_true h4]) hno
  · rw [decide_eq_true (by omega), Bool.true_and]
    refine Ev.congr (f := fun k => meta_Form.j0 k false n l) (fun k => by unfold meta_Form.f; rw [if_neg h1, if_neg h2, if_neg h3, decide_eq_false h4]) ?_
    refine Ev.step (f := fun k => meta_Form.l0 k l (l.length : Int) 0 n l) (fun k => by simp only [meta_Form.j0]; rw [if_neg (by decide)]) ?_
    have := form_rows n l (by omega) hs l.length 0 (by omega) (by omega)
    rw [List.drop_zero] at this
    exact this

theorem copy_ev (n : Int) (l : List S42) (hl : l.length * 48 ≤ 140737488351232) (hs : ∀ s ∈ l, Small s) : Ev (fun k => meta_Copy.f k n l) (n, l) := by
  have key : ∀ (d i : Nat), l.length - i = d → i ≤ l.length → Ev (fun k => meta_Copy.l0 k l (l.length : Int) (i : Int) n (l.take i)) (n, l) := by
    intro d
    induction d with
    | zero =>
      intro i hd hi
      rw [List.take_of_length_le (by omega)]
      exact ev_some (fun k => by simp only [meta_Copy.l0]; rw [if_neg (by omega)])
    | succ d ih =>
      intro i hd hi
      have hlt : i < l.length := by omega
      have ht := ih (i + 1) (by omega) (by omega)
      have hsm := (hs _ (List.getElem_mem hlt)).2
      refine Ev.step (fun k => ?_) ht
      have e : l.take (i + 1) = l.take i ++ [(⟨l[i].f0, l[i].f1, l[i].f2, ([] : List Int) ++ l[i].f3⟩ : S42)] := by
        rw [List.take_succ_eq_append_getElem hlt]; rfl
      simp only [meta_Copy.l0]
      rw [if_pos (by omega), if_pos (by omega), if_pos (by omega), rdT_nat hlt, if_pos (by rw [List.length_nil]; omega), if_pos (by rw [List.length_take]; omega), w64s hlt (by omega), e]
  have := key l.length 0 (by omega) (by omega)
  exact Ev.congr (fun k => rfl) this

open Go.Proofs.Ytkoaeiiaagipeaa.G
theorem chk_iff {n : Int} : ∀ {l : List Int} {last : Int}, chk n last l = true ↔ (∀ x ∈ l, last < x ∧ x < n) ∧ l.Pairwise (· < ·)
  | [], last => by simp [chk]
  | y :: t, last => by
    simp only [chk, Bool.and_eq_true, decide_eq_true_eq, chk_iff (l := t), List.mem_cons, List.pairwise_cons]
    constructor
    · rintro ⟨h1, h2, h3, h4⟩
      refine ⟨?_, fun z hz => (h3 z hz).1, h4⟩
      rintro x (rfl | hx)
      · exact ⟨h1, h2⟩
      · have := h3 x hx; omega
    · rintro ⟨h1, h2, h3⟩
      exact ⟨(h1 y (Or.inl rfl)).1, (h1 y (Or.inl rfl)).2, fun x hx => ⟨h2 x hx, (h1 x (Or.inr hx)).2⟩, h3⟩
theorem rising_len {n : Int} : ∀ {l : List Int} {last : Int}, (∀ x ∈ l, last < x ∧ x < n) → l.Pairwise (· < ·) → last < n → (l.length : Int) ≤ n - 1 - last
  | [], last, _, _, h => by simp; omega
  | y :: t, last, h1, h2, h => by
    have h3 := List.pairwise_cons.1 h2
    have hy := h1 y (by simp)
    have := rising_len (l := t) (last := y) (fun x hx => ⟨h3.1 x hx, (h1 x (by simp [hx])).2⟩) h3.2 hy.2
    simp only [List.length_cons]
    omega
theorem rowOk_iff {n : Int} {s : S42} : rowOk n s = true ↔ (∀ x ∈ s.f3, 0 ≤ x ∧ x < n) ∧ s.f3.Pairwise (· < ·) ∧ 1 ≤ s.f1 ∧ s.f2 ∈ s.f3 := by
  unfold rowOk
  simp only [Bool.and_eq_true, decide_eq_true_eq, chk_iff]
  constructor
  · rintro ⟨⟨h1, h2⟩, h3, h4⟩; exact ⟨fun x hx => by have := h1 x hx; omega, h2, h3, h4⟩
  · rintro ⟨h1, h2, h3, h4⟩; exact ⟨⟨fun x hx => by have := h1 x hx; omega, h2⟩, h3, h4⟩
theorem tabOk_iff {n : Int} {l : List S42} : tabOk n l = true ↔ (1 ≤ n ∧ n ≤ 5 ∧ 1 ≤ l.length ∧ l.length ≤ 8) ∧ ∀ s ∈ l, rowOk n s = true := by
  unfold tabOk
  simp only [Bool.and_eq_true, decide_eq_true_eq, List.all_eq_true]
/-- a right table whose numbers of changes are at most c -/
def Inv (n : Int) (l : List S42) (c : Int) : Prop := tabOk n l = true ∧ ∀ s ∈ l, 0 ≤ s.f0 ∧ s.f0 ≤ c ∧ s.f1 ≤ c + 1
theorem Inv.small {n : Int} {l : List S42} {c : Int} (h : Inv n l c) : ∀ s ∈ l, Small s := by
  intro s hs
  have h1 := tabOk_iff.1 h.1
  have h2 := rowOk_iff.1 (h1.2 s hs)
  have := rising_len (n := n) (l := s.f3) (last := -1) (fun x hx => by have := h2.1 x hx; omega) h2.2.1 (by omega)
  exact ⟨by omega, by omega⟩
theorem mem_set_or {α : Type} {l : List α} {i : Nat} {a x : α} (h : x ∈ l.set i a) : x ∈ l ∨ x = a := List.mem_or_eq_of_mem_set h
theorem Inv.set {n : Int} {l : List S42} {c : Int} (h : Inv n l c) (i : Nat) (s : S42) (h1 : rowOk n s = true) (h2 : 0 ≤ s.f0) (h3 : s.f0 ≤ c + 1) (h4 : s.f1 ≤ c + 2) : Inv n (l.set i s) (c + 1) := by
  have ht := tabOk_iff.1 h.1
  refine ⟨tabOk_iff.2 ⟨by rw [List.length_set]; exact ht.1, fun x hx => ?_⟩, fun x hx => ?_⟩
  · rcases mem_set_or hx with hx | rfl
    · exact ht.2 x hx
    · exact h1
  · rcases mem_set_or hx with hx | rfl
    · have := h.2 x hx; omega
    · omega
theorem Inv.more {n : Int} {l : List S42} {c c' : Int} (h : Inv n l c) (hc : c ≤ c') : Inv n l c' := ⟨h.1, fun s hs => by have := h.2 s hs; omega⟩
theorem apply_ev {n : Int} {l : List S42} {c : Int} (h : Inv n l c) (kd nd rv : Int) (i : Nat) (hi : i < l.length) (h0 : 0 ≤ nd) (h1 : nd < n) {r : Int × List S42 × Bool} (hg : meta_Apply.g n l kd (i : Int) nd rv l[i] (decide (nd ∈ l[i].f3)) = some r) :
    Ev (fun k => meta_Apply.f k n l kd (i : Int) nd rv) r := by
  have hs := h.small
  have ht := tabOk_iff.1 h.1
  unfold meta_Apply.f
  refine Ev.bind (a := (n, l)) (f := fun k b => (meta_Form.f k n l).bind fun t => if t = true ∧ 0 ≤ (i : Int) ∧ (i : Int) < (l.length : Int) ∧ 0 ≤ nd ∧ nd < n then (if (i : Int) < (b.2.length : Int) then (slices_Contains_int_int.f k (rd_T42 b.2 (i : Int)).f3 nd).bind fun z => meta_Apply.g b.1 b.2 kd (i : Int) nd rv (rd_T42 b.2 (i : Int)) z else none) else some (b.1, b.2, false)) (copy_ev n l (by omega) hs) ?_
  refine Ev.bind (f := fun k t => if t = true ∧ 0 ≤ (i : Int) ∧ (i : Int) < (l.length : Int) ∧ 0 ≤ nd ∧ nd < n then (if (i : Int) < (l.length : Int) then (slices_Contains_int_int.f k (rd_T42 l (i : Int)).f3 nd).bind fun z => meta_Apply.g n l kd (i : Int) nd rv (rd_T42 l (i : Int)) z else none) else some (n, l, false)) (meta_Form_ev n l (by omega) hs) ?_
  simp only [if_pos (show tabOk n l = true ∧ 0 ≤ (i : Int) ∧ (i : Int) < (l.length : Int) ∧ 0 ≤ nd ∧ nd < n from ⟨h.1, by omega, by omega, h0, h1⟩), if_pos (show (i : Int) < (l.length : Int) by omega), rdT_nat hi]
  refine Ev.bind (f := fun k z => meta_Apply.g n l kd (i : Int) nd rv l[i] z) (contains_ev l[i].f3 nd (by have := (hs _ (List.getElem_mem hi)).2; omega)) ?_
  rw [hg]
  exact Ev.now _
theorem apply_no {n : Int} {l : List S42} (hl : l.length * 48 ≤ 140737488351232) (hs : ∀ s ∈ l, Small s) (kd sd nd rv : Int) (hno : ¬ (tabOk n l = true ∧ 0 ≤ sd ∧ sd < (l.length : Int) ∧ 0 ≤ nd ∧ nd < n)) :
    Ev (fun k => meta_Apply.f k n l kd sd nd rv) (n, l, false) := by
  unfold meta_Apply.f
  refine Ev.bind (a := (n, l)) (f := fun k b => (meta_Form.f k n l).bind fun t => if t = true ∧ 0 ≤ sd ∧ sd < (l.length : Int) ∧ 0 ≤ nd ∧ nd < n then (if sd < (b.2.length : Int) then (slices_Contains_int_int.f k (rd_T42 b.2 sd).f3 nd).bind fun z => meta_Apply.g b.1 b.2 kd sd nd rv (rd_T42 b.2 sd) z else none) else some (b.1, b.2, false)) (copy_ev n l hl hs) ?_
  refine Ev.bind (f := fun k t => if t = true ∧ 0 ≤ sd ∧ sd < (l.length : Int) ∧ 0 ≤ nd ∧ nd < n then (if sd < (l.length : Int) then (slices_Contains_int_int.f k (rd_T42 l sd).f3 nd).bind fun z => meta_Apply.g n l kd sd nd rv (rd_T42 l sd) z else none) else some (n, l, false)) (meta_Form_ev n l (by omega) hs) ?_
  simp only [if_neg hno]
  exact Ev.now _
theorem sort_some {l : List Int} (h : l ≠ []) (hl : l.length < 140737488355328) : slices_Sort_int_int.f l = some (sortI l) := by
  unfold slices_Sort_int_int.f
  rw [if_neg h, if_pos hl]
theorem lt_of_le_nodup : ∀ {l : List Int}, l.Pairwise (· ≤ ·) → l.Nodup → l.Pairwise (· < ·)
  | [], _, _ => List.Pairwise.nil
  | x :: t, h, hn => by
    have h1 := List.pairwise_cons.1 h
    have h2 := List.nodup_cons.1 hn
    refine List.pairwise_cons.2 ⟨fun y hy => ?_, lt_of_le_nodup h1.2 h2.2⟩
    have := h1.1 y hy
    have : x ≠ y := fun e => h2.1 (e ▸ hy)
    omega
theorem nodup_of_lt {l : List Int} (h : l.Pairwise (· < ·)) : l.Nodup := h.imp (fun hxy => by omega)
theorem ins_ok {n nd : Int} {l : List Int} (h1 : ∀ x ∈ l, 0 ≤ x ∧ x < n) (h2 : l.Pairwise (· < ·)) (h3 : nd ∉ l) (h4 : 0 ≤ nd) (h5 : nd < n) : (∀ x ∈ sortI (l ++ [nd]), 0 ≤ x ∧ x < n) ∧ (sortI (l ++ [nd])).Pairwise (· < ·) := by
  have hp := sortI_perm (l ++ [nd])
  refine ⟨fun x hx => ?_, lt_of_le_nodup (sortI_rising _) (hp.nodup_iff.2 ?_)⟩
  · rcases List.mem_append.1 (hp.mem_iff.1 hx) with h | h
    · exact h1 x h
    · rw [List.mem_singleton.1 h]; exact ⟨h4, h5⟩
  · rw [List.nodup_append]
    exact ⟨nodup_of_lt h2, by simp, fun a ha b hb => by rw [List.mem_singleton.1 hb]; exact fun e => h3 (e ▸ ha)⟩
theorem wu1 {x : Int} (h0 : 0 ≤ x) (h1 : x ≤ 1000000) : IntKind.u64.wrap (x + 1) = x + 1 := wu64 (by omega) (by omega)
theorem g_add {n : Int} {l : List S42} {c : Int} (h : Inv n l c) (hc : c ≤ 900000) (i : Nat) (hi : i < l.length) (nd : Int) (h3 : nd ∉ l[i].f3) (h4 : 0 ≤ nd) (h5 : nd < n) :
    meta_Apply.g n l 2 (i : Int) nd l[i].f0 l[i] (decide (nd ∈ l[i].f3)) = some (n, l.set i ⟨l[i].f0 + 1, l[i].f1, l[i].f2, sortI (l[i].f3 ++ [nd])⟩, true) := by
  have hv := h.2 _ (List.getElem_mem hi)
  have hsm := h.small _ (List.getElem_mem hi)
  rw [decide_eq_false h3]
  unfold meta_Apply.g
  rw [if_neg (by simp), if_neg (by omega), if_neg (by omega), if_neg (by simp), if_pos ⟨rfl, rfl⟩, if_pos (by have := hsm.2; omega), sort_some (by simp) (by have := hsm.2; simp; omega), Option.bind_some, Int.toNat_natCast, wu1 hv.1 (by omega)]
theorem g_pro {n : Int} {l : List S42} {c : Int} (h : Inv n l c) (hc : c ≤ 900000) (i : Nat) (hi : i < l.length) (nd : Int) (h3 : nd ∈ l[i].f3) :
    meta_Apply.g n l 1 (i : Int) nd l[i].f0 l[i] (decide (nd ∈ l[i].f3)) = some (n, l.set i ⟨l[i].f0 + 1, l[i].f1 + 1, nd, l[i].f3⟩, true) := by
  have hv := h.2 _ (List.getElem_mem hi)
  have hsm := h.small _ (List.getElem_mem hi)
  rw [decide_eq_true h3]
  unfold meta_Apply.g
  rw [if_neg (by simp), if_neg (by omega), if_neg (by omega), if_pos ⟨rfl, rfl⟩, Int.toNat_natCast, wu1 hv.1 (by omega), wu1 hsm.1 (by omega)]
theorem g_rem {n : Int} {l : List S42} {c : Int} (h : Inv n l c) (hc : c ≤ 900000) (i : Nat) (hi : i < l.length) (nd : Int) (h3 : nd ∈ l[i].f3) (h4 : nd ≠ l[i].f2) :
    meta_Apply.g n l 3 (i : Int) nd l[i].f0 l[i] (decide (nd ∈ l[i].f3)) = some (n, l.set i ⟨l[i].f0 + 1, l[i].f1, l[i].f2, l[i].f3.filter fun x => !(x == nd)⟩, true) := by
  have hv := h.2 _ (List.getElem_mem hi)
  rw [decide_eq_true h3]
  unfold meta_Apply.g
  rw [if_neg (by simp), if_neg (by omega), if_neg (by omega), if_neg (by simp), if_neg (by simp), if_pos ⟨rfl, rfl, h4⟩, if_neg (fun e => by rw [e] at h3; simp at h3), Int.toNat_natCast, wu1 hv.1 (by omega)]
theorem ok_add {n : Int} {s : S42} (hr : rowOk n s = true) {nd : Int} (h3 : nd ∉ s.f3) (h4 : 0 ≤ nd) (h5 : nd < n) (a : Int) : rowOk n ⟨a, s.f1, s.f2, sortI (s.f3 ++ [nd])⟩ = true := by
  have h := rowOk_iff.1 hr
  have hi := ins_ok h.1 h.2.1 h3 h4 h5
  exact rowOk_iff.2 ⟨hi.1, hi.2, h.2.2.1, (sortI_perm _).mem_iff.2 (List.mem_append_left _ h.2.2.2)⟩
theorem ok_pro {n : Int} {s : S42} (hr : rowOk n s = true) {nd : Int} (h3 : nd ∈ s.f3) (a : Int) : rowOk n ⟨a, s.f1 + 1, nd, s.f3⟩ = true := by
  have h := rowOk_iff.1 hr
  exact rowOk_iff.2 ⟨h.1, h.2.1, by show 1 ≤ s.f1 + 1; omega, h3⟩
theorem ok_rem {n : Int} {s : S42} (hr : rowOk n s = true) {nd : Int} (h4 : nd ≠ s.f2) (a : Int) : rowOk n ⟨a, s.f1, s.f2, s.f3.filter fun x => !(x == nd)⟩ = true := by
  have h := rowOk_iff.1 hr
  exact rowOk_iff.2 ⟨fun x hx => h.1 x (List.mem_filter.1 hx).1, h.2.1.filter _, h.2.2.1, List.mem_filter.2 ⟨h.2.2.2, by simp; exact fun e => h4 e.symm⟩⟩
/-- whatever the command: done or not, the table stays right -/
theorem apply_any {n : Int} {l : List S42} {c : Int} (h : Inv n l c) (hc : c ≤ 900000) (kd sd nd rv : Int) :
    ∃ l' b, Ev (fun k => meta_Apply.f k n l kd sd nd rv) (n, l', b) ∧ Inv n l' (c + 1) ∧ l'.length = l.length := by
  have ht := tabOk_iff.1 h.1
  have hno : ∀ r : Int × List S42 × Bool, r = (n, l, false) → ∃ l' b, r = (n, l', b) ∧ Inv n l' (c + 1) ∧ l'.length = l.length := fun r hr => ⟨l, false, hr, h.more (by omega), rfl⟩
  by_cases hy : tabOk n l = true ∧ 0 ≤ sd ∧ sd < (l.length : Int) ∧ 0 ≤ nd ∧ nd < n
  · obtain ⟨_, h1, h2, h3, h4⟩ := hy
    obtain ⟨i, rfl⟩ := Int.eq_ofNat_of_zero_le h1
    have hi : i < l.length := by omega
    have hrow := ht.2 _ (List.getElem_mem hi)
    have hv := h.2 _ (List.getElem_mem hi)
    have hsm := h.small _ (List.getElem_mem hi)
    have key : ∃ r, meta_Apply.g n l kd (i : Int) nd rv l[i] (decide (nd ∈ l[i].f3)) = some r ∧ ∃ l' b, r = (n, l', b) ∧ Inv n l' (c + 1) ∧ l'.length = l.length := by
      by_cases e0 : rv = l[i].f0
      · subst e0
        by_cases m : nd ∈ l[i].f3
        · by_cases k1 : kd = 1
          · subst k1
            exact ⟨_, g_pro h hc i hi nd m, _, _, rfl, h.set i _ (ok_pro hrow m _) (by show 0 ≤ l[i].f0 + 1; omega) (by show l[i].f0 + 1 ≤ _; omega) (by show l[i].f1 + 1 ≤ _; omega), List.length_set⟩
          · by_cases k3 : kd = 3 ∧ nd ≠ l[i].f2
            · obtain ⟨rfl, k3⟩ := k3
              exact ⟨_, g_rem h hc i hi nd m k3, _, _, rfl, h.set i _ (ok_rem hrow k3 _) (by show 0 ≤ l[i].f0 + 1; omega) (by show l[i].f0 + 1 ≤ _; omega) (by show l[i].f1 ≤ _; omega), List.length_set⟩
            · refine ⟨(n, l, false), ?_, hno _ rfl⟩
              rw [decide_eq_true m]
              unfold meta_Apply.g
              rw [if_neg (by simp), if_neg (by omega), if_neg (by omega), if_neg (fun e => k1 e.1), if_neg (by simp), if_neg (fun e => k3 ⟨e.1, e.2.2⟩)]
        · by_cases k2 : kd = 2
          · subst k2
            exact ⟨_, g_add h hc i hi nd m h3 h4, _, _, rfl, h.set i _ (ok_add hrow m h3 h4 _) (by show 0 ≤ l[i].f0 + 1; omega) (by show l[i].f0 + 1 ≤ _; omega) (by show l[i].f1 ≤ _; omega), List.length_set⟩
          · refine ⟨(n, l, false), ?_, hno _ rfl⟩
            rw [decide_eq_false m]
            unfold meta_Apply.g
            rw [if_neg (by simp), if_neg (by omega), if_neg (by omega), if_neg (by simp), if_neg (fun e => k2 e.1), if_neg (by simp)]
      · refine ⟨(n, l, false), ?_, hno _ rfl⟩
        unfold meta_Apply.g
        rw [if_pos e0]
    obtain ⟨r, hg, l', b, rfl, h5, h6⟩ := key
    exact ⟨l', b, apply_ev h kd nd rv i hi h3 h4 hg, h5, h6⟩
  · exact ⟨l, false, apply_no (by omega) h.small kd sd nd rv hy, h.more (by omega), rfl⟩

def newI (a b c : Int) : Bool := match meta_New.f 100 a b c with
  | some (n, l, e) => n == a && (e == 0 && (tabOk n l && l.all fun s => s.f0 == 0 && s.f1 == 1))
  | none => false
theorem newI_dec : ∀ x : Fin 5, ∀ y : Fin 8, ∀ z : Fin 5, z.val ≤ x.val → newI ((x.val : Int) + 1) ((y.val : Int) + 1) ((z.val : Int) + 1) = true := by decide +kernel
theorem new_inv {a b c : Int} (ha : 1 ≤ a) (ha5 : a ≤ 5) (hb : 1 ≤ b) (hb8 : b ≤ 8) (hc : 1 ≤ c) (hca : c ≤ a) : ∃ l, meta_New.f 100 a b c = some (a, l, 0) ∧ Inv a l 0 := by
  have h := newI_dec ⟨(a - 1).toNat, by omega⟩ ⟨(b - 1).toNat, by omega⟩ ⟨(c - 1).toNat, by omega⟩ (by simp only; omega)
  have e1 : (((a - 1).toNat : Nat) : Int) + 1 = a := by omega
  have e2 : (((b - 1).toNat : Nat) : Int) + 1 = b := by omega
  have e3 : (((c - 1).toNat : Nat) : Int) + 1 = c := by omega
  simp only [e1, e2, e3] at h
  unfold newI at h
  split at h
  · rename_i n l e h1
    simp only [Bool.and_eq_true, beq_iff_eq, List.all_eq_true] at h
    obtain ⟨rfl, rfl, h3, h4⟩ := h
    exact ⟨l, h1, h3, fun s hs => by have := h4 s hs; omega⟩
  · cases h
theorem tm5 {a m : Int} (h0 : 0 ≤ a) (h1 : a ≤ 255) (hm : 1 ≤ m) (hm8 : m ≤ 8) : wrap64 (1 + Int.tmod (wrap64 a) m) = 1 + a % m := by
  rw [w64 (x := a) (by omega) (by omega), Int.tmod_eq_emod_of_nonneg h0]
  have := Int.emod_nonneg a (show m ≠ 0 by omega)
  have := Int.emod_lt_of_pos a (show 0 < m by omega)
  exact w64 (by omega) (by omega)
theorem wf_u8 {a : Int} (h : (Lit.int .u8 a).wf = true) : 0 ≤ a ∧ a ≤ 255 := by
  simp [Lit.wf, IntKind.min, IntKind.max, IntKind.signed, IntKind.bits] at h
  omega
theorem rdC_nat {l : List S39} {j : Nat} (h : j < l.length) : rd_T39 l (j : Int) = l[j] := by
  unfold rd_T39
  rw [Int.toNat_natCast, List.getD_eq_getElem?_getD, List.getElem?_eq_getElem h]
  rfl
/-- a command: not done, or done to one row, and then not done again -/
theorem apply_once {n : Int} {l : List S42} {c : Int} (h : Inv n l c) (hc : c ≤ 900000) (kd sd nd rv : Int) :
    (Ev (fun k => meta_Apply.f k n l kd sd nd rv) (n, l, false)) ∨
    ∃ (i : Nat) (hi : i < l.length) (s : S42), s.f0 = l[i].f0 + 1 ∧ l[i].f1 ≤ s.f1 ∧ Inv n (l.set i s) (c + 1) ∧ Ev (fun k => meta_Apply.f k n l kd sd nd rv) (n, l.set i s, true) ∧ Ev (fun k => meta_Apply.f k n (l.set i s) kd sd nd rv) (n, l.set i s, false) := by
  have ht := tabOk_iff.1 h.1
  by_cases hy : tabOk n l = true ∧ 0 ≤ sd ∧ sd < (l.length : Int) ∧ 0 ≤ nd ∧ nd < n
  · obtain ⟨_, h1, h2, h3, h4⟩ := hy
    obtain ⟨i, rfl⟩ := Int.eq_ofNat_of_zero_le h1
    have hi : i < l.length := by omega
    have hrow := ht.2 _ (List.getElem_mem hi)
    have hv := h.2 _ (List.getElem_mem hi)
    have hsm := h.small _ (List.getElem_mem hi)
    have hno : meta_Apply.g n l kd (i : Int) nd rv l[i] (decide (nd ∈ l[i].f3)) = some (n, l, false) → Ev (fun k => meta_Apply.f k n l kd (i : Int) nd rv) (n, l, false) := fun e => apply_ev h kd nd rv i hi h3 h4 e
    by_cases e0 : rv = l[i].f0
    · subst e0
      have yes : ∀ s : S42, s.f0 = l[i].f0 + 1 → l[i].f1 ≤ s.f1 → Inv n (l.set i s) (c + 1) → meta_Apply.g n l kd (i : Int) nd l[i].f0 l[i] (decide (nd ∈ l[i].f3)) = some (n, l.set i s, true) →
          ∃ (j : Nat) (hj : j < l.length) (s : S42), s.f0 = l[j].f0 + 1 ∧ l[j].f1 ≤ s.f1 ∧ Inv n (l.set j s) (c + 1) ∧ Ev (fun k => meta_Apply.f k n l kd (i : Int) nd l[i].f0) (n, l.set j s, true) ∧ Ev (fun k => meta_Apply.f k n (l.set j s) kd (i : Int) nd l[i].f0) (n, l.set j s, false) := by
        intro s a1 a2 a3 a4
        have hi2 : i < (l.set i s).length := by rw [List.length_set]; exact hi
        have g2 : (l.set i s)[i] = s := List.getElem_set_self hi2
        refine ⟨i, hi, s, a1, a2, a3, apply_ev h kd nd _ i hi h3 h4 a4, apply_ev a3 kd nd _ i hi2 h3 h4 ?_⟩
        unfold meta_Apply.g
        rw [g2, if_pos (by omega)]
      by_cases m : nd ∈ l[i].f3
      · by_cases k1 : kd = 1
        · subst k1
          exact .inr (yes ⟨l[i].f0 + 1, l[i].f1 + 1, nd, l[i].f3⟩ rfl (by show l[i].f1 ≤ l[i].f1 + 1; omega) (h.set i _ (ok_pro hrow m _) (by show 0 ≤ l[i].f0 + 1; omega) (by show l[i].f0 + 1 ≤ _; omega) (by show l[i].f1 + 1 ≤ _; omega)) (g_pro h hc i hi nd m))
        · by_cases k3 : kd = 3 ∧ nd ≠ l[i].f2
          · obtain ⟨rfl, k3⟩ := k3
            exact .inr (yes ⟨l[i].f0 + 1, l[i].f1, l[i].f2, l[i].f3.filter fun x => !(x == nd)⟩ rfl (by show l[i].f1 ≤ l[i].f1; omega) (h.set i _ (ok_rem hrow k3 _) (by show 0 ≤ l[i].f0 + 1; omega) (by show l[i].f0 + 1 ≤ _; omega) (by show l[i].f1 ≤ _; omega)) (g_rem h hc i hi nd m k3))
          · refine .inl (hno ?_)
            rw [decide_eq_true m]
            unfold meta_Apply.g
            rw [if_neg (by simp), if_neg (by omega), if_neg (by omega), if_neg (fun e => k1 e.1), if_neg (by simp), if_neg (fun e => k3 ⟨e.1, e.2.2⟩)]
      · by_cases k2 : kd = 2
        · subst k2
          exact .inr (yes ⟨l[i].f0 + 1, l[i].f1, l[i].f2, sortI (l[i].f3 ++ [nd])⟩ rfl (by show l[i].f1 ≤ l[i].f1; omega) (h.set i _ (ok_add hrow m h3 h4 _) (by show 0 ≤ l[i].f0 + 1; omega) (by show l[i].f0 + 1 ≤ _; omega) (by show l[i].f1 ≤ _; omega)) (g_add h hc i hi nd m h3 h4))
        · refine .inl (hno ?_)
          rw [decide_eq_false m]
          unfold meta_Apply.g
          rw [if_neg (by simp), if_neg (by omega), if_neg (by omega), if_neg (by simp), if_neg (fun e => k2 e.1), if_neg (by simp)]
    · refine .inl (hno ?_)
      unfold meta_Apply.g
      rw [if_pos e0]
  · exact .inl (apply_no (by omega) h.small kd sd nd rv hy)
theorem MetaStays : MetaStays_PureS := by
  intro a b c cs wa wb wc hcs
  have ha := wf_u8 wa
  have hb := wf_u8 wb
  have hc := wf_u8 wc
  have haw : Ev (fun k => fascinelaw14_awake.f k) true := ⟨40, fun k hk => fascinelaw14_awake_is hk⟩
  have e1 : wrap64 (1 + Int.tmod (wrap64 a) 5) = 1 + a % 5 := tm5 ha.1 ha.2 (by omega) (by omega)
  have e2 : wrap64 (1 + Int.tmod (wrap64 b) 8) = 1 + b % 8 := tm5 hb.1 hb.2 (by omega) (by omega)
  have e3 : wrap64 (1 + Int.tmod (wrap64 c) (1 + a % 5)) = 1 + c % (1 + a % 5) := tm5 hc.1 hc.2 (by omega) (by omega)
  have h3 := Int.emod_nonneg c (show 1 + a % 5 ≠ 0 by omega)
  have h4 := Int.emod_lt_of_pos c (show 0 < 1 + a % 5 by omega)
  obtain ⟨l, hn, hinv⟩ := new_inv (a := 1 + a % 5) (b := 1 + b % 8) (c := 1 + c % (1 + a % 5)) (by omega) (by omega) (by omega) (by omega) (by omega) (by omega)
  generalize 1 + a % 5 = n at *
  refine Ev.rounds (g := fun k => fascinelaw14_MetaStays.f k a b c cs) ?_
  unfold fascinelaw14_MetaStays.f
  rw [e1, e2, e3]
  have hn0 : ¬ n = 0 := by have := (tabOk_iff.1 hinv.1).1; omega
  refine Ev.bind (f := fun k t => if t = true then (if n = 0 then none else (meta_New.f k n (1 + b % 8) (1 + c % n)).bind fun bt => if bt.2.2 = 0 then fascinelaw14_MetaStays.l0 k cs 0 bt.1 bt.2.1 else some false) else some false) haw ?_
  simp only [if_true, if_neg hn0]
  refine Ev.bind (a := (n, l, 0)) (f := fun k bt => if bt.2.2 = 0 then fascinelaw14_MetaStays.l0 k cs 0 bt.1 bt.2.1 else some false) (ev_mono (meta_New.mono _ _ _) hn) ?_
  simp only [if_true]
  have key : ∀ (d i : Nat) (l : List S42), cs.length - i = d → i ≤ 50 → Inv n l i → Ev (fun k => fascinelaw14_MetaStays.l0 k cs (i : Int) n l) true := by
    intro d
    induction d with
    | zero =>
      intro i l hd hi h
      refine Ev.step (f := fun k => fascinelaw14_MetaStays.j1 k cs (i : Int) false n l) (fun k => by simp only [fascinelaw14_MetaStays.l0]; rw [if_neg (by omega)]) ?_
      exact ev_some (fun k => by simp only [fascinelaw14_MetaStays.j1]; rw [if_neg (by decide)])
    | succ d ih =>
      intro i l hd hi h
      have hlt : i < cs.length := by omega
      refine Ev.step (f := fun k => fascinelaw14_MetaStays.j1 k cs (i : Int) (decide ((i : Int) < 50)) n l) (fun k => by simp only [fascinelaw14_MetaStays.l0]; rw [if_pos (by omega)]) ?_
      by_cases h50 : (i : Int) < 50
      · rw [decide_eq_true h50]
        refine Ev.step (f := fun k => (meta_Apply.f k n l cs[i].f0 cs[i].f1 cs[i].f2 cs[i].f3).bind fun bt => (meta_Form.f k bt.1 bt.2.1).bind fun t => if t = true then fascinelaw14_MetaStays.j2 k cs (i : Int) bt.2.2 ((bt.2.1.length : Int) != (l.length : Int)) n l bt.1 bt.2.1 else fascinelaw14_MetaStays.j2 k cs (i : Int) bt.2.2 true n l bt.1 bt.2.1) (fun k => by simp only [fascinelaw14_MetaStays.j1]; rw [if_pos trivial, if_pos (by omega), if_pos (by omega), rdC_nat hlt]) ?_
        -- what follows, once the table behind the command is known
        have rest : ∀ (l' : List S42) (r q : Bool) (chg : Nat), Inv n l' ((i + 1 : Nat) : Int) → l'.length = l.length → Ev (fun k => meta_Apply.f k n l' cs[i].f0 cs[i].f1 cs[i].f2 cs[i].f3) (n, l', q) → (r = true → q = false) → (chg = if r then 1 else 0) →
            (∃ m : Nat, ∀ (j : Nat) (hj : j < l.length) (hj' : j < l'.length), l[j].f0 ≤ l'[j].f0 ∧ l[j].f1 ≤ l'[j].f1 ∧ (l'[j].f0 = l[j].f0 ↔ ¬ (r = true ∧ j = m))) → (∀ m : Nat, r = true → (∀ (j : Nat) (hj : j < l.length) (hj' : j < l'.length), (l'[j].f0 = l[j].f0 ↔ j ≠ m)) → m < l.length) →
            Ev (fun k => fascinelaw14_MetaStays.j2 k cs (i : Int) r false n l n l') true := by
          intro l' r q chg hinv' hlen hq hrq hchg ⟨m, hm⟩ hml
          have hsm' := h.small
          have ht := (tabOk_iff.1 h.1).1
          refine Ev.step (f := fun k => fascinelaw14_MetaStays.l1 k cs (i : Int) r 0 0 n l n l') (fun k => by simp only [fascinelaw14_MetaStays.j2]; rw [if_neg (by decide)]) ?_
          have fin : Ev (fun k => fascinelaw14_MetaStays.j5 k cs (i : Int) false n l') true := by
            refine Ev.step (f := fun k => fascinelaw14_MetaStays.l0 k cs ((i + 1 : Nat) : Int) n l') (fun k => by simp only [fascinelaw14_MetaStays.j5]; rw [if_neg (by decide), w64s hlt (by omega)]) ?_
            exact ih (i + 1) l' (by omega) (by omega) hinv'
          have rows : ∀ (e j : Nat), l.length - j = e → j ≤ l.length → Ev (fun k => fascinelaw14_MetaStays.l1 k cs (i : Int) r (if r = true ∧ m < j then 1 else 0) (j : Int) n l n l') true := by
            intro e
            induction e with
            | zero =>
              intro j he hj
              have hx : (if r = true ∧ m < j then (1 : Int) else 0) = if r = true then 1 else 0 := by
                cases r with
                | false => simp
                | true =>
                  have := hml m rfl (fun j hj hj' => by have := (hm j hj hj').2.2; simpa using this)
                  rw [if_pos ⟨rfl, by omega⟩, if_pos rfl]
              rw [hx]
              refine Ev.step (f := fun k => (meta_Apply.f k n l' cs[i].f0 cs[i].f1 cs[i].f2 cs[i].f3).bind fun bt => if (r != ((if r = true then (1 : Int) else 0) == 1)) = true then fascinelaw14_MetaStays.j5 k cs (i : Int) true n l' else if r = true then fascinelaw14_MetaStays.j5 k cs (i : Int) bt.2.2 n l' else if (if r = true then (1 : Int) else 0) > 0 then fascinelaw14_MetaStays.j5 k cs (i : Int) true n l' else fascinelaw14_MetaStays.j5 k cs (i : Int) false n l') (fun k => by simp only [fascinelaw14_MetaStays.l1]; rw [if_neg (by omega), if_pos (by omega), if_pos (by omega), rdC_nat hlt]) ?_
              refine Ev.bind (a := (n, l', q)) (f := fun k bt => if (r != ((if r = true then (1 : Int) else 0) == 1)) = true then fascinelaw14_MetaStays.j5 k cs (i : Int) true n l' else if r = true then fascinelaw14_MetaStays.j5 k cs (i : Int) bt.2.2 n l' else if (if r = true then (1 : Int) else 0) > 0 then fascinelaw14_MetaStays.j5 k cs (i : Int) true n l' else fascinelaw14_MetaStays.j5 k cs (i : Int) false n l') hq ?_
              cases r with
              | false => simpa using fin
              | true => rw [hrq rfl]; simpa using fin
            | succ e ihe =>
              intro j he hj
              have hj1 : j < l.length := by omega
              have hj2 : j < l'.length := by omega
              obtain ⟨a1, a2, a3⟩ := hm j hj1 hj2
              have nx := ihe (j + 1) (by omega) (by omega)
              refine Ev.step (f := fun k => fascinelaw14_MetaStays.j4 k cs (i : Int) r (if r = true ∧ m < j then 1 else 0) (j : Int) false n l n l') (fun k => by simp only [fascinelaw14_MetaStays.l1]; rw [if_pos (by omega), if_pos (by omega), if_pos (by omega), rdT_nat hj1, rdT_nat hj2, if_neg (by omega), decide_eq_false (by omega)]) ?_
              by_cases hs : l'[j].f0 = l[j].f0
              · have hne := a3.1 hs
                have hc' : (if r = true ∧ m < j then (1 : Int) else 0) = if r = true ∧ m < j + 1 then 1 else 0 := by
                  by_cases hr : r = true
                  · have : j ≠ m := fun e => hne ⟨hr, e⟩
                    by_cases hlt2 : m < j
                    · rw [if_pos ⟨hr, hlt2⟩, if_pos ⟨hr, by omega⟩]
                    · rw [if_neg (fun e => hlt2 e.2), if_neg (fun e => by have := e.2; omega)]
                  · rw [if_neg (fun e => hr e.1), if_neg (fun e => hr e.1)]
                rw [hc']
                exact Ev.step (fun k => by simp only [fascinelaw14_MetaStays.j4]; rw [if_neg (by decide), if_pos (by omega), if_pos (by omega), if_pos (by omega), rdT_nat hj1, rdT_nat hj2, if_pos hs, w64s hj1 (by omega)]) nx
              · have hyes : r = true ∧ j = m := Classical.byContradiction (fun e => hs (a3.2 e))
                have c0 : (if r = true ∧ m < j then (1 : Int) else 0) = 0 := if_neg (fun e => by have := e.2; omega)
                have c1 : (if r = true ∧ m < j + 1 then (1 : Int) else 0) = 1 := if_pos ⟨hyes.1, by omega⟩
                rw [c1] at nx
                rw [c0]
                exact Ev.step (fun k => by simp only [fascinelaw14_MetaStays.j4]; rw [if_neg (by decide), if_pos (by omega), if_pos (by omega), if_pos (by omega), rdT_nat hj1, rdT_nat hj2, if_neg hs, w64s hj1 (by omega), show wrap64 (0 + 1) = 1 from w64 (by omega) (by omega)]) nx
          have := rows l.length 0 (by omega) (by omega)
          rw [if_neg (fun e => by have := e.2; omega)] at this
          exact this
        rcases apply_once h (by omega) cs[i].f0 cs[i].f1 cs[i].f2 cs[i].f3 with hev | ⟨m, hmi, s, s0, s1, inv', hev, hag⟩
        · have inv' : Inv n l ((i + 1 : Nat) : Int) := h.more (by omega)
          refine Ev.bind (a := (n, l, false)) (f := fun k bt => (meta_Form.f k bt.1 bt.2.1).bind fun t => if t = true then fascinelaw14_MetaStays.j2 k cs (i : Int) bt.2.2 ((bt.2.1.length : Int) != (l.length : Int)) n l bt.1 bt.2.1 else fascinelaw14_MetaStays.j2 k cs (i : Int) bt.2.2 true n l bt.1 bt.2.1) hev ?_
          refine Ev.bind (f := fun k t => if t = true then fascinelaw14_MetaStays.j2 k cs (i : Int) false ((l.length : Int) != (l.length : Int)) n l n l else fascinelaw14_MetaStays.j2 k cs (i : Int) false true n l n l) (meta_Form_ev n l (by have := (tabOk_iff.1 h.1).1; omega) h.small) ?_
          rw [h.1, bne_self_eq_false]
          simp only [if_true]
          exact rest l false false 0 inv' rfl hev (fun e => by cases e) rfl ⟨0, fun j hj hj' => ⟨by omega, by omega, by simp⟩⟩ (fun m e => by cases e)
        · have inv2 : Inv n (l.set m s) ((i + 1 : Nat) : Int) := inv'.more (by omega)
          refine Ev.bind (a := (n, l.set m s, true)) (f := fun k bt => (meta_Form.f k bt.1 bt.2.1).bind fun t => if t = true then fascinelaw14_MetaStays.j2 k cs (i : Int) bt.2.2 ((bt.2.1.length : Int) != (l.length : Int)) n l bt.1 bt.2.1 else fascinelaw14_MetaStays.j2 k cs (i : Int) bt.2.2 true n l bt.1 bt.2.1) hev ?_
          refine Ev.bind (f := fun k t => if t = true then fascinelaw14_MetaStays.j2 k cs (i : Int) true (((l.set m s).length : Int) != (l.length : Int)) n l n (l.set m s) else fascinelaw14_MetaStays.j2 k cs (i : Int) true true n l n (l.set m s)) (meta_Form_ev n (l.set m s) (by have := (tabOk_iff.1 inv'.1).1; omega) inv'.small) ?_
          rw [inv'.1, List.length_set, bne_self_eq_false]
          simp only [if_true]
          have hrel : ∀ (j : Nat) (hj : j < l.length) (hj' : j < (l.set m s).length), l[j].f0 ≤ (l.set m s)[j].f0 ∧ l[j].f1 ≤ (l.set m s)[j].f1 ∧ ((l.set m s)[j].f0 = l[j].f0 ↔ ¬ (true = true ∧ j = m)) := by
            intro j hj hj'
            by_cases e : m = j
            · subst e
              rw [List.getElem_set_self]
              exact ⟨by omega, s1, ⟨fun e => by omega, fun e => absurd ⟨rfl, rfl⟩ e⟩⟩
            · rw [List.getElem_set_ne e]
              exact ⟨by omega, by omega, ⟨fun _ e2 => e e2.2.symm, fun _ => rfl⟩⟩
          refine rest (l.set m s) true false 1 inv2 List.length_set hag (fun _ => rfl) rfl ⟨m, hrel⟩ (fun m' _ h' => ?_)
          have hj' : m < (l.set m s).length := by rw [List.length_set]; exact hmi
          have h9 := h' m hmi hj'
          have h8 := (hrel m hmi hj').2.2
          by_cases e : m = m'
          · omega
          · exact absurd (h9.2 e) (fun e2 => h8.1 e2 ⟨rfl, rfl⟩)
      · rw [decide_eq_false h50]
        exact ev_some (fun k => by simp only [fascinelaw14_MetaStays.j1]; rw [if_neg (by decide)])
  exact key cs.length 0 l (by omega) (by omega) (hinv.more (by omega))

end Go.Proofs.Ytkoaeiiaagipeaa.Pure
