/- On the printed functions of MetaEvens: what each of them answers, in plain words. -/
import Derived.Test.YtkoaeiiaagipeaaPMetaEvensx
import Derived.Test.YtkoaeiiaagipeaaMArith
import Derived.Test.YtkoaeiiaagipeaaQMetaEvens
namespace Go.Proofs.Ytkoaeiiaagipeaa.Pure
open Go.RowKit Go.Proofs.Ytkoaeiiaagipeaa.PMetaEvens Go.Proofs.YtkoaeiiaagipeaaW.PrintWords Go.Proofs.YtkoaeiiaagipeaaW.PrintLast Go.Proofs.YtkoaeiiaagipeaaW.PrintMore Go.Proofs.Ytkoaeiiaagipeaa.M
set_option linter.unusedVariables false
set_option linter.unusedSimpArgs false

theorem fascinelaw14_awake_40 : fascinelaw14_awake.f 40 = some true := by decide +kernel
theorem fascinelaw14_awake_is {k : Nat} (hk : 40 ≤ k) : fascinelaw14_awake.f k = some true := by
  obtain ⟨d, rfl⟩ := Nat.exists_eq_add_of_le hk
  induction d with
  | zero => exact fascinelaw14_awake_40
  | succ d ih => exact fascinelaw14_awake.mono (40 + d) true (ih (by omega))

theorem rd_nat {l : List Int} {j : Nat} (h : j < l.length) : rd l (j : Int) = l[j] := by
  unfold rd
  rw [Int.toNat_natCast, List.getD_eq_getElem?_getD, List.getElem?_eq_getElem h]
  rfl
theorem rdT_nat {l : List S42} {j : Nat} (h : j < l.length) : rd_T42 l (j : Int) = l[j] := by
  unfold rd_T42
  rw [Int.toNat_natCast, List.getD_eq_getElem?_getD, List.getElem?_eq_getElem h]
  rfl
theorem w64s {j n : Nat} (h : j < n) (hn : n ≤ 9223372036854775807) : wrap64 ((j : Int) + 1) = ((j + 1 : Nat) : Int) := by
  rw [w64 (by omega) (by omega)]; omega
theorem ev_some {α : Type} {g : Nat → Option α} {r : α} (h : ∀ k, g (k + 1) = some r) : Ev g r := Ev.step (f := fun _ => some r) h (Ev.now r)
theorem ev_mono {α : Type} {g : Nat → Option α} {r : α} (hg : ∀ k, LeO (g k) (g (k + 1))) {k : Nat} (h : g k = some r) : Ev g r := Ev.of hg h
theorem idx_ev (l : List Int) (a : Int) (hl : l.length ≤ 4611686018427387904) : ∀ (d i : Nat), l.length - i = d → i ≤ l.length → ∃ r : Int, Ev (fun k => slices_Index_int_int.l0 k l a (l.length : Int) (i : Int)) r ∧ (0 ≤ r ↔ a ∈ l.drop i) := by
  intro d
  induction d with
  | zero =>
    intro i hd hi
    refine ⟨-1, ev_some (fun k => ?_), ?_⟩
    · simp only [slices_Index_int_int.l0]; rw [if_neg (by omega)]
    · rw [List.drop_of_length_le (by omega)]; simp
  | succ d ih =>
    intro i hd hi
    have hlt : i < l.length := by omega
    obtain ⟨r, hr, hm⟩ := ih (i + 1) (by omega) (by omega)
    by_cases e : a = l[i]
    · refine ⟨(i : Int), ev_some (fun k => ?_), ?_⟩
      · simp only [slices_Index_int_int.l0]; rw [if_pos (by omega), if_pos (by omega), if_pos (by omega), rd_nat hlt, if_pos e]
      · rw [List.drop_eq_getElem_cons hlt, ← e]; simp
    · refine ⟨r, Ev.step (f := fun k => slices_Index_int_int.l0 k l a (l.length : Int) ((i + 1 : Nat) : Int)) (fun k => ?_) hr, ?_⟩
      · simp only [slices_Index_int_int.l0]; rw [if_pos (by omega), if_pos (by omega), if_pos (by omega), rd_nat hlt, if_neg e, w64s hlt (by omega)]
      · rw [List.drop_eq_getElem_cons hlt, List.mem_cons, hm]; simp [e]
theorem contains_ev (l : List Int) (a : Int) (hl : l.length ≤ 4611686018427387904) : Ev (fun k => slices_Contains_int_int.f k l a) (decide (a ∈ l)) := by
  obtain ⟨r, hr, hm⟩ := idx_ev l a hl l.length 0 (by omega) (by omega)
  have h2 : Ev (fun k => (slices_Index_int_int.f k l a).bind fun t => some (decide (t ≥ 0))) (decide (r ≥ 0)) := Ev.bind (f := fun _ t => some (decide (t ≥ 0))) hr (Ev.now _)
  have e : decide (r ≥ 0) = decide (a ∈ l) := decide_eq_decide.mpr (by rw [List.drop_zero] at hm; exact hm)
  rw [e] at h2
  exact h2
def chk (n last : Int) : List Int → Bool
  | [] => true
  | x :: t => decide (last < x) && (decide (x < n) && chk n x t)
def rowOk (n : Int) (s : S42) : Bool := chk n (-1) s.f3 && (decide (1 ≤ s.f1) && decide (s.f2 ∈ s.f3))
def tabOk (n : Int) (l : List S42) : Bool := decide (1 ≤ n ∧ n ≤ 5 ∧ 1 ≤ l.length ∧ l.length ≤ 8) && l.all (rowOk n)
def prevOf (l : List Int) (j : Nat) : Int := if j = 0 then -1 else l.getD (j - 1) 0
theorem prev_succ {l : List Int} {j : Nat} (h : j < l.length) : prevOf l (j + 1) = l[j] := by
  unfold prevOf
  rw [if_neg (by omega), Nat.add_sub_cancel, List.getD_eq_getElem?_getD, List.getElem?_eq_getElem h]
  rfl
theorem form_row (n : Int) (l : List S42) (i : Nat) (s : S42) (rt : Bool) (hs : s.f3.length ≤ 4611686018427387904)
    (ht : Ev (fun k => meta_Form.l0 k l (l.length : Int) (wrap64 ((i : Int) + 1)) n l) rt) :
    ∀ (d j : Nat), s.f3.length - j = d → j ≤ s.f3.length → (0 < j → 0 ≤ prevOf s.f3 j) →
    Ev (fun k => meta_Form.l1 k l (l.length : Int) (i : Int) s.f3 (s.f3.length : Int) (j : Int) n l s.f0 s.f1 s.f2 s.f3) (chk n (prevOf s.f3 j) (s.f3.drop j) && (decide (1 ≤ s.f1) && decide (s.f2 ∈ s.f3)) && rt) := by
  intro d
  induction d with
  | zero =>
    intro j hd hj _
    rw [List.drop_of_length_le (by omega)]
    by_cases h1 : s.f1 < 1
    · rw [decide_eq_false (show ¬ 1 ≤ s.f1 by omega)]
      exact ev_some (fun k => by simp only [meta_Form.l1]; rw [if_neg (by omega), if_pos h1]; simp [chk])
    · rw [decide_eq_true (show 1 ≤ s.f1 by omega)]
      refine Ev.step (f := fun k => (slices_Contains_int_int.f k s.f3 s.f2).bind fun t => if t = true then meta_Form.l0 k l (l.length : Int) (wrap64 ((i : Int) + 1)) n l else some false) (fun k => by simp only [meta_Form.l1]; rw [if_neg (by omega), if_neg h1]) ?_
      refine Ev.bind (f := fun k t => if t = true then meta_Form.l0 k l (l.length : Int) (wrap64 ((i : Int) + 1)) n l else some false) (contains_ev s.f3 s.f2 hs) ?_
      by_cases hc : s.f2 ∈ s.f3
      · simp only [hc, decide_true, if_true, chk, Bool.true_and]; exact ht
      · simp only [hc, decide_false, chk, Bool.true_and, Bool.false_and]; exact Ev.now _
  | succ d ih =>
    intro j hd hj hp
    have hlt : j < s.f3.length := by omega
    have hdr : s.f3.drop j = s.f3[j] :: s.f3.drop (j + 1) := List.drop_eq_getElem_cons hlt
    rw [hdr]
    simp only [chk]
    have hnext : 0 ≤ s.f3[j] → Ev (fun k => meta_Form.l1 k l (l.length : Int) (i : Int) s.f3 (s.f3.length : Int) ((j + 1 : Nat) : Int) n l s.f0 s.f1 s.f2 s.f3) (chk n s.f3[j] (s.f3.drop (j + 1)) && (decide (1 ≤ s.f1) && decide (s.f2 ∈ s.f3)) && rt) := by
      intro h0
      have := ih (j + 1) (by omega) (by omega) (fun _ => by rw [prev_succ hlt]; exact h0)
      rw [prev_succ hlt] at this
      exact this
    by_cases h0 : s.f3[j] < 0
    · have e : decide (prevOf s.f3 j < s.f3[j]) = false := by
        apply decide_eq_false
        by_cases hj0 : j = 0
        · subst hj0; unfold prevOf; rw [if_pos rfl]; omega
        · have := hp (by omega); omega
      rw [e]
      exact ev_some (fun k => by simp only [meta_Form.l1]; rw [if_pos (by omega), if_pos (by omega), if_pos (by omega), rd_nat hlt, if_pos h0]; rfl)
    · by_cases h1 : s.f3[j] ≥ n
      · rw [decide_eq_false (show ¬ s.f3[j] < n by omega), Bool.false_and, Bool.and_false]
        exact ev_some (fun k => by simp only [meta_Form.l1]; rw [if_pos (by omega), if_pos (by omega), if_pos (by omega), rd_nat hlt, if_neg h0, if_pos h1]; rfl)
      · rw [decide_eq_true (show s.f3[j] < n by omega), Bool.true_and]
        by_cases hj0 : j = 0
        · subst hj0
          rw [decide_eq_true (show prevOf s.f3 0 < s.f3[0] by unfold prevOf; rw [if_pos rfl]; omega), Bool.true_and]
          exact Ev.step (fun k => by simp only [meta_Form.l1]; rw [if_pos (by omega), if_pos (by omega), if_pos (by omega), rd_nat hlt, if_neg h0, if_neg h1, if_neg (by omega), w64s hlt (by omega)]) (hnext (by omega))
        · have hpj : prevOf s.f3 j = s.f3[j - 1] := by
            unfold prevOf; rw [if_neg hj0, List.getD_eq_getElem?_getD, List.getElem?_eq_getElem (by omega)]; rfl
          have hw : wrap64 ((j : Int) - 1) = ((j - 1 : Nat) : Int) := by rw [w64 (by omega) (by omega)]; omega
          have hrp : rd s.f3 ((j - 1 : Nat) : Int) = s.f3[j - 1] := rd_nat (by omega)
          rw [hpj]
          by_cases h2 : s.f3[j] ≤ s.f3[j - 1]
          · rw [decide_eq_false (show ¬ s.f3[j - 1] < s.f3[j] by omega)]
            exact ev_some (fun k => by simp only [meta_Form.l1]; rw [if_pos (by omega), if_pos (by omega), if_pos (by omega), rd_nat hlt, if_neg h0, if_neg h1, if_pos (by omega), hw, if_pos (by omega), if_pos (by omega), hrp, if_pos h2]; rfl)
          · rw [decide_eq_true (show s.f3[j - 1] < s.f3[j] by omega), Bool.true_and]
            exact Ev.step (fun k => by simp only [meta_Form.l1]; rw [if_pos (by omega), if_pos (by omega), if_pos (by omega), rd_nat hlt, if_neg h0, if_neg h1, if_pos (by omega), hw, if_pos (by omega), if_pos (by omega), hrp, if_neg h2, w64s hlt (by omega)]) (hnext (by omega))
def Small (s : S42) : Prop := 0 ≤ s.f1 ∧ s.f3.length ≤ 17592186043904
theorem form_rows (n : Int) (l : List S42) (hl : l.length ≤ 8) (hs : ∀ s ∈ l, Small s) : ∀ (d i : Nat), l.length - i = d → i ≤ l.length → Ev (fun k => meta_Form.l0 k l (l.length : Int) (i : Int) n l) ((l.drop i).all (rowOk n)) := by
  intro d
  induction d with
  | zero =>
    intro i hd hi
    rw [List.drop_of_length_le (by omega)]
    exact ev_some (fun k => by simp only [meta_Form.l0]; rw [if_neg (by omega)]; rfl)
  | succ d ih =>
    intro i hd hi
    have hlt : i < l.length := by omega
    have ht := ih (i + 1) (by omega) (by omega)
    rw [← w64s hlt (by omega)] at ht
    have hsm := hs _ (List.getElem_mem hlt)
    have hr := form_row n l i l[i] _ (by unfold Small at hsm; omega) ht l[i].f3.length 0 (by omega) (by omega) (fun h => by omega)
    rw [List.drop_eq_getElem_cons hlt]
    simp only [List.all_cons]
    refine Ev.step (fun k => ?_) hr
    simp only [meta_Form.l0]
    rw [if_pos (by omega), if_pos (by omega), if_pos (by omega), rdT_nat hlt]
    rfl
theorem meta_Form_ev (n : Int) (l : List S42) (hl : l.length ≤ 9223372036854775807) (hs : ∀ s ∈ l, Small s) : Ev (fun k => meta_Form.f k n l) (tabOk n l) := by
  have hno : Ev (fun k => meta_Form.j0 k true n l) false := ev_some (fun k => by simp only [meta_Form.j0]; rw [if_pos trivial])
  unfold tabOk
  by_cases h1 : n < 1
  · rw [decide_eq_false (by omega)]; exact Ev.congr (fun k => by unfold meta_Form.f; rw [if_pos h1]) hno
  by_cases h2 : n > 5
  · rw [decide_eq_false (by omega)]; exact Ev.congr (fun k => by unfold meta_Form.f; rw [if_neg h1, if_pos h2]) hno
  by_cases h3 : (l.length : Int) < 1
  · rw [decide_eq_false (by omega)]; exact Ev.congr (fun k => by unfold meta_Form.f; rw [if_neg h1, if_neg h2, if_pos h3]) hno
  by_cases h4 : (l.length : Int) > 8
  · rw [decide_eq_false (by omega)]; exact Ev.congr (fun k => by unfold meta_Form.f; rw [if_neg h1, if_neg h2, if_neg h3, decide_eq_true h4]) hno
  · rw [decide_eq_true (by omega), Bool.true_and]
    refine Ev.congr (f := fun k => meta_Form.j0 k false n l) (fun k => by unfold meta_Form.f; rw [if_neg h1, if_neg h2, if_neg h3, decide_eq_false h4]) ?_
    refine Ev.step (f := fun k => meta_Form.l0 k l (l.length : Int) 0 n l) (fun k => by simp only [meta_Form.j0]; rw [if_neg (by decide)]) ?_
    have := form_rows n l (by omega) hs l.length 0 (by omega) (by omega)
    rw [List.drop_zero] at this
    exact this

theorem copy_ev (n : Int) (l : List S42) (hl : l.length * 48 ≤ 140737488351232) (hs : ∀ s ∈ l, Small s) : Ev (fun k => meta_Copy.f k n l) (n, l) := by
  have key : ∀ (d i : Nat), l.length - i = d → i ≤ l.length → Ev (fun k => meta_Copy.l0 k l (l.length : Int) (i : Int) n (l.take i)) (n, l) := by
    intro d
    induction d with
    | zero =>
      intro i hd hi
      rw [List.take_of_length_le (by omega)]
      exact ev_some (fun k => by simp only [meta_Copy.l0]; rw [if_neg (by omega)])
    | succ d ih =>
      intro i hd hi
      have hlt : i < l.length := by omega
      have ht := ih (i + 1) (by omega) (by omega)
      have hsm := (hs _ (List.getElem_mem hlt)).2
      refine Ev.step (fun k => ?_) ht
      have e : l.take (i + 1) = l.take i ++ [(⟨l[i].f0, l[i].f1, l[i].f2, ([] : List Int) ++ l[i].f3⟩ : S42)] := by
        rw [List.take_succ_eq_append_getElem hlt]; rfl
      simp only [meta_Copy.l0]
      rw [if_pos (by omega), if_pos (by omega), if_pos (by omega), rdT_nat hlt, if_pos (by rw [List.length_nil]; omega), if_pos (by rw [List.length_take]; omega), w64s hlt (by omega), e]
  have := key l.length 0 (by omega) (by omega)
  exact Ev.congr (fun k => rfl) this

theorem chk_mem {n : Int} : ∀ {l : List Int} {last : Int}, chk n last l = true → ∀ x ∈ l, last < x ∧ x < n
  | [], _, _, x, hx => by simp at hx
  | y :: t, last, h, x, hx => by
    simp only [chk, Bool.and_eq_true, decide_eq_true_eq] at h
    rcases List.mem_cons.1 hx with rfl | hx
    · exact ⟨h.1, h.2.1⟩
    · have := chk_mem h.2.2 x hx; omega
theorem rowOk_mem {n : Int} {s : S42} (h : rowOk n s = true) : ∀ x ∈ s.f3, 0 ≤ x ∧ x < n := by
  intro x hx
  unfold rowOk at h
  simp only [Bool.and_eq_true] at h
  have := chk_mem h.1 x hx
  omega
def incL (ld : List Int) (x : Int) : List Int := ld.set x.toNat (rd ld x + 1)
def loadR (ld : List Int) (xs : List Int) : List Int := xs.foldl incL ld
def loadT (ld : List Int) (l : List S42) : List Int := l.foldl (fun ld s => loadR ld s.f3) ld
def pk (ld : List Int) : Nat → Nat → Int → Int → Int × Int
  | 0, _, f, t => (f, t)
  | d + 1, j, f, t => if rd ld (j : Int) > rd ld f then (if rd ld (j : Int) < rd ld t then pk ld d (j + 1) j j else pk ld d (j + 1) j t) else (if rd ld (j : Int) < rd ld t then pk ld d (j + 1) f j else pk ld d (j + 1) f t)
def mv (f t : Int) : List S42 → Nat → Int × Int × Int × Bool
  | [], _ => (0, 0, 0, false)
  | s :: r, i => if f ∈ s.f3 ∧ t ∉ s.f3 then ((i : Int), f, t, true) else mv f t r (i + 1)
def planL (ld : List Int) (l : List S42) (f t : Int) : Int × Int × Int × Bool := if rd ld f > rd ld t + 1 then mv f t l 0 else (0, 0, 0, false)
def plan (n : Int) (l : List S42) : Int × Int × Int × Bool :=
  if tabOk n l = true then planL (loadT (List.replicate n.toNat 0) l) l (pk (loadT (List.replicate n.toNat 0) l) n.toNat 0 0 0).1 (pk (loadT (List.replicate n.toNat 0) l) n.toNat 0 0 0).2 else (0, 0, 0, false)
def Bd (n : Int) (ld : List Int) (c : Nat) : Prop := ld.length = n.toNat ∧ ∀ x ∈ ld, 0 ≤ x ∧ x ≤ (c : Int)
theorem rd_mem {l : List Int} {x : Int} (h0 : 0 ≤ x) (h : x < (l.length : Int)) : rd l x ∈ l := by
  obtain ⟨j, rfl⟩ := Int.eq_ofNat_of_zero_le h0
  rw [rd_nat (by omega)]
  exact List.getElem_mem _
theorem Bd.inc {n : Int} {ld : List Int} {c : Nat} (h : Bd n ld c) {x : Int} (h0 : 0 ≤ x) (h1 : x < n) : Bd n (incL ld x) (c + 1) := by
  refine ⟨by unfold incL; rw [List.length_set]; exact h.1, fun y hy => ?_⟩
  have hr := h.2 _ (rd_mem (l := ld) h0 (by rw [h.1]; omega))
  unfold incL at hy
  rcases List.mem_or_eq_of_mem_set hy with hy | rfl
  · have := h.2 y hy; omega
  · omega
theorem Bd.row {n : Int} : ∀ {xs : List Int} {ld : List Int} {c : Nat}, Bd n ld c → (∀ x ∈ xs, 0 ≤ x ∧ x < n) → Bd n (loadR ld xs) (c + xs.length)
  | [], ld, c, h, _ => h
  | x :: t, ld, c, h, hx => by
    have := Bd.row (h.inc (hx x (by simp)).1 (hx x (by simp)).2) (fun y hy => hx y (by simp [hy])) (xs := t)
    have e : c + 1 + t.length = c + (x :: t).length := by simp; omega
    rw [e] at this
    exact this
theorem plan_row (n : Int) (l : List S42) (i : Nat) (s : S42) (r : Int × Int × Int × Bool) (hs : ∀ x ∈ s.f3, 0 ≤ x ∧ x < n) (hn : 0 ≤ n) (hl3 : s.f3.length ≤ 17592186043904) :
    ∀ (d j : Nat) (ld : List Int) (c : Nat), s.f3.length - j = d → j ≤ s.f3.length → Bd n ld c → c + d ≤ 4611686018427387904 →
    Ev (fun k => meta_Plan.l0 k 0 0 (loadR ld (s.f3.drop j)) l (l.length : Int) (wrap64 ((i : Int) + 1)) n l) r →
    Ev (fun k => meta_Plan.l1 k 0 0 ld l (l.length : Int) (i : Int) s.f3 (s.f3.length : Int) (j : Int) n l) r := by
  intro d
  induction d with
  | zero =>
    intro j ld c hd hj hb hc ht
    rw [List.drop_of_length_le (by omega)] at ht
    exact Ev.step (fun k => by simp only [meta_Plan.l1]; rw [if_neg (by omega)]; rfl) ht
  | succ d ih =>
    intro j ld c hd hj hb hc ht
    have hlt : j < s.f3.length := by omega
    have hx := hs _ (List.getElem_mem hlt)
    rw [List.drop_eq_getElem_cons hlt] at ht
    have hb2 := hb.inc hx.1 hx.2
    have hr := hb.2 _ (rd_mem (l := ld) hx.1 (by rw [hb.1]; omega))
    refine Ev.step (fun k => ?_) (ih (j + 1) (incL ld s.f3[j]) (c + 1) (by omega) (by omega) hb2 (by omega) ht)
    simp only [meta_Plan.l1]
    rw [if_pos (by omega), if_pos (by omega), if_pos (by omega), rd_nat hlt, if_pos hx.1, if_pos (by rw [hb.1]; omega), w64s hlt (by omega), w64 (x := rd ld s.f3[j] + 1) (by omega) (by omega)]
    rfl
theorem plan_rows (n : Int) (l : List S42) (r : Int × Int × Int × Bool) (hn : 0 ≤ n) (hl : l.length ≤ 8) (hs : ∀ s ∈ l, s.f3.length ≤ 17592186043904 ∧ ∀ x ∈ s.f3, 0 ≤ x ∧ x < n) :
    ∀ (d i : Nat) (ld : List Int) (c : Nat), l.length - i = d → i ≤ l.length → Bd n ld c → c + d * 17592186043904 ≤ 4611686018427387904 →
    Ev (fun k => meta_Plan.l2 k 0 0 (loadT ld (l.drop i)) ((loadT ld (l.drop i)).length : Int) 0 n l) r →
    Ev (fun k => meta_Plan.l0 k 0 0 ld l (l.length : Int) (i : Int) n l) r := by
  intro d
  induction d with
  | zero =>
    intro i ld c hd hi hb hc ht
    rw [List.drop_of_length_le (by omega)] at ht
    exact Ev.step (fun k => by simp only [meta_Plan.l0]; rw [if_neg (by omega)]; rfl) ht
  | succ d ih =>
    intro i ld c hd hi hb hc ht
    have hlt : i < l.length := by omega
    have hsi := hs _ (List.getElem_mem hlt)
    rw [List.drop_eq_getElem_cons hlt] at ht
    have h1 := ih (i + 1) (loadR ld l[i].f3) (c + l[i].f3.length) (by omega) (by omega) (hb.row hsi.2) (by omega) ht
    rw [← w64s hlt (by omega)] at h1
    have h2 := plan_row n l i l[i] r hsi.2 hn hsi.1 l[i].f3.length 0 ld c (by omega) (by omega) hb (by omega) (by rw [List.drop_zero]; exact h1)
    refine Ev.step (fun k => ?_) h2
    simp only [meta_Plan.l0]
    rw [if_pos (by omega), if_pos (by omega), if_pos (by omega), rdT_nat hlt]
    rfl
theorem pk_bd {ld : List Int} {N : Nat} : ∀ (d j : Nat) (f t : Int), j + d = N → 0 ≤ f → f < N → 0 ≤ t → t < N → 0 ≤ (pk ld d j f t).1 ∧ (pk ld d j f t).1 < N ∧ 0 ≤ (pk ld d j f t).2 ∧ (pk ld d j f t).2 < N
  | 0, _, f, t, _, h1, h2, h3, h4 => ⟨h1, h2, h3, h4⟩
  | d + 1, j, f, t, hj, h1, h2, h3, h4 => by
    simp only [pk]
    split
    · split
      · exact pk_bd d (j + 1) _ _ (by omega) (by omega) (by omega) (by omega) (by omega)
      · exact pk_bd d (j + 1) _ _ (by omega) (by omega) (by omega) (by omega) (by omega)
    · split
      · exact pk_bd d (j + 1) _ _ (by omega) (by omega) (by omega) (by omega) (by omega)
      · exact pk_bd d (j + 1) _ _ (by omega) (by omega) (by omega) (by omega) (by omega)
theorem plan_pick (n : Int) (l : List S42) (ld : List Int) (r : Int × Int × Int × Bool) (hln : ld.length ≤ 5) : ∀ (d j : Nat) (f t : Int), ld.length - j = d → j ≤ ld.length → 0 ≤ f → f < ld.length → 0 ≤ t → t < ld.length →
    Ev (fun k => meta_Plan.l3 k (pk ld d j f t).1 (pk ld d j f t).2 ld l (l.length : Int) 0) r →
    Ev (fun k => meta_Plan.l2 k f t ld (ld.length : Int) (j : Int) n l) r := by
  intro d
  induction d with
  | zero =>
    intro j f t hd hj h1 h2 h3 h4 ht
    exact Ev.step (fun k => by simp only [meta_Plan.l2]; rw [if_neg (by omega)]; rfl) ht
  | succ d ih =>
    intro j f t hd hj h1 h2 h3 h4 ht
    have hlt : j < ld.length := by omega
    simp only [pk] at ht
    by_cases c1 : rd ld (j : Int) > rd ld f
    · simp only [if_pos c1] at ht
      by_cases c2 : rd ld (j : Int) < rd ld t
      · simp only [if_pos c2] at ht
        exact Ev.step (fun k => by simp only [meta_Plan.l2]; rw [if_pos (by omega), if_pos (by omega), if_pos (by omega), if_pos h1, if_pos h2, if_pos c1, if_pos h3, if_pos h4, if_pos c2, w64s hlt (by omega)]) (ih (j + 1) _ _ (by omega) (by omega) (by omega) (by omega) (by omega) (by omega) ht)
      · simp only [if_neg c2] at ht
        exact Ev.step (fun k => by simp only [meta_Plan.l2]; rw [if_pos (by omega), if_pos (by omega), if_pos (by omega), if_pos h1, if_pos h2, if_pos c1, if_pos h3, if_pos h4, if_neg c2, w64s hlt (by omega)]) (ih (j + 1) _ _ (by omega) (by omega) (by omega) (by omega) (by omega) (by omega) ht)
    · simp only [if_neg c1] at ht
      by_cases c2 : rd ld (j : Int) < rd ld t
      · simp only [if_pos c2] at ht
        exact Ev.step (fun k => by simp only [meta_Plan.l2]; rw [if_pos (by omega), if_pos (by omega), if_pos (by omega), if_pos h1, if_pos h2, if_neg c1, if_pos h3, if_pos h4, if_pos c2, w64s hlt (by omega)]) (ih (j + 1) _ _ (by omega) (by omega) (by omega) (by omega) (by omega) (by omega) ht)
      · simp only [if_neg c2] at ht
        exact Ev.step (fun k => by simp only [meta_Plan.l2]; rw [if_pos (by omega), if_pos (by omega), if_pos (by omega), if_pos h1, if_pos h2, if_neg c1, if_pos h3, if_pos h4, if_neg c2, w64s hlt (by omega)]) (ih (j + 1) _ _ (by omega) (by omega) (by omega) (by omega) (by omega) (by omega) ht)
theorem plan_move (l : List S42) (ld : List Int) (f t : Int) (hl : l.length ≤ 8) (hs : ∀ s ∈ l, s.f3.length ≤ 4611686018427387904) (h1 : 0 ≤ f) (h2 : f < ld.length) (h3 : 0 ≤ t) (h4 : t < ld.length) (hb : -4611686018427387904 ≤ rd ld t ∧ rd ld t ≤ 4611686018427387904) :
    ∀ (d i : Nat), l.length - i = d → i ≤ l.length → Ev (fun k => meta_Plan.l3 k f t ld l (l.length : Int) (i : Int)) (if rd ld f > rd ld t + 1 then mv f t (l.drop i) i else (0, 0, 0, false)) := by
  intro d
  induction d with
  | zero =>
    intro i hd hi
    rw [List.drop_of_length_le (by omega)]
    exact ev_some (fun k => by simp only [meta_Plan.l3]; rw [if_neg (by omega)]; simp [mv])
  | succ d ih =>
    intro i hd hi
    have hlt : i < l.length := by omega
    have ht := ih (i + 1) (by omega) (by omega)
    have hsi := hs _ (List.getElem_mem hlt)
    have hw : wrap64 (rd ld t + 1) = rd ld t + 1 := w64 (by omega) (by omega)
    have step : ∀ k, meta_Plan.l3 (k + 1) f t ld l (l.length : Int) (i : Int) = if rd ld f > rd ld t + 1 then ((slices_Contains_int_int.f k l[i].f3 f).bind fun u => if u = true then ((slices_Contains_int_int.f k l[i].f3 t).bind fun v => if v = true then meta_Plan.l3 k f t ld l (l.length : Int) ((i + 1 : Nat) : Int) else some ((i : Int), f, t, true)) else meta_Plan.l3 k f t ld l (l.length : Int) ((i + 1 : Nat) : Int)) else meta_Plan.l3 k f t ld l (l.length : Int) ((i + 1 : Nat) : Int) := by
      intro k
      simp only [meta_Plan.l3]
      rw [if_pos (by omega), if_pos (by omega), if_pos (by omega), if_pos h1, if_pos h2, if_pos h3, if_pos h4, hw, rdT_nat hlt, w64s hlt (by omega)]
    rw [List.drop_eq_getElem_cons hlt]
    by_cases c : rd ld f > rd ld t + 1
    · rw [if_pos c] at ht ⊢
      simp only [if_pos c] at step
      refine Ev.step step ?_
      refine Ev.bind (f := fun k u => if u = true then ((slices_Contains_int_int.f k l[i].f3 t).bind fun v => if v = true then meta_Plan.l3 k f t ld l (l.length : Int) ((i + 1 : Nat) : Int) else some ((i : Int), f, t, true)) else meta_Plan.l3 k f t ld l (l.length : Int) ((i + 1 : Nat) : Int)) (contains_ev l[i].f3 f hsi) ?_
      simp only [mv]
      by_cases m1 : f ∈ l[i].f3
      · simp only [m1, decide_true, if_true, true_and]
        refine Ev.bind (f := fun k v => if v = true then meta_Plan.l3 k f t ld l (l.length : Int) ((i + 1 : Nat) : Int) else some ((i : Int), f, t, true)) (contains_ev l[i].f3 t hsi) ?_
        by_cases m2 : t ∈ l[i].f3
        · simp only [m2, decide_true, if_true, not_true_eq_false, if_false]; exact ht
        · simp only [m2, decide_false, not_false_eq_true, if_true, Bool.false_eq_true, if_false]; exact Ev.now _
      · simp only [m1, decide_false, Bool.false_eq_true, if_false, false_and]; exact ht
    · rw [if_neg c] at ht ⊢
      simp only [if_neg c] at step
      exact Ev.step step ht
theorem loadT_bd {n : Int} : ∀ {l : List S42} {ld : List Int} {c : Nat}, Bd n ld c → (∀ s ∈ l, s.f3.length ≤ 17592186043904 ∧ ∀ x ∈ s.f3, 0 ≤ x ∧ x < n) → ∃ c', Bd n (loadT ld l) c' ∧ c' ≤ c + l.length * 17592186043904
  | [], ld, c, h, _ => ⟨c, h, by simp⟩
  | s :: r, ld, c, h, hs => by
    obtain ⟨c', h1, h2⟩ := loadT_bd (l := r) (h.row (hs s (by simp)).2) (fun s hs' => hs s (by simp [hs']))
    refine ⟨c', h1, ?_⟩
    have := (hs s (by simp)).1
    simp only [List.length_cons]
    omega
theorem Bd.zero (n : Int) : Bd n (List.replicate n.toNat 0) 0 := ⟨by simp, fun x hx => by have := (List.mem_replicate.1 hx).2; omega⟩
theorem tabOk_parts {n : Int} {l : List S42} (h : tabOk n l = true) : 1 ≤ n ∧ n ≤ 5 ∧ 1 ≤ l.length ∧ l.length ≤ 8 ∧ ∀ s ∈ l, rowOk n s = true := by
  unfold tabOk at h
  simp only [Bool.and_eq_true, decide_eq_true_eq, List.all_eq_true] at h
  exact ⟨h.1.1, h.1.2.1, h.1.2.2.1, h.1.2.2.2, h.2⟩
theorem meta_Plan_ev (n : Int) (l : List S42) (hl : l.length ≤ 9223372036854775807) (hs : ∀ s ∈ l, Small s) : Ev (fun k => meta_Plan.f k n l) (plan n l) := by
  unfold meta_Plan.f
  refine Ev.bind (f := fun k t => if t = true then (if 0 ≤ n then (if (n : Int).toNat ≤ 35184372088832 then (meta_Plan.l0 k 0 0 (List.replicate (n : Int).toNat 0) l (l.length : Int) 0 n l) else (none)) else (none)) else (some (0, 0, 0, false))) (meta_Form_ev n l hl hs) ?_
  unfold plan
  by_cases h : tabOk n l = true
  · obtain ⟨h1, h2, h3, h4, h5⟩ := tabOk_parts h
    have hsx : ∀ s ∈ l, s.f3.length ≤ 17592186043904 ∧ ∀ x ∈ s.f3, 0 ≤ x ∧ x < n := fun s hsl => ⟨(hs s hsl).2, rowOk_mem (h5 s hsl)⟩
    obtain ⟨c, hb, hc⟩ := loadT_bd (Bd.zero n) hsx
    simp only [if_pos h, if_pos (show 0 ≤ n by omega), if_pos (show n.toNat ≤ 35184372088832 by omega)]
    generalize hld : loadT (List.replicate n.toNat 0) l = ld at *
    have hN := hb.1
    have hp := pk_bd (ld := ld) (N := n.toNat) n.toNat 0 0 0 (by omega) (by omega) (by omega) (by omega) (by omega)
    have ht := hb.2 _ (rd_mem (l := ld) hp.2.2.1 (by rw [hN]; exact hp.2.2.2))
    have hm := plan_move l ld (pk ld n.toNat 0 0 0).1 (pk ld n.toNat 0 0 0).2 h4 (fun s hsl => by have := (hsx s hsl).1; omega) hp.1 (by rw [hN]; exact hp.2.1) hp.2.2.1 (by rw [hN]; exact hp.2.2.2) ⟨by omega, by omega⟩ l.length 0 (by omega) (by omega)
    rw [List.drop_zero] at hm
    have hpk := plan_pick n l ld _ (by omega) n.toNat 0 0 0 (by omega) (by omega) (by omega) (by omega) (by omega) (by omega) hm
    have hr := plan_rows n l _ (by omega) h4 hsx l.length 0 (List.replicate n.toNat 0) 0 (by omega) (by omega) (Bd.zero n) (by omega) (by rw [List.drop_zero, hld]; exact hpk)
    exact hr
  · simp only [if_neg h]
    exact Ev.now _

open Go.Proofs.Ytkoaeiiaagipeaa.G
theorem chk_iff {n : Int} : ∀ {l : List Int} {last : Int}, chk n last l = true ↔ (∀ x ∈ l, last < x ∧ x < n) ∧ l.Pairwise (· < ·)
  | [], last => by simp [chk]
  | y :: t, last => by
    simp only [chk, Bool.and_eq_true, decide_eq_true_eq, chk_iff (l := t), List.mem_cons, List.pairwise_cons]
    constructor
    · rintro ⟨h1, h2, h3, h4⟩
      refine ⟨?_, fun z hz => (h3 z hz).1, h4⟩
      rintro x (rfl | hx)
      · exact ⟨h1, h2⟩
      · have := h3 x hx; omega
    · rintro ⟨h1, h2, h3⟩
      exact ⟨(h1 y (Or.inl rfl)).1, (h1 y (Or.inl rfl)).2, fun x hx => ⟨h2 x hx, (h1 x (Or.inr hx)).2⟩, h3⟩
theorem rising_len {n : Int} : ∀ {l : List Int} {last : Int}, (∀ x ∈ l, last < x ∧ x < n) → l.Pairwise (· < ·) → last < n → (l.length : Int) ≤ n - 1 - last
  | [], last, _, _, h => by simp; omega
  | y :: t, last, h1, h2, h => by
    have h3 := List.pairwise_cons.1 h2
    have hy := h1 y (by simp)
    have := rising_len (l := t) (last := y) (fun x hx => ⟨h3.1 x hx, (h1 x (by simp [hx])).2⟩) h3.2 hy.2
    simp only [List.length_cons]
    omega
theorem rowOk_iff {n : Int} {s : S42} : rowOk n s = true ↔ (∀ x ∈ s.f3, 0 ≤ x ∧ x < n) ∧ s.f3.Pairwise (· < ·) ∧ 1 ≤ s.f1 ∧ s.f2 ∈ s.f3 := by
  unfold rowOk
  simp only [Bool.and_eq_true, decide_eq_true_eq, chk_iff]
  constructor
  · rintro ⟨⟨h1, h2⟩, h3, h4⟩; exact ⟨fun x hx => by have := h1 x hx; omega, h2, h3, h4⟩
  · rintro ⟨h1, h2, h3, h4⟩; exact ⟨⟨fun x hx => by have := h1 x hx; omega, h2⟩, h3, h4⟩
theorem tabOk_iff {n : Int} {l : List S42} : tabOk n l = true ↔ (1 ≤ n ∧ n ≤ 5 ∧ 1 ≤ l.length ∧ l.length ≤ 8) ∧ ∀ s ∈ l, rowOk n s = true := by
  unfold tabOk
  simp only [Bool.and_eq_true, decide_eq_true_eq, List.all_eq_true]
/-- a right table whose numbers of changes are at most c -/
def Inv (n : Int) (l : List S42) (c : Int) : Prop := tabOk n l = true ∧ ∀ s ∈ l, 0 ≤ s.f0 ∧ s.f0 ≤ c ∧ s.f1 ≤ c + 1
theorem Inv.small {n : Int} {l : List S42} {c : Int} (h : Inv n l c) : ∀ s ∈ l, Small s := by
  intro s hs
  have h1 := tabOk_iff.1 h.1
  have h2 := rowOk_iff.1 (h1.2 s hs)
  have := rising_len (n := n) (l := s.f3) (last := -1) (fun x hx => by have := h2.1 x hx; omega) h2.2.1 (by omega)
  exact ⟨by omega, by omega⟩
theorem mem_set_or {α : Type} {l : List α} {i : Nat} {a x : α} (h : x ∈ l.set i a) : x ∈ l ∨ x = a := List.mem_or_eq_of_mem_set h
theorem Inv.set {n : Int} {l : List S42} {c : Int} (h : Inv n l c) (i : Nat) (s : S42) (h1 : rowOk n s = true) (h2 : 0 ≤ s.f0) (h3 : s.f0 ≤ c + 1) (h4 : s.f1 ≤ c + 2) : Inv n (l.set i s) (c + 1) := by
  have ht := tabOk_iff.1 h.1
  refine ⟨tabOk_iff.2 ⟨by rw [List.length_set]; exact ht.1, fun x hx => ?_⟩, fun x hx => ?_⟩
  · rcases mem_set_or hx with hx | rfl
    · exact ht.2 x hx
    · exact h1
  · rcases mem_set_or hx with hx | rfl
    · have := h.2 x hx; omega
    · omega
theorem Inv.more {n : Int} {l : List S42} {c c' : Int} (h : Inv n l c) (hc : c ≤ c') : Inv n l c' := ⟨h.1, fun s hs => by have := h.2 s hs; omega⟩
theorem apply_ev {n : Int} {l : List S42} {c : Int} (h : Inv n l c) (kd nd rv : Int) (i : Nat) (hi : i < l.length) (h0 : 0 ≤ nd) (h1 : nd < n) {r : Int × List S42 × Bool} (hg : meta_Apply.g n l kd (i : Int) nd rv l[i] (decide (nd ∈ l[i].f3)) = some r) :
    Ev (fun k => meta_Apply.f k n l kd (i : Int) nd rv) r := by
  have hs := h.small
  have ht := tabOk_iff.1 h.1
  unfold meta_Apply.f
  refine Ev.bind (a := (n, l)) (f := fun k b => (meta_Form.f k n l).bind fun t => if t = true ∧ 0 ≤ (i : Int) ∧ (i : Int) < (l.length : Int) ∧ 0 ≤ nd ∧ nd < n then (if (i : Int) < (b.2.length : Int) then (slices_Contains_int_int.f k (rd_T42 b.2 (i : Int)).f3 nd).bind fun z => meta_Apply.g b.1 b.2 kd (i : Int) nd rv (rd_T42 b.2 (i : Int)) z else none) else some (b.1, b.2, false)) (copy_ev n l (by omega) hs) ?_
  refine Ev.bind (f := fun k t => if t = true ∧ 0 ≤ (i : Int) ∧ (i : Int) < (l.length : Int) ∧ 0 ≤ nd ∧ nd < n then (if (i : Int) < (l.length : Int) then (slices_Contains_int_int.f k (rd_T42 l (i : Int)).f3 nd).bind fun z => meta_Apply.g n l kd (i : Int) nd rv (rd_T42 l (i : Int)) z else none) else some (n, l, false)) (meta_Form_ev n l (by omega) hs) ?_
  simp only [if_pos (show tabOk n l = true ∧ 0 ≤ (i : Int) ∧ (i : Int) < (l.length : Int) ∧ 0 ≤ nd ∧ nd < n from ⟨h.1, by omega, by omega, h0, h1⟩), if_pos (show (i : Int) < (l.length : Int) by omega), rdT_nat hi]
  refine Ev.bind (f := fun k z => meta_Apply.g n l kd (i : Int) nd rv l[i] z) (contains_ev l[i].f3 nd (by have := (hs _ (List.getElem_mem hi)).2; omega)) ?_
  rw [hg]
  exact Ev.now _
theorem apply_no {n : Int} {l : List S42} (hl : l.length * 48 ≤ 140737488351232) (hs : ∀ s ∈ l, Small s) (kd sd nd rv : Int) (hno : ¬ (tabOk n l = true ∧ 0 ≤ sd ∧ sd < (l.length : Int) ∧ 0 ≤ nd ∧ nd < n)) :
    Ev (fun k => meta_Apply.f k n l kd sd nd rv) (n, l, false) := by
  unfold meta_Apply.f
  refine Ev.bind (a := (n, l)) (f := fun k b => (meta_Form.f k n l).bind fun t => if t = true ∧ 0 ≤ sd ∧ sd < (l.length : Int) ∧ 0 ≤ nd ∧ nd < n then (if sd < (b.2.length : Int) then (slices_Contains_int_int.f k (rd_T42 b.2 sd).f3 nd).bind fun z => meta_Apply.g b.1 b.2 kd sd nd rv (rd_T42 b.2 sd) z else none) else some (b.1, b.2, false)) (copy_ev n l hl hs) ?_
  refine Ev.bind (f := fun k t => if t = true ∧ 0 ≤ sd ∧ sd < (l.length : Int) ∧ 0 ≤ nd ∧ nd < n then (if sd < (l.length : Int) then (slices_Contains_int_int.f k (rd_T42 l sd).f3 nd).bind fun z => meta_Apply.g n l kd sd nd rv (rd_T42 l sd) z else none) else some (n, l, false)) (meta_Form_ev n l (by omega) hs) ?_
  simp only [if_neg hno]
  exact Ev.now _
theorem sort_some {l : List Int} (h : l ≠ []) (hl : l.length < 140737488355328) : slices_Sort_int_int.f l = some (sortI l) := by
  unfold slices_Sort_int_int.f
  rw [if_neg h, if_pos hl]
theorem lt_of_le_nodup : ∀ {l : List Int}, l.Pairwise (· ≤ ·) → l.Nodup → l.Pairwise (· < ·)
  | [], _, _ => List.Pairwise.nil
  | x :: t, h, hn => by
    have h1 := List.pairwise_cons.1 h
    have h2 := List.nodup_cons.1 hn
    refine List.pairwise_cons.2 ⟨fun y hy => ?_, lt_of_le_nodup h1.2 h2.2⟩
    have := h1.1 y hy
    have : x ≠ y := fun e => h2.1 (e ▸ hy)
    omega
theorem nodup_of_lt {l : List Int} (h : l.Pairwise (· < ·)) : l.Nodup := h.imp (fun hxy => by omega)
theorem ins_ok {n nd : Int} {l : List Int} (h1 : ∀ x ∈ l, 0 ≤ x ∧ x < n) (h2 : l.Pairwise (· < ·)) (h3 : nd ∉ l) (h4 : 0 ≤ nd) (h5 : nd < n) : (∀ x ∈ sortI (l ++ [nd]), 0 ≤ x ∧ x < n) ∧ (sortI (l ++ [nd])).Pairwise (· < ·) := by
  have hp := sortI_perm (l ++ [nd])
  refine ⟨fun x hx => ?_, lt_of_le_nodup (sortI_rising _) (hp.nodup_iff.2 ?_)⟩
  · rcases List.mem_append.1 (hp.mem_iff.1 hx) with h | h
    · exact h1 x h
    · rw [List.mem_singleton.1 h]; exact ⟨h4, h5⟩
  · rw [List.nodup_append]
    exact ⟨nodup_of_lt h2, by simp, fun a ha b hb => by rw [List.mem_singleton.1 hb]; exact fun e => h3 (e ▸ ha)⟩
theorem wu1 {x : Int} (h0 : 0 ≤ x) (h1 : x ≤ 1000000) : IntKind.u64.wrap (x + 1) = x + 1 := wu64 (by omega) (by omega)
theorem g_add {n : Int} {l : List S42} {c : Int} (h : Inv n l c) (hc : c ≤ 900000) (i : Nat) (hi : i < l.length) (nd : Int) (h3 : nd ∉ l[i].f3) (h4 : 0 ≤ nd) (h5 : nd < n) :
    meta_Apply.g n l 2 (i : Int) nd l[i].f0 l[i] (decide (nd ∈ l[i].f3)) = some (n, l.set i ⟨l[i].f0 + 1, l[i].f1, l[i].f2, sortI (l[i].f3 ++ [nd])⟩, true) := by
  have hv := h.2 _ (List.getElem_mem hi)
  have hsm := h.small _ (List.getElem_mem hi)
  rw [decide_eq_false h3]
  unfold meta_Apply.g
  rw [if_neg (by simp), if_neg (by omega), if_neg (by omega), if_neg (by simp), if_pos ⟨rfl, rfl⟩, if_pos (by have := hsm.2; omega), sort_some (by simp) (by have := hsm.2; simp; omega), Option.bind_some, Int.toNat_natCast, wu1 hv.1 (by omega)]
theorem g_pro {n : Int} {l : List S42} {c : Int} (h : Inv n l c) (hc : c ≤ 900000) (i : Nat) (hi : i < l.length) (nd : Int) (h3 : nd ∈ l[i].f3) :
    meta_Apply.g n l 1 (i : Int) nd l[i].f0 l[i] (decide (nd ∈ l[i].f3)) = some (n, l.set i ⟨l[i].f0 + 1, l[i].f1 + 1, nd, l[i].f3⟩, true) := by
  have hv := h.2 _ (List.getElem_mem hi)
  have hsm := h.small _ (List.getElem_mem hi)
  rw [decide_eq_true h3]
  unfold meta_Apply.g
  rw [if_neg (by simp), if_neg (by omega), if_neg (by omega), if_pos ⟨rfl, rfl⟩, Int.toNat_natCast, wu1 hv.1 (by omega), wu1 hsm.1 (by omega)]
theorem g_rem {n : Int} {l : List S42} {c : Int} (h : Inv n l c) (hc : c ≤ 900000) (i : Nat) (hi : i < l.length) (nd : Int) (h3 : nd ∈ l[i].f3) (h4 : nd ≠ l[i].f2) :
    meta_Apply.g n l 3 (i : Int) nd l[i].f0 l[i] (decide (nd ∈ l[i].f3)) = some (n, l.set i ⟨l[i].f0 + 1, l[i].f1, l[i].f2, l[i].f3.filter fun x => !(x == nd)⟩, true) := by
  have hv := h.2 _ (List.getElem_mem hi)
  rw [decide_eq_true h3]
  unfold meta_Apply.g
  rw [if_neg (by simp), if_neg (by omega), if_neg (by omega), if_neg (by simp), if_neg (by simp), if_pos ⟨rfl, rfl, h4⟩, if_neg (fun e => by rw [e] at h3; simp at h3), Int.toNat_natCast, wu1 hv.1 (by omega)]
theorem ok_add {n : Int} {s : S42} (hr : rowOk n s = true) {nd : Int} (h3 : nd ∉ s.f3) (h4 : 0 ≤ nd) (h5 : nd < n) (a : Int) : rowOk n ⟨a, s.f1, s.f2, sortI (s.f3 ++ [nd])⟩ = true := by
  have h := rowOk_iff.1 hr
  have hi := ins_ok h.1 h.2.1 h3 h4 h5
  exact rowOk_iff.2 ⟨hi.1, hi.2, h.2.2.1, (sortI_perm _).mem_iff.2 (List.mem_append_left _ h.2.2.2)⟩
theorem ok_pro {n : Int} {s : S42} (hr : rowOk n s = true) {nd : Int} (h3 : nd ∈ s.f3) (a : Int) : rowOk n ⟨a, s.f1 + 1, nd, s.f3⟩ = true := by
  have h := rowOk_iff.1 hr
  exact rowOk_iff.2 ⟨h.1, h.2.1, by show 1 ≤ s.f1 + 1; omega, h3⟩
theorem ok_rem {n : Int} {s : S42} (hr : rowOk n s = true) {nd : Int} (h4 : nd ≠ s.f2) (a : Int) : rowOk n ⟨a, s.f1, s.f2, s.f3.filter fun x => !(x == nd)⟩ = true := by
  have h := rowOk_iff.1 hr
  exact rowOk_iff.2 ⟨fun x hx => h.1 x (List.mem_filter.1 hx).1, h.2.1.filter _, h.2.2.1, List.mem_filter.2 ⟨h.2.2.2, by simp; exact fun e => h4 e.symm⟩⟩
/-- whatever the command: done or not, the table stays right -/
theorem apply_any {n : Int} {l : List S42} {c : Int} (h : Inv n l c) (hc : c ≤ 900000) (kd sd nd rv : Int) :
    ∃ l' b, Ev (fun k => meta_Apply.f k n l kd sd nd rv) (n, l', b) ∧ Inv n l' (c + 1) ∧ l'.length = l.length := by
  have ht := tabOk_iff.1 h.1
  have hno : ∀ r : Int × List S42 × Bool, r = (n, l, false) → ∃ l' b, r = (n, l', b) ∧ Inv n l' (c + 1) ∧ l'.length = l.length := fun r hr => ⟨l, false, hr, h.more (by omega), rfl⟩
  by_cases hy : tabOk n l = true ∧ 0 ≤ sd ∧ sd < (l.length : Int) ∧ 0 ≤ nd ∧ nd < n
  · obtain ⟨_, h1, h2, h3, h4⟩ := hy
    obtain ⟨i, rfl⟩ := Int.eq_ofNat_of_zero_le h1
    have hi : i < l.length := by omega
    have hrow := ht.2 _ (List.getElem_mem hi)
    have hv := h.2 _ (List.getElem_mem hi)
    have hsm := h.small _ (List.getElem_mem hi)
    have key : ∃ r, meta_Apply.g n l kd (i : Int) nd rv l[i] (decide (nd ∈ l[i].f3)) = some r ∧ ∃ l' b, r = (n, l', b) ∧ Inv n l' (c + 1) ∧ l'.length = l.length := by
      by_cases e0 : rv = l[i].f0
      · subst e0
        by_cases m : nd ∈ l[i].f3
        · by_cases k1 : kd = 1
          · subst k1
            exact ⟨_, g_pro h hc i hi nd m, _, _, rfl, h.set i _ (ok_pro hrow m _) (by show 0 ≤ l[i].f0 + 1; omega) (by show l[i].f0 + 1 ≤ _; omega) (by show l[i].f1 + 1 ≤ _; omega), List.length_set⟩
          · by_cases k3 : kd = 3 ∧ nd ≠ l[i].f2
            · obtain ⟨rfl, k3⟩ := k3
              exact ⟨_, g_rem h hc i hi nd m k3, _, _, rfl, h.set i _ (ok_rem hrow k3 _) (by show 0 ≤ l[i].f0 + 1; omega) (by show l[i].f0 + 1 ≤ _; omega) (by show l[i].f1 ≤ _; omega), List.length_set⟩
            · refine ⟨(n, l, false), ?_, hno _ rfl⟩
              rw [decide_eq_true m]
              unfold meta_Apply.g
              rw [if_neg (by simp), if_neg (by omega), if_neg (by omega), if_neg (fun e => k1 e.1), if_neg (by simp), if_neg (fun e => k3 ⟨e.1, e.2.2⟩)]
        · by_cases k2 : kd = 2
          · subst k2
            exact ⟨_, g_add h hc i hi nd m h3 h4, _, _, rfl, h.set i _ (ok_add hrow m h3 h4 _) (by show 0 ≤ l[i].f0 + 1; omega) (by show l[i].f0 + 1 ≤ _; omega) (by show l[i].f1 ≤ _; omega), List.length_set⟩
          · refine ⟨(n, l, false), ?_, hno _ rfl⟩
            rw [decide_eq_false m]
            unfold meta_Apply.g
            rw [if_neg (by simp), if_neg (by omega), if_neg (by omega), if_neg (by simp), if_neg (fun e => k2 e.1), if_neg (by simp)]
      · refine ⟨(n, l, false), ?_, hno _ rfl⟩
        unfold meta_Apply.g
        rw [if_pos e0]
    obtain ⟨r, hg, l', b, rfl, h5, h6⟩ := key
    exact ⟨l', b, apply_ev h kd nd rv i hi h3 h4 hg, h5, h6⟩
  · exact ⟨l, false, apply_no (by omega) h.small kd sd nd rv hy, h.more (by omega), rfl⟩

def tot (l : List S42) (x : Int) : Int := (l.map (fun s => (s.f3.count x : Int))).sum
def sq (ld : List Int) : Int := (ld.map (fun x => x * x)).sum
theorem rd_set_eq {l : List Int} {i : Nat} {v : Int} (h : i < l.length) : rd (l.set i v) (i : Int) = v := by
  unfold rd
  rw [Int.toNat_natCast, List.getD_eq_getElem?_getD, List.getElem?_set_self h]
  rfl
theorem rd_set_ne {l : List Int} {i j : Nat} {v : Int} (h : i ≠ j) : rd (l.set i v) (j : Int) = rd l (j : Int) := by
  unfold rd
  rw [Int.toNat_natCast, List.getD_eq_getElem?_getD, List.getD_eq_getElem?_getD, List.getElem?_set_ne h]
theorem loadR_rd {n : Int} : ∀ {xs : List Int} {ld : List Int}, ld.length = n.toNat → (∀ x ∈ xs, 0 ≤ x ∧ x < n) → ∀ (j : Nat), j < n.toNat → rd (loadR ld xs) (j : Int) = rd ld (j : Int) + (xs.count (j : Int) : Int)
  | [], ld, _, _, j, _ => by simp [loadR]
  | x :: t, ld, hl, hx, j, hj => by
    have h0 := hx x (by simp)
    obtain ⟨i, rfl⟩ := Int.eq_ofNat_of_zero_le h0.1
    have ih := loadR_rd (xs := t) (ld := incL ld (i : Int)) (by unfold incL; rw [List.length_set]; exact hl) (fun y hy => hx y (by simp [hy])) j hj
    show rd (loadR (incL ld (i : Int)) t) (j : Int) = _
    rw [ih]
    by_cases e : i = j
    · subst e
      have : rd (incL ld (i : Int)) (i : Int) = rd ld (i : Int) + 1 := by unfold incL; rw [Int.toNat_natCast]; exact rd_set_eq (by omega)
      rw [this, List.count_cons_self]; omega
    · have : rd (incL ld (i : Int)) (j : Int) = rd ld (j : Int) := by unfold incL; rw [Int.toNat_natCast]; exact rd_set_ne e
      rw [this, List.count_cons_of_ne (by omega)]
theorem loadR_len : ∀ {xs : List Int} {ld : List Int}, (loadR ld xs).length = ld.length
  | [], ld => rfl
  | x :: t, ld => by
    show (loadR (incL ld x) t).length = _
    rw [loadR_len (xs := t)]
    unfold incL
    rw [List.length_set]
theorem loadT_rd {n : Int} : ∀ {l : List S42} {ld : List Int}, ld.length = n.toNat → (∀ s ∈ l, ∀ x ∈ s.f3, 0 ≤ x ∧ x < n) → ∀ (j : Nat), j < n.toNat → rd (loadT ld l) (j : Int) = rd ld (j : Int) + tot l (j : Int)
  | [], ld, _, _, j, _ => by simp [loadT, tot]
  | s :: r, ld, hl, hs, j, hj => by
    show rd (loadT (loadR ld s.f3) r) (j : Int) = _
    rw [loadT_rd (l := r) (by rw [loadR_len]; exact hl) (fun s' h' => hs s' (by simp [h'])) j hj, loadR_rd hl (hs s (by simp)) j hj]
    simp only [tot, List.map_cons, List.sum_cons]
    omega
theorem rd_zero (n : Nat) (j : Nat) : rd (List.replicate n 0) (j : Int) = 0 := by
  unfold rd
  rw [Int.toNat_natCast, List.getD_eq_getElem?_getD, List.getElem?_replicate]
  split <;> rfl
def lds (n : Int) (l : List S42) : List Int := loadT (List.replicate n.toNat 0) l
theorem lds_rd {n : Int} {l : List S42} (hs : ∀ s ∈ l, ∀ x ∈ s.f3, 0 ≤ x ∧ x < n) (j : Nat) (hj : j < n.toNat) : rd (lds n l) (j : Int) = tot l (j : Int) := by
  unfold lds
  rw [loadT_rd (by simp) hs j hj, rd_zero]; omega
theorem loadT_len : ∀ {l : List S42} {ld : List Int}, (loadT ld l).length = ld.length
  | [], ld => rfl
  | s :: r, ld => by
    show (loadT (loadR ld s.f3) r).length = _
    rw [loadT_len (l := r), loadR_len]
theorem lds_len (n : Int) (l : List S42) : (lds n l).length = n.toNat := by unfold lds; rw [loadT_len, List.length_replicate]
theorem tot_le {l : List S42} {x : Int} (h : ∀ s ∈ l, s.f3.Nodup) : 0 ≤ tot l x ∧ tot l x ≤ l.length := by
  induction l with
  | nil => simp [tot]
  | cons s r ih =>
    have h1 := ih (fun s' h' => h s' (by simp [h']))
    have h2 := List.nodup_iff_count.1 (h s (by simp)) x
    simp only [tot, List.map_cons, List.sum_cons, List.length_cons] at h1 ⊢
    omega
theorem tot_set {l : List S42} {i : Nat} (hi : i < l.length) (s : S42) (x : Int) : tot (l.set i s) x = tot l x - (l[i].f3.count x : Int) + (s.f3.count x : Int) := by
  induction l generalizing i with
  | nil => simp at hi
  | cons a r ih =>
    cases i with
    | zero => simp only [List.set_cons_zero, tot, List.map_cons, List.sum_cons, List.getElem_cons_zero]; omega
    | succ i =>
      have := ih (i := i) (by simpa using hi)
      simp only [List.set_cons_succ, tot, List.map_cons, List.sum_cons, List.getElem_cons_succ] at this ⊢
      omega
theorem sum_set (f : Int → Int) {l : List Int} {i : Nat} (hi : i < l.length) (v : Int) : ((l.set i v).map f).sum = (l.map f).sum - f (rd l (i : Int)) + f v := by
  induction l generalizing i with
  | nil => simp at hi
  | cons a r ih =>
    cases i with
    | zero => simp only [List.set_cons_zero, List.map_cons, List.sum_cons, rd_nat (show 0 < (a :: r).length by simp), List.getElem_cons_zero]; omega
    | succ i =>
      have := ih (i := i) (by simpa using hi)
      have hi' : i < r.length := by simpa using hi
      rw [rd_nat hi'] at this
      rw [rd_nat hi]
      simp only [List.set_cons_succ, List.map_cons, List.sum_cons, List.getElem_cons_succ] at this ⊢
      omega
theorem sq_low (c : Int) : ∀ ld : List Int, 2 * (c * ld.sum) - ld.length * (c * c) ≤ sq ld
  | [] => by simp [sq]
  | x :: t => by
    have ih := sq_low c t
    have h : 0 ≤ (x - c) * (x - c) := by
      rcases Int.le_total 0 (x - c) with h | h
      · exact Int.mul_nonneg h h
      · have := Int.mul_nonneg (show 0 ≤ -(x - c) by omega) (show 0 ≤ -(x - c) by omega); rwa [Int.neg_mul_neg] at this
    have e : (x - c) * (x - c) = x * x - 2 * (c * x) + c * c := by
      rw [Int.sub_mul, Int.mul_sub, Int.mul_sub, Int.mul_comm x c]; omega
    have e2 : (((t.length + 1 : Nat)) : Int) * (c * c) = t.length * (c * c) + c * c := by
      rw [Int.natCast_add, Int.add_mul]; simp
    simp only [sq, List.map_cons, List.sum_cons, List.length_cons] at ih ⊢
    rw [e2, Int.mul_add]
    omega
theorem sq_high : ∀ ld : List Int, (∀ x ∈ ld, 0 ≤ x ∧ x ≤ 8) → sq ld ≤ 8 * ld.sum ∧ 0 ≤ ld.sum ∧ ld.sum ≤ 8 * ld.length
  | [], _ => by simp [sq]
  | x :: t, h => by
    have ih := sq_high t (fun y hy => h y (by simp [hy]))
    have hx := h x (by simp)
    have : x * x ≤ 8 * x := Int.mul_le_mul_of_nonneg_right hx.2 hx.1
    simp only [sq, List.map_cons, List.sum_cons, List.length_cons] at ih ⊢
    omega
theorem bound_dec : ∀ n : Fin 6, ∀ T : Fin 41, 1 ≤ n.val → T.val ≤ 8 * n.val → 8 * (T.val : Int) - (2 * (((T.val / n.val : Nat) : Int) * (T.val : Int)) - (n.val : Int) * (((T.val / n.val : Nat) : Int) * ((T.val / n.val : Nat) : Int))) ≤ 83 := by decide +kernel
theorem mv_spec {f t : Int} : ∀ {l : List S42} {j : Nat}, (mv f t l j = (0, 0, 0, false)) ∨ ∃ i, ∃ hi : i < l.length, mv f t l j = (((j + i : Nat) : Int), f, t, true) ∧ f ∈ l[i].f3 ∧ t ∉ l[i].f3
  | [], _ => .inl rfl
  | s :: r, j => by
    by_cases h : f ∈ s.f3 ∧ t ∉ s.f3
    · exact .inr ⟨0, by simp, by simp only [mv]; rw [if_pos h]; simp, h⟩
    · rcases mv_spec (f := f) (t := t) (l := r) (j := j + 1) with e | ⟨i, hi, e, h1, h2⟩
      · exact .inl (by simp only [mv]; rw [if_neg h]; exact e)
      · refine .inr ⟨i + 1, by simpa using hi, ?_, by simpa using h1, by simpa using h2⟩
        simp only [mv]
        rw [if_neg h, e, show j + 1 + i = j + (i + 1) by omega]
theorem list_ext_rd {a b : List Int} (hl : a.length = b.length) (h : ∀ j : Nat, j < a.length → rd a (j : Int) = rd b (j : Int)) : a = b := by
  apply List.ext_getElem hl
  intro j h1 h2
  have := h j h1
  rw [rd_nat h1, rd_nat h2] at this
  exact this
/-- the counts behind a move, and what becomes of the sums -/
theorem move_sums {n : Int} {l : List S42} {i : Nat} (hi : i < l.length) {s : S42} {f t : Nat} (hf : f < n.toNat) (ht : t < n.toNat) (hft : f ≠ t)
    (hl : ∀ s ∈ l, ∀ x ∈ s.f3, 0 ≤ x ∧ x < n) (hs : ∀ x ∈ s.f3, 0 ≤ x ∧ x < n)
    (hc : ∀ x : Int, (s.f3.count x : Int) = (l[i].f3.count x : Int) + (if x = (t : Int) then 1 else 0) - (if x = (f : Int) then 1 else 0)) :
    (lds n (l.set i s)).sum = (lds n l).sum ∧ sq (lds n (l.set i s)) = sq (lds n l) - 2 * (rd (lds n l) (f : Int) - rd (lds n l) (t : Int) - 1) := by
  have hl2 : ∀ s' ∈ l.set i s, ∀ x ∈ s'.f3, 0 ≤ x ∧ x < n := fun s' h' => by
    rcases mem_set_or h' with h | rfl
    · exact hl s' h
    · exact hs
  have e : lds n (l.set i s) = ((lds n l).set f (rd (lds n l) (f : Int) - 1)).set t (rd (lds n l) (t : Int) + 1) := by
    refine list_ext_rd (by rw [List.length_set, List.length_set, lds_len, lds_len]) (fun j hj => ?_)
    rw [lds_len] at hj
    rw [lds_rd hl2 j hj, tot_set hi, hc]
    by_cases e1 : j = t
    · subst e1
      rw [rd_set_eq (by rw [List.length_set, lds_len]; exact hj), lds_rd hl j hj, if_pos rfl, if_neg (by omega)]; omega
    · rw [rd_set_ne (Ne.symm e1)]
      by_cases e2 : j = f
      · subst e2
        rw [rd_set_eq (by rw [lds_len]; exact hj), lds_rd hl j hj, if_neg (by omega), if_pos rfl]; omega
      · rw [rd_set_ne (Ne.symm e2), lds_rd hl j hj, if_neg (by omega), if_neg (by omega)]; omega
  have h1 : rd ((lds n l).set f (rd (lds n l) (f : Int) - 1)) (t : Int) = rd (lds n l) (t : Int) := rd_set_ne hft
  rw [e]
  constructor
  · have a := sum_set (fun x => x) (l := (lds n l).set f (rd (lds n l) (f : Int) - 1)) (i := t) (by rw [List.length_set, lds_len]; exact ht) (rd (lds n l) (t : Int) + 1)
    have b := sum_set (fun x => x) (l := lds n l) (i := f) (by rw [lds_len]; exact hf) (rd (lds n l) (f : Int) - 1)
    rw [h1] at a
    simp only [List.map_id'] at a b
    omega
  · have a := sum_set (fun x => x * x) (l := (lds n l).set f (rd (lds n l) (f : Int) - 1)) (i := t) (by rw [List.length_set, lds_len]; exact ht) (rd (lds n l) (t : Int) + 1)
    have b := sum_set (fun x => x * x) (l := lds n l) (i := f) (by rw [lds_len]; exact hf) (rd (lds n l) (f : Int) - 1)
    rw [h1] at a
    have c1 : (rd (lds n l) (t : Int) + 1) * (rd (lds n l) (t : Int) + 1) = rd (lds n l) (t : Int) * rd (lds n l) (t : Int) + 2 * rd (lds n l) (t : Int) + 1 := by
      rw [Int.add_mul, Int.mul_add]; omega
    have c2 : (rd (lds n l) (f : Int) - 1) * (rd (lds n l) (f : Int) - 1) = rd (lds n l) (f : Int) * rd (lds n l) (f : Int) - 2 * rd (lds n l) (f : Int) + 1 := by
      rw [Int.sub_mul, Int.mul_sub]; omega
    unfold sq
    omega
theorem count_moved {l : List Int} (hn : l.Nodup) {f t : Int} (hf : f ∈ l) (ht : t ∉ l) (x : Int) : (((sortI (l ++ [t])).filter fun y => !(y == f)).count x : Int) = (l.count x : Int) + (if x = t then 1 else 0) - (if x = f then 1 else 0) := by
  have hne : f ≠ t := fun e => ht (e ▸ hf)
  have hp : (sortI (l ++ [t])).count x = l.count x + (if x = t then 1 else 0) := by
    rw [(sortI_perm (l ++ [t])).count_eq, List.count_append]
    by_cases e : x = t
    · subst e; simp
    · rw [if_neg e, List.count_eq_zero.2 (fun h => e (List.mem_singleton.1 h))]
  by_cases e : x = f
  · subst e
    have h0 : List.count x ((sortI (l ++ [t])).filter fun y => !(y == x)) = 0 := List.count_eq_zero.2 (fun h => by simpa using (List.mem_filter.1 h).2)
    have h1 : l.count x = 1 := by
      have h2 := List.nodup_iff_count.1 hn x
      have h3 := List.count_pos_iff.2 hf
      omega
    rw [h0, h1, if_neg hne, if_pos rfl]; rfl
  · have h0 : List.count x ((sortI (l ++ [t])).filter fun y => !(y == f)) = List.count x (sortI (l ++ [t])) := List.count_filter (by simpa using e)
    rw [h0, hp, if_neg e]
    split <;> simp
theorem set_set_self {α : Type} (l : List α) (i : Nat) (a b : α) : (l.set i a).set i b = l.set i b := by simp
theorem get_set {l : List S42} {i : Nat} (hi : i < l.length) (s : S42) : ∃ h : i < (l.set i s).length, (l.set i s)[i] = s := ⟨by rw [List.length_set]; exact hi, List.getElem_set_self (by rw [List.length_set]; exact hi)⟩
theorem rdT_set {l : List S42} {i : Nat} (hi : i < l.length) (s : S42) : rd_T42 (l.set i s) (i : Int) = s := by
  obtain ⟨h, e⟩ := get_set hi s
  rw [rdT_nat h, e]
theorem evens (n T c : Int) : ∀ (m : Nat) (x : Nat) (l : List S42), 2 * x + m ≤ 83 → Inv n l (40 + 3 * x) → (lds n l).sum = T → sq (lds n l) - (2 * (c * T) - n * (c * c)) ≤ m → Ev (fun k => fascinelaw14_MetaEvens.l1 k (x : Int) n l) true := by
  intro m
  induction m using Nat.strongRecOn with
  | ind m ih =>
  intro x l hx h hT hm
  have ht := tabOk_iff.1 h.1
  have hlow := sq_low c (lds n l)
  rw [hT, lds_len] at hlow
  have hnn : ((n.toNat : Nat) : Int) = n := by omega
  rw [hnn] at hlow
  have hrow : ∀ s ∈ l, ∀ x ∈ s.f3, 0 ≤ x ∧ x < n := fun s hs => (rowOk_iff.1 (ht.2 s hs)).1
  refine Ev.step (f := fun k => (meta_Plan.f k n l).bind fun bt => if bt.2.2.2 = true then (if bt.1 < 0 then fascinelaw14_MetaEvens.j3 k (x : Int) bt.1 bt.2.1 bt.2.2.1 true n l else fascinelaw14_MetaEvens.j3 k (x : Int) bt.1 bt.2.1 bt.2.2.1 (decide (bt.1 ≥ (l.length : Int))) n l) else some true) (fun k => by simp only [fascinelaw14_MetaEvens.l1]; rw [if_pos (by omega)]) ?_
  have hP := meta_Plan_ev n l (by omega) h.small
  have key : plan n l = (0, 0, 0, false) ∨ ∃ (i f t : Nat) (hi : i < l.length), plan n l = ((i : Int), (f : Int), (t : Int), true) ∧ (f : Int) ∈ l[i].f3 ∧ (t : Int) ∉ l[i].f3 ∧ f < n.toNat ∧ t < n.toNat ∧ rd (lds n l) (f : Int) > rd (lds n l) (t : Int) + 1 := by
    have hp := pk_bd (ld := lds n l) (N := n.toNat) n.toNat 0 0 0 (by omega) (by omega) (by omega) (by omega) (by omega)
    have hpl : plan n l = planL (lds n l) l (pk (lds n l) n.toNat 0 0 0).1 (pk (lds n l) n.toNat 0 0 0).2 := by unfold plan; rw [if_pos h.1]; rfl
    rw [hpl]
    generalize (pk (lds n l) n.toNat 0 0 0).1 = f at *
    generalize (pk (lds n l) n.toNat 0 0 0).2 = t at *
    obtain ⟨f, rfl⟩ := Int.eq_ofNat_of_zero_le hp.1
    obtain ⟨t, rfl⟩ := Int.eq_ofNat_of_zero_le hp.2.2.1
    unfold planL
    by_cases hgt : rd (lds n l) (f : Int) > rd (lds n l) (t : Int) + 1
    · rw [if_pos hgt]
      rcases mv_spec (f := (f : Int)) (t := (t : Int)) (l := l) (j := 0) with e | ⟨i, hi, e, h1, h2⟩
      · exact .inl e
      · exact .inr ⟨i, f, t, hi, by rw [e, Nat.zero_add], h1, h2, by omega, by omega, hgt⟩
    · rw [if_neg hgt]; exact .inl rfl
  rcases key with e | ⟨i, f, t, hi, e, h1, h2, hf1, ht1, hgt⟩
  · rw [e] at hP
    refine Ev.bind (f := fun k bt => if bt.2.2.2 = true then (if bt.1 < 0 then fascinelaw14_MetaEvens.j3 k (x : Int) bt.1 bt.2.1 bt.2.2.1 true n l else fascinelaw14_MetaEvens.j3 k (x : Int) bt.1 bt.2.1 bt.2.2.1 (decide (bt.1 ≥ (l.length : Int))) n l) else some true) hP ?_
    simp only [Bool.false_eq_true, if_false]
    exact Ev.now _
  · rw [e] at hP
    refine Ev.bind (f := fun k bt => if bt.2.2.2 = true then (if bt.1 < 0 then fascinelaw14_MetaEvens.j3 k (x : Int) bt.1 bt.2.1 bt.2.2.1 true n l else fascinelaw14_MetaEvens.j3 k (x : Int) bt.1 bt.2.1 bt.2.2.1 (decide (bt.1 ≥ (l.length : Int))) n l) else some true) hP ?_
    simp only [if_true, if_neg (show ¬ (i : Int) < 0 by omega), decide_eq_false (show ¬ (i : Int) ≥ (l.length : Int) by omega)]
    · have hft : f ≠ t := fun e => h2 (e ▸ h1)
      have hr0 := ht.2 _ (List.getElem_mem hi)
      have hv := h.2 _ (List.getElem_mem hi)
      have hnd := nodup_of_lt (rowOk_iff.1 hr0).2.1
      have htn : (t : Int) < n := by omega
      have hfn : (f : Int) < n := by omega
      -- the copy is added
      generalize hs1 : (⟨l[i].f0 + 1, l[i].f1, l[i].f2, sortI (l[i].f3 ++ [(t : Int)])⟩ : S42) = s1
      have hok1 : rowOk n s1 = true := by rw [← hs1]; exact ok_add hr0 h2 (by omega) htn _
      have e11 : s1.f0 = l[i].f0 + 1 := by rw [← hs1]
      have e12 : s1.f1 = l[i].f1 := by rw [← hs1]
      have e13 : s1.f2 = l[i].f2 := by rw [← hs1]
      have e14 : s1.f3 = sortI (l[i].f3 ++ [(t : Int)]) := by rw [← hs1]
      have inv1 : Inv n (l.set i s1) (40 + 3 * x + 1) := h.set i s1 hok1 (by omega) (by omega) (by omega)
      have ev1 : Ev (fun k => meta_Apply.f k n l 2 (i : Int) (t : Int) l[i].f0) (n, l.set i s1, true) := by
        have := g_add h (by omega) i hi (t : Int) h2 (by omega) htn
        rw [hs1] at this
        exact apply_ev h 2 (t : Int) _ i hi (by omega) htn this
      obtain ⟨hi1, g1⟩ := get_set hi s1
      have hmem1 : (t : Int) ∈ s1.f3 := by rw [e14]; exact (sortI_perm _).mem_iff.2 (by simp)
      have hmemf : (f : Int) ∈ s1.f3 := by rw [e14]; exact (sortI_perm _).mem_iff.2 (List.mem_append_left _ h1)
      -- what stands behind the last command
      have fin : ∀ (s3 : S42) (c3 : Int), c3 ≤ 40 + 3 * ((x + 1 : Nat) : Int) → Inv n (l.set i s3) c3 → s3.f3 = s1.f3.filter (fun y => !(y == (f : Int))) → Ev (fun k => fascinelaw14_MetaEvens.l1 k (wrap64 ((x : Int) + 1)) n (l.set i s3)) true := by
        intro s3 c3 hc3 hinv hf3
        have hs3 : ∀ y ∈ s3.f3, 0 ≤ y ∧ y < n := (rowOk_iff.1 ((tabOk_iff.1 hinv.1).2 s3 (List.mem_iff_getElem.2 ⟨i, by rw [List.length_set]; exact hi, (get_set hi s3).2⟩))).1
        have hsum := move_sums hi (s := s3) (f := f) (t := t) (by omega) (by omega) hft hrow hs3 (fun y => by rw [hf3, e14]; exact count_moved hnd h1 h2 y)
        rw [w64s (n := 100) (by omega) (by omega)]
        have hlow3 := sq_low c (lds n (l.set i s3))
        rw [hsum.1, hT, lds_len, hnn] at hlow3
        refine ih (m - 2) (by omega) (x + 1) (l.set i s3) (by omega) (hinv.more hc3) (by rw [hsum.1]; exact hT) ?_
        omega
      refine Ev.step (f := fun k => (meta_Apply.f k n l 2 (i : Int) (t : Int) l[i].f0).bind fun b1 => if b1.2.2 = true then (if (i : Int) < (b1.2.1.length : Int) then (if ((rd_T42 b1.2.1 (i : Int)).f2) = (f : Int) then ((meta_Apply.f k b1.1 b1.2.1 1 (i : Int) (t : Int) ((rd_T42 b1.2.1 (i : Int)).f0)).bind fun b2 => (if b2.2.2 = true then (if (i : Int) < (b2.2.1.length : Int) then ((meta_Apply.f k b2.1 b2.2.1 3 (i : Int) (f : Int) ((rd_T42 b2.2.1 (i : Int)).f0)).bind fun b3 => (if b3.2.2 = true then (fascinelaw14_MetaEvens.l1 k (wrap64 ((x : Int) + 1)) b3.1 b3.2.1) else (some false))) else (none)) else (some false))) else ((meta_Apply.f k b1.1 b1.2.1 3 (i : Int) (f : Int) ((rd_T42 b1.2.1 (i : Int)).f0)).bind fun b3 => (if b3.2.2 = true then (fascinelaw14_MetaEvens.l1 k (wrap64 ((x : Int) + 1)) b3.1 b3.2.1) else (some false)))) else (none)) else (some false)) (fun k => by simp only [fascinelaw14_MetaEvens.j3]; rw [if_neg (by decide), if_pos (by omega), if_pos (by omega), rdT_nat hi]) ?_
      refine Ev.bind (a := (n, l.set i s1, true)) (f := fun k b1 => if b1.2.2 = true then (if (i : Int) < (b1.2.1.length : Int) then (if ((rd_T42 b1.2.1 (i : Int)).f2) = (f : Int) then ((meta_Apply.f k b1.1 b1.2.1 1 (i : Int) (t : Int) ((rd_T42 b1.2.1 (i : Int)).f0)).bind fun b2 => (if b2.2.2 = true then (if (i : Int) < (b2.2.1.length : Int) then ((meta_Apply.f k b2.1 b2.2.1 3 (i : Int) (f : Int) ((rd_T42 b2.2.1 (i : Int)).f0)).bind fun b3 => (if b3.2.2 = true then (fascinelaw14_MetaEvens.l1 k (wrap64 ((x : Int) + 1)) b3.1 b3.2.1) else (some false))) else (none)) else (some false))) else ((meta_Apply.f k b1.1 b1.2.1 3 (i : Int) (f : Int) ((rd_T42 b1.2.1 (i : Int)).f0)).bind fun b3 => (if b3.2.2 = true then (fascinelaw14_MetaEvens.l1 k (wrap64 ((x : Int) + 1)) b3.1 b3.2.1) else (some false)))) else (none)) else (some false)) ev1 ?_
      simp only [if_true, List.length_set, if_pos (show (i : Int) < (l.length : Int) by omega), rdT_set hi]
      by_cases hpr : s1.f2 = (f : Int)
      · simp only [if_pos hpr]
        -- the new copy is made the first one
        generalize hs2 : (⟨s1.f0 + 1, s1.f1 + 1, (t : Int), s1.f3⟩ : S42) = s2
        have hok2 : rowOk n s2 = true := by rw [← hs2]; exact ok_pro hok1 hmem1 _
        have e21 : s2.f0 = s1.f0 + 1 := by rw [← hs2]
        have e22 : s2.f1 = s1.f1 + 1 := by rw [← hs2]
        have e23 : s2.f2 = (t : Int) := by rw [← hs2]
        have e24 : s2.f3 = s1.f3 := by rw [← hs2]
        have inv2 : Inv n (l.set i s2) (40 + 3 * x + 2) := by
          have := inv1.set i s2 hok2 (by omega) (by omega) (by omega)
          rw [set_set_self] at this
          exact this.more (by omega)
        have ev2 : Ev (fun k => meta_Apply.f k n (l.set i s1) 1 (i : Int) (t : Int) s1.f0) (n, l.set i s2, true) := by
          have hm1 : (t : Int) ∈ ((l.set i s1)[i]'hi1).f3 := by rw [g1]; exact hmem1
          have := g_pro inv1 (by omega) i hi1 (t : Int) hm1
          rw [g1, hs2, set_set_self] at this
          have h9 := apply_ev inv1 1 (t : Int) s1.f0 i hi1 (by omega) htn (r := (n, l.set i s2, true)) (by rw [g1]; exact this)
          exact h9
        refine Ev.bind (a := (n, l.set i s2, true)) (f := fun k b2 => (if b2.2.2 = true then (if (i : Int) < (b2.2.1.length : Int) then ((meta_Apply.f k b2.1 b2.2.1 3 (i : Int) (f : Int) ((rd_T42 b2.2.1 (i : Int)).f0)).bind fun b3 => (if b3.2.2 = true then (fascinelaw14_MetaEvens.l1 k (wrap64 ((x : Int) + 1)) b3.1 b3.2.1) else (some false))) else (none)) else (some false))) ev2 ?_
        simp only [if_true, List.length_set, if_pos (show (i : Int) < (l.length : Int) by omega), rdT_set hi]
        obtain ⟨hi2, g2⟩ := get_set hi s2
        generalize hs3 : (⟨s2.f0 + 1, s2.f1, s2.f2, s2.f3.filter fun y => !(y == (f : Int))⟩ : S42) = s3
        have hne : (f : Int) ≠ s2.f2 := by rw [e23]; omega
        have hok3 : rowOk n s3 = true := by rw [← hs3]; exact ok_rem hok2 hne _
        have e31 : s3.f0 = s2.f0 + 1 := by rw [← hs3]
        have e32 : s3.f1 = s2.f1 := by rw [← hs3]
        have e34 : s3.f3 = s2.f3.filter fun y => !(y == (f : Int)) := by rw [← hs3]
        have inv3 : Inv n (l.set i s3) (40 + 3 * x + 3) := by
          have := inv2.set i s3 hok3 (by omega) (by omega) (by omega)
          rw [set_set_self] at this
          exact this.more (by omega)
        have ev3 : Ev (fun k => meta_Apply.f k n (l.set i s2) 3 (i : Int) (f : Int) s2.f0) (n, l.set i s3, true) := by
          have hm2 : (f : Int) ∈ ((l.set i s2)[i]'hi2).f3 := by rw [g2, e24]; exact hmemf
          have := g_rem inv2 (by omega) i hi2 (f : Int) hm2 (by rw [g2]; exact hne)
          rw [g2, hs3, set_set_self] at this
          exact apply_ev inv2 3 (f : Int) s2.f0 i hi2 (by omega) hfn (r := (n, l.set i s3, true)) (by rw [g2]; exact this)
        refine Ev.bind (a := (n, l.set i s3, true)) (f := fun k b3 => (if b3.2.2 = true then (fascinelaw14_MetaEvens.l1 k (wrap64 ((x : Int) + 1)) b3.1 b3.2.1) else (some false))) ev3 ?_
        simp only [if_true]
        exact fin s3 _ (by omega) inv3 (by rw [e34, e24])
      · simp only [if_neg hpr]
        generalize hs3 : (⟨s1.f0 + 1, s1.f1, s1.f2, s1.f3.filter fun y => !(y == (f : Int))⟩ : S42) = s3
        have hne : (f : Int) ≠ s1.f2 := fun e => hpr e.symm
        have hok3 : rowOk n s3 = true := by rw [← hs3]; exact ok_rem hok1 hne _
        have e31 : s3.f0 = s1.f0 + 1 := by rw [← hs3]
        have e32 : s3.f1 = s1.f1 := by rw [← hs3]
        have e34 : s3.f3 = s1.f3.filter fun y => !(y == (f : Int)) := by rw [← hs3]
        have inv3 : Inv n (l.set i s3) (40 + 3 * x + 2) := by
          have := inv1.set i s3 hok3 (by omega) (by omega) (by omega)
          rw [set_set_self] at this
          exact this.more (by omega)
        have ev3 : Ev (fun k => meta_Apply.f k n (l.set i s1) 3 (i : Int) (f : Int) s1.f0) (n, l.set i s3, true) := by
          have hm2 : (f : Int) ∈ ((l.set i s1)[i]'hi1).f3 := by rw [g1]; exact hmemf
          have := g_rem inv1 (by omega) i hi1 (f : Int) hm2 (by rw [g1]; exact hne)
          rw [g1, hs3, set_set_self] at this
          exact apply_ev inv1 3 (f : Int) s1.f0 i hi1 (by omega) hfn (r := (n, l.set i s3, true)) (by rw [g1]; exact this)
        refine Ev.bind (a := (n, l.set i s3, true)) (f := fun k b3 => (if b3.2.2 = true then (fascinelaw14_MetaEvens.l1 k (wrap64 ((x : Int) + 1)) b3.1 b3.2.1) else (some false))) ev3 ?_
        simp only [if_true]
        exact fin s3 _ (by omega) inv3 e34
theorem evens_start {n : Int} {l : List S42} (h : Inv n l 40) : Ev (fun k => fascinelaw14_MetaEvens.l1 k 0 n l) true := by
  have ht := tabOk_iff.1 h.1
  have hrow : ∀ s ∈ l, ∀ x ∈ s.f3, 0 ≤ x ∧ x < n := fun s hs => (rowOk_iff.1 (ht.2 s hs)).1
  have hb : ∀ x ∈ lds n l, 0 ≤ x ∧ x ≤ 8 := by
    intro x hx
    obtain ⟨j, hj, rfl⟩ := List.mem_iff_getElem.1 hx
    have hj' : j < n.toNat := by rw [lds_len] at hj; exact hj
    rw [← rd_nat hj, lds_rd hrow j hj']
    have := tot_le (l := l) (x := (j : Int)) (fun s hs => nodup_of_lt (rowOk_iff.1 (ht.2 s hs)).2.1)
    omega
  obtain ⟨h1, h2, h3⟩ := sq_high (lds n l) hb
  rw [lds_len] at h3
  generalize hT : (lds n l).sum = T at *
  obtain ⟨T, rfl⟩ := Int.eq_ofNat_of_zero_le h2
  have hd := bound_dec ⟨n.toNat, by omega⟩ ⟨T, by omega⟩ (by simp only; omega) (by simp only; omega)
  simp only at hd
  have e : ((n.toNat : Nat) : Int) = n := by omega
  rw [e] at hd
  have := evens n (T : Int) (((T / n.toNat : Nat)) : Int) 83 0 l (by omega) (h.more (by omega)) hT (by omega)
  exact this
def newI (a b c : Int) : Bool := match meta_New.f 100 a b c with
  | some (n, l, e) => n == a && (e == 0 && (tabOk n l && l.all fun s => s.f0 == 0 && s.f1 == 1))
  | none => false
theorem newI_dec : ∀ x : Fin 5, ∀ y : Fin 8, ∀ z : Fin 5, z.val ≤ x.val → newI ((x.val : Int) + 1) ((y.val : Int) + 1) ((z.val : Int) + 1) = true := by decide +kernel
theorem new_inv {a b c : Int} (ha : 1 ≤ a) (ha5 : a ≤ 5) (hb : 1 ≤ b) (hb8 : b ≤ 8) (hc : 1 ≤ c) (hca : c ≤ a) : ∃ l, meta_New.f 100 a b c = some (a, l, 0) ∧ Inv a l 0 := by
  have h := newI_dec ⟨(a - 1).toNat, by omega⟩ ⟨(b - 1).toNat, by omega⟩ ⟨(c - 1).toNat, by omega⟩ (by simp only; omega)
  have e1 : (((a - 1).toNat : Nat) : Int) + 1 = a := by omega
  have e2 : (((b - 1).toNat : Nat) : Int) + 1 = b := by omega
  have e3 : (((c - 1).toNat : Nat) : Int) + 1 = c := by omega
  simp only [e1, e2, e3] at h
  unfold newI at h
  split at h
  · rename_i n l e h1
    simp only [Bool.and_eq_true, beq_iff_eq, List.all_eq_true] at h
    obtain ⟨rfl, rfl, h3, h4⟩ := h
    exact ⟨l, h1, h3, fun s hs => by have := h4 s hs; omega⟩
  · cases h
theorem tm5 {a m : Int} (h0 : 0 ≤ a) (h1 : a ≤ 255) (hm : 1 ≤ m) (hm8 : m ≤ 8) : wrap64 (1 + Int.tmod (wrap64 a) m) = 1 + a % m := by
  rw [w64 (x := a) (by omega) (by omega), Int.tmod_eq_emod_of_nonneg h0]
  have := Int.emod_nonneg a (show m ≠ 0 by omega)
  have := Int.emod_lt_of_pos a (show 0 < m by omega)
  exact w64 (by omega) (by omega)
theorem wf_u8 {a : Int} (h : (Lit.int .u8 a).wf = true) : 0 ≤ a ∧ a ≤ 255 := by
  simp [Lit.wf, IntKind.min, IntKind.max, IntKind.signed, IntKind.bits] at h
  omega
theorem rdC_nat {l : List S39} {j : Nat} (h : j < l.length) : rd_T39 l (j : Int) = l[j] := by
  unfold rd_T39
  rw [Int.toNat_natCast, List.getD_eq_getElem?_getD, List.getElem?_eq_getElem h]
  rfl
theorem MetaEvens : MetaEvens_PureS := by
  intro a b c cs wa wb wc hcs
  have ha := wf_u8 wa
  have hb := wf_u8 wb
  have hc := wf_u8 wc
  have haw : Ev (fun k => fascinelaw14_awake.f k) true := ⟨40, fun k hk => fascinelaw14_awake_is hk⟩
  have e1 : wrap64 (1 + Int.tmod (wrap64 a) 5) = 1 + a % 5 := tm5 ha.1 ha.2 (by omega) (by omega)
  have e2 : wrap64 (1 + Int.tmod (wrap64 b) 8) = 1 + b % 8 := tm5 hb.1 hb.2 (by omega) (by omega)
  have e3 : wrap64 (1 + Int.tmod (wrap64 c) (1 + a % 5)) = 1 + c % (1 + a % 5) := tm5 hc.1 hc.2 (by omega) (by omega)
  have h3 := Int.emod_nonneg c (show 1 + a % 5 ≠ 0 by omega)
  have h4 := Int.emod_lt_of_pos c (show 0 < 1 + a % 5 by omega)
  obtain ⟨l, hn, hinv⟩ := new_inv (a := 1 + a % 5) (b := 1 + b % 8) (c := 1 + c % (1 + a % 5)) (by omega) (by omega) (by omega) (by omega) (by omega) (by omega)
  generalize 1 + a % 5 = n at *
  refine Ev.rounds (g := fun k => fascinelaw14_MetaEvens.f k a b c cs) ?_
  unfold fascinelaw14_MetaEvens.f
  rw [e1, e2, e3]
  have hn0 : ¬ n = 0 := by have := (tabOk_iff.1 hinv.1).1; omega
  refine Ev.bind (f := fun k t => if t = true then (if n = 0 then none else (meta_New.f k n (1 + b % 8) (1 + c % n)).bind fun bt => if bt.2.2 = 0 then fascinelaw14_MetaEvens.l0 k cs 0 bt.1 bt.2.1 else some false) else some false) haw ?_
  simp only [if_true, if_neg hn0]
  refine Ev.bind (a := (n, l, 0)) (f := fun k bt => if bt.2.2 = 0 then fascinelaw14_MetaEvens.l0 k cs 0 bt.1 bt.2.1 else some false) (ev_mono (meta_New.mono _ _ _) hn) ?_
  simp only [if_true]
  have key : ∀ (d i : Nat) (l : List S42), cs.length - i = d → i ≤ 40 → Inv n l i → Ev (fun k => fascinelaw14_MetaEvens.l0 k cs (i : Int) n l) true := by
    intro d
    induction d with
    | zero =>
      intro i l hd hi h
      refine Ev.step (f := fun k => fascinelaw14_MetaEvens.j1 k n l) (fun k => by simp only [fascinelaw14_MetaEvens.l0]; rw [if_neg (by omega)]) ?_
      exact Ev.step (f := fun k => fascinelaw14_MetaEvens.l1 k 0 n l) (fun k => by simp only [fascinelaw14_MetaEvens.j1]) (evens_start (h.more (by omega)))
    | succ d ih =>
      intro i l hd hi h
      have hlt : i < cs.length := by omega
      by_cases h40 : i < 40
      · obtain ⟨l', r, hev, hinv', _⟩ := apply_any h (by omega) cs[i].f0 cs[i].f1 cs[i].f2 cs[i].f3
        refine Ev.step (f := fun k => (meta_Apply.f k n l cs[i].f0 cs[i].f1 cs[i].f2 cs[i].f3).bind fun bt => fascinelaw14_MetaEvens.l0 k cs ((i + 1 : Nat) : Int) bt.1 bt.2.1) (fun k => by simp only [fascinelaw14_MetaEvens.l0]; rw [if_pos (by omega), if_pos (by omega), if_pos (by omega), rdC_nat hlt, w64s hlt (by omega)]) ?_
        refine Ev.bind (a := (n, l', r)) (f := fun k bt => fascinelaw14_MetaEvens.l0 k cs ((i + 1 : Nat) : Int) bt.1 bt.2.1) hev ?_
        exact ih (i + 1) l' (by omega) (by omega) (hinv'.more (by omega))
      · refine Ev.step (f := fun k => fascinelaw14_MetaEvens.j1 k n l) (fun k => by simp only [fascinelaw14_MetaEvens.l0]; rw [if_pos (by omega), if_neg (by omega)]) ?_
        exact Ev.step (f := fun k => fascinelaw14_MetaEvens.l1 k 0 n l) (fun k => by simp only [fascinelaw14_MetaEvens.j1]) (evens_start (h.more (by omega)))
  exact key cs.length 0 l (by omega) (by omega) (hinv.more (by omega))

end Go.Proofs.Ytkoaeiiaagipeaa.Pure
