/- What stands in memory as data, told as the walks want it: whole numbers, texts, slices; and how great it may be. -/
import Derived.Test.YtlmmbefejmbpeaaDoorRows
import Derived.Test.YtlmmbefejmbpeaaDoorWMore
import Derived.Deep.Slices
import Derived.ChangeArms
import Derived.ChangeSlices
import Derived.SizedLaws
namespace Go.Proofs.YtlmmbefejmbpeaaDoor.M
open Go.RowKit Go.ChangeShapes Go.WideShapes Go.Deep Go.Proofs.YtlmmbefejmbpeaaDoorW.PrintWords Go.Proofs.YtlmmbefejmbpeaaDoorW.PrintLast Go.Proofs.YtlmmbefejmbpeaaDoorW.PrintMore
set_option linter.unusedVariables false

/-- what is read at type t is a value of kind d; V tells how it and the datum go together -/
def Opens {α : Type} (P : Program) (d : Kd α) (t : TypeId) (V : (H : Type) → α → DataW H → Prop) : Prop :=
  ∀ (H : Type) (enc : TypeId × Value → H) (W : World) (fuel : Nat) (cs : List Value) (x : DataW H × List MemPlace), DataW.trod enc P W 0 (fun _ => true) true fuel t cs = some x → ∃ a : α, d.K W a cs ∧ V H a x.1

def VInt (k : IntKind) (H : Type) (n : Int) (d : DataW H) : Prop := d = .lit (.int k n) ∧ (Lit.int k n).wf = true
def VStr (H : Type) (s : ByteArray) (d : DataW H) : Prop := d = .lit (.string s.data.toList) ∧ s.size ≤ maxLen
def VBool (H : Type) (b : Bool) (d : DataW H) : Prop := d = .lit (.bool b)
def VSl {α : Type} (V : (H : Type) → α → DataW H → Prop) (H : Type) (xs : List α) (dd : DataW H) : Prop :=
  xs.length ≤ maxLen ∧ ((xs = [] ∧ dd = .nil) ∨ ∃ elems spare, dd = .slice elems spare ∧ elems.length = xs.length ∧ ∀ (i : Nat) (a : α) (y : DataW H), xs[i]? = some a → elems[i]? = some y → V H a y)

theorem opens_int {P : Program} {t : TypeId} {k : IntKind} (ht : P.underlying t = some (.int k)) : Opens P (Kd.int k) t (VInt k) := by
  intro H enc W fuel cs x h
  obtain ⟨n, rfl, rfl, hw⟩ := DataW.trod_int ht h
  exact ⟨n, rfl, rfl, hw⟩
theorem opens_str {P : Program} {t : TypeId} (ht : P.underlying t = some .string) : Opens P Kd.string t VStr := by
  intro H enc W fuel cs x h
  obtain ⟨s, rfl, rfl, hw⟩ := DataW.trod_string ht h
  exact ⟨s, rfl, rfl, hw⟩
theorem opens_bool {P : Program} {t : TypeId} (ht : P.underlying t = some .bool) : Opens P Kd.bool t VBool := by
  intro H enc W fuel cs x h
  obtain ⟨s, rfl, rfl⟩ := DataW.trod_bool ht h
  exact ⟨s, rfl, rfl⟩

theorem cells_get {W : World} {base : Nat} {a : Addr} {n : Nat} {cs : List Value} (h : W.cells? base a n = some cs) : cs.length = n ∧ ∀ i, i < n → W.cell? (a.add i) = cs[i]? := by
  obtain ⟨_, h1, h2⟩ := World.cells?_some h
  exact ⟨h1, h2⟩
theorem add_add_plain (a : Addr) (i j : Nat) : (a.add i).add j = a.add (i + j) := by
  unfold Addr.add
  split
  · split <;> simp_all
  · split <;> simp_all [Nat.add_assoc]
theorem maxLen_le : maxLen ≤ 9223372036854775807 := by unfold maxLen; omega

theorem choose_list {β : Type} {R : Nat → β → Prop} : ∀ n : Nat, (∀ i, i < n → ∃ q, R i q) → ∃ l : List β, l.length = n ∧ ∀ (i : Nat) (q : β), l[i]? = some q → R i q
  | 0, _ => ⟨[], rfl, fun i q h => by simp at h⟩
  | n + 1, h => by
    obtain ⟨l, h1, h2⟩ := choose_list n (fun i hi => h i (by omega))
    obtain ⟨q, hq⟩ := h n (by omega)
    refine ⟨l ++ [q], by simp [h1], fun i q' h' => ?_⟩
    rcases Nat.lt_trichotomy i n with hi | hi | hi
    · rw [List.getElem?_append_left (by omega)] at h'; exact h2 i q' h'
    · subst hi
      rw [List.getElem?_append_right (by omega), h1, Nat.sub_self] at h'
      simp at h'; subst h'; exact hq
    · rw [List.getElem?_eq_none (by simp; omega)] at h'; cases h'
theorem opens_slice {α : Type} {P : Program} {d : Kd α} {t e : TypeId} {V : (H : Type) → α → DataW H → Prop} (ht : P.underlying t = some (.slice e)) (hc : P.cellsOf e = d.sz) (h : Opens P d e V) : Opens P (Kd.slice e d) t (VSl V) := by
  intro H enc W fuel cs x hx
  rcases open_slice ht hx with ⟨rfl, rfl⟩ | ⟨a, len, cap, m, n, D, Pl, rfl, hb, hl, hm, hmm, rfl, hel⟩
  · exact ⟨[], ⟨none, 0, rfl, Nat.le_refl _, rfl, by simp, fun hn => absurd hn (by simp)⟩, by simp, Or.inl ⟨rfl, rfl⟩⟩
  · have hlm : len ≤ m := by rw [hmm]; split <;> omega
    obtain ⟨qs, hql, hqs⟩ := choose_list (β := α × List Value) (R := fun i q => W.cells? 0 (a.add (i * P.cellsOf e)) (P.cellsOf e) = some q.2 ∧ d.K W q.1 q.2 ∧ V H q.1 (D i)) len (by
      intro i hi
      obtain ⟨cs', h1, h2⟩ := hel i (by omega)
      obtain ⟨q, hk, hv⟩ := h H enc W n cs' _ h2
      exact ⟨(q, cs'), h1, hk, hv⟩)
    have hxl : (qs.map Prod.fst).length = len := by rw [List.length_map, hql]
    have hget : ∀ (j : Nat) (p : α), (qs.map Prod.fst)[j]? = some p → ∃ c, qs[j]? = some (p, c) := by
      intro j p hj
      rw [List.getElem?_map] at hj
      cases hq : qs[j]? with
      | none => rw [hq] at hj; cases hj
      | some q => rw [hq] at hj; obtain ⟨q1, q2⟩ := q; simp at hj; subst hj; exact ⟨q2, rfl⟩
    refine ⟨qs.map Prod.fst, ⟨some a, cap, by rw [hxl], by omega, ?_⟩, by omega, Or.inr ⟨_, _, rfl, by rw [hxl]; simp, ?_⟩⟩
    · refine ⟨rfl, by have := maxLen_le; omega, fun hn => ⟨a, rfl, fun j p hj => ?_⟩⟩
      obtain ⟨c, hq⟩ := hget j p hj
      obtain ⟨h1, h2, _⟩ := hqs j _ hq
      obtain ⟨h3, h4⟩ := cells_get h1
      refine ⟨c, by rw [h3, hc], h2, fun i u hu => ?_⟩
      have hi : i < P.cellsOf e := by
        rw [← h3]; exact (List.getElem?_eq_some_iff.1 hu).1
      rw [← hc, ← add_add_plain, h4 i hi]; exact hu
    · intro i p y hp hy
      obtain ⟨c, hq⟩ := hget i p hp
      have hil : i < len := by rw [← hql]; exact (List.getElem?_eq_some_iff.1 hq).1
      rw [List.getElem?_map, List.getElem?_range hil] at hy
      simp at hy
      rw [← hy]
      exact (hqs i _ hq).2.2

/-! ### how great it may be -/
theorem bulk_one {H : Type} (d : DataW H) : 1 ≤ Rows.uptoBulk d := by
  cases d with
  | lit l => cases l <;> simp [Rows.uptoBulk]
  | nil => simp [Rows.uptoBulk]
  | ptr d => simp [Rows.uptoBulk]
  | slice elems spare => simp [Rows.uptoBulk]
  | agg parts => simp [Rows.uptoBulk]
  | iface t d => simp [Rows.uptoBulk]
  | map entries => simp [Rows.uptoBulk]
  | held h => simp [Rows.uptoBulk]
theorem bulk_str {H : Type} (l : List UInt8) : Rows.uptoBulk (DataW.lit (H := H) (.string l)) = l.length + 1 := by simp [Rows.uptoBulk]
/-- so great the values of a list are together -/
def sumB {α : Type} (b : α → Nat) : List α → Nat
  | [] => 0
  | x :: r => b x + sumB b r
theorem bulk_list {α : Type} {V : (H : Type) → α → DataW H → Prop} (b : α → Nat) (hb : ∀ H a y, V H a y → b a ≤ Rows.uptoBulk y) {H : Type} : ∀ (xs : List α) (es : List (DataW H)), es.length = xs.length → (∀ (i : Nat) (a : α) (y : DataW H), xs[i]? = some a → es[i]? = some y → V H a y) → sumB b xs ≤ Rows.uptoBulkAll es
  | [], _, _, _ => by simp [sumB]
  | x :: xs, [], h, _ => by simp at h
  | x :: xs, y :: es, h, hv => by
    have h1 := hb H x y (hv 0 x y rfl rfl)
    have h2 := bulk_list b hb xs es (by simpa using h) (fun i a y h1 h2 => hv (i + 1) a y (by simpa using h1) (by simpa using h2))
    simp only [sumB, Rows.uptoBulkAll]; omega
theorem bulk_slice {α : Type} {V : (H : Type) → α → DataW H → Prop} (b : α → Nat) (hb : ∀ H a y, V H a y → b a ≤ Rows.uptoBulk y) {H : Type} {xs : List α} {dd : DataW H} (h : VSl V H xs dd) : sumB b xs + 1 ≤ Rows.uptoBulk dd := by
  rcases h.2 with ⟨rfl, rfl⟩ | ⟨es, sp, rfl, hl, hv⟩
  · simp [sumB, Rows.uptoBulk]
  · have := bulk_list b hb xs es hl hv
    simp only [Rows.uptoBulk]; omega
theorem bulk_int (k : IntKind) (H : Type) (a : Int) (y : DataW H) (h : VInt k H a y) : 1 ≤ Rows.uptoBulk y := bulk_one y
theorem bulk_bool (H : Type) (a : Bool) (y : DataW H) (h : VBool H a y) : 1 ≤ Rows.uptoBulk y := bulk_one y
theorem bulk_text (H : Type) (a : ByteArray) (y : DataW H) (h : VStr H a y) : a.size + 1 ≤ Rows.uptoBulk y := by
  rw [h.1, bulk_str, Array.length_toList]; exact Nat.le_refl _
theorem sumB_one {α : Type} : ∀ xs : List α, sumB (fun _ => 1) xs = xs.length
  | [] => rfl
  | x :: xs => by simp only [sumB, List.length_cons, sumB_one xs]; omega
theorem sumB_mono {α : Type} {b c : α → Nat} (h : ∀ x, b x ≤ c x) : ∀ xs : List α, sumB b xs ≤ sumB c xs
  | [] => Nat.le_refl _
  | x :: xs => by have := sumB_mono h xs; have := h x; simp only [sumB]; omega
theorem sumB_mem {α : Type} {b : α → Nat} : ∀ {xs : List α} {x : α}, x ∈ xs → b x ≤ sumB b xs
  | y :: xs, x, h => by
    rcases List.mem_cons.1 h with rfl | h
    · simp only [sumB]; omega
    · have := sumB_mem (b := b) h; simp only [sumB]; omega
theorem VSl.wf {k : IntKind} {H : Type} {xs : List Int} {dd : DataW H} (h : VSl (VInt k) H xs dd) : ∀ x ∈ xs, (Lit.int k x).wf = true := by
  intro x hx
  rcases h.2 with ⟨rfl, rfl⟩ | ⟨es, sp, rfl, hl, hv⟩
  · simp at hx
  · obtain ⟨i, hi⟩ := List.getElem?_of_mem hx
    have hil : i < es.length := by rw [hl]; exact (List.getElem?_eq_some_iff.1 hi).1
    exact (hv i x es[i] hi (List.getElem?_eq_getElem hil)).2
theorem VSl.all {α : Type} {V : (H : Type) → α → DataW H → Prop} {H : Type} {xs : List α} {dd : DataW H} {R : α → Prop} (hR : ∀ (a : α) (y : DataW H), V H a y → R a) (h : VSl V H xs dd) : xs.length ≤ maxLen ∧ ∀ x ∈ xs, R x := by
  refine ⟨h.1, fun x hx => ?_⟩
  rcases h.2 with ⟨rfl, rfl⟩ | ⟨es, sp, rfl, hl, hv⟩
  · simp at hx
  · obtain ⟨i, hi⟩ := List.getElem?_of_mem hx
    have hil : i < es.length := by rw [hl]; exact (List.getElem?_eq_some_iff.1 hi).1
    exact hR x es[i] (hv i x es[i] hi (List.getElem?_eq_getElem hil))
/-- a parameter that is a slice -/
theorem open_sl {α : Type} {P : Program} {d : Kd α} {t e : TypeId} {V : (H : Type) → α → DataW H → Prop} (ho : Opens P (Kd.slice e d) t (VSl V)) {H : Type} {enc : TypeId × Value → H} {W : World} {v : Value} {y : DataW H} {p : List MemPlace} (h : DataW.Trod enc P W 0 (fun _ => true) true t v y p) :
    ∃ (A : Option Addr) (c : Nat) (l : List α), v.cells.toList = [.slice A l.length c] ∧ d.C W A l.length l ∧ l.length ≤ c ∧ VSl V H l y := by
  obtain ⟨fuel, hf⟩ := h
  obtain ⟨l, ⟨A, c, h1, h2, h3⟩, hv⟩ := ho H enc W fuel _ _ hf
  exact ⟨A, c, l, h1, h3, h2, hv⟩
end Go.Proofs.YtlmmbefejmbpeaaDoor.M
