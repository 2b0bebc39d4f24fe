/- How great what a law reads may be, told value by value: each text, each slice within. -/
import Derived.Test.YtlmmbefejmbpeaaDoorMOpen
namespace Go.Proofs.YtlmmbefejmbpeaaDoor.M
open Go.RowKit Go.ChangeShapes Go.WideShapes Go.Deep Go.Proofs.YtlmmbefejmbpeaaDoorW.PrintWords Go.Proofs.YtlmmbefejmbpeaaDoorW.PrintLast Go.Proofs.YtlmmbefejmbpeaaDoorW.PrintMore
set_option linter.unusedVariables false

/-- whatever is told by V, and weighs no more than may be reached, is as S says -/
def Sz {α : Type} (P : Program) (V : (H : Type) → α → DataW H → Prop) (t : TypeId) (S : α → Prop) : Prop :=
  ∀ (H : Type) (a : α) (d : DataW H), V H a d → (∀ n ∈ DataW.weights P t d, n ≤ reachBytes) → S a
theorem sz_int {P : Program} {k : IntKind} {t : TypeId} : Sz P (VInt k) t (fun n => (Lit.int k n).wf = true) := fun _ _ _ h _ => h.2
theorem sz_bool {P : Program} {t : TypeId} : Sz P VBool t (fun _ => True) := fun _ _ _ _ _ => trivial
theorem sz_str {P : Program} {t : TypeId} : Sz P VStr t (fun s => s.size ≤ 140737488351232) := by
  intro H a d h hw
  obtain ⟨rfl, _⟩ := h
  have := hw a.data.toList.length (by simp [DataW.weights])
  have e : reachBytes = 140737488351232 := by decide
  rw [e] at this
  simpa using this
theorem weights_all {H : Type} {P : Program} {e : TypeId} : ∀ {l : List (DataW H)} {i : Nat} {y : DataW H}, l[i]? = some y → ∀ n ∈ y.weights P e, n ∈ DataW.weightsAll P e l
  | [], _, _, h, _, _ => by simp at h
  | d :: r, 0, y, h, n, hn => by
    simp only [List.getElem?_cons_zero, Option.some.injEq] at h
    subst h
    simp only [DataW.weightsAll, List.mem_append]
    exact Or.inl hn
  | d :: r, i + 1, y, h, n, hn => by
    simp only [List.getElem?_cons_succ] at h
    simp only [DataW.weightsAll, List.mem_append]
    exact Or.inr (weights_all h n hn)
theorem sz_slice {α : Type} {P : Program} {V : (H : Type) → α → DataW H → Prop} {t e : TypeId} {S : α → Prop} {B : Nat} (ht : P.underlying t = some (.slice e)) (hB : P.bytesOf e = B) (h : Sz P V e S) : Sz P (VSl V) t (fun xs => xs.length * B ≤ 140737488351232 ∧ ∀ y ∈ xs, S y) := by
  intro H xs d hv hw
  obtain ⟨_, ⟨rfl, rfl⟩ | ⟨elems, spare, rfl, hl, hall⟩⟩ := hv
  · exact ⟨by simp, fun y hy => by simp at hy⟩
  · have e0 : reachBytes = 140737488351232 := by decide
    refine ⟨?_, fun y hy => ?_⟩
    · have := hw ((elems.length + spare.length) * P.bytesOf e) (by simp [DataW.weights, ht])
      rw [hB, e0, hl] at this
      exact Nat.le_trans (Nat.mul_le_mul_right _ (by omega)) this
    · obtain ⟨i, hi, rfl⟩ := List.mem_iff_getElem.1 hy
      have hi' : i < elems.length := by omega
      refine h H _ elems[i] (hall i _ _ (List.getElem?_eq_getElem hi) (List.getElem?_eq_getElem hi')) (fun n hn => hw n ?_)
      simp only [DataW.weights, ht, List.mem_cons, List.mem_append]
      exact Or.inr (Or.inl (weights_all (List.getElem?_eq_getElem hi') n hn))
theorem wt_at {H : Type} {P : Program} {ts : List TypeId} {ds : List (DataW H)} (h : (DataW.weightsEach P ts ds).all (· ≤ reachBytes) = true) {j : Nat} {t : TypeId} {d : DataW H} (ht : ts[j]? = some t) (hd : ds[j]? = some d) : ∀ n ∈ d.weights P t, n ≤ reachBytes := fun n hn => by
  have := List.all_eq_true.1 h n (DataW.weights_mem_each ht hd n hn)
  simpa using this
end Go.Proofs.YtlmmbefejmbpeaaDoor.M
