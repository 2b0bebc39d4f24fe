/- QueryReads, plainly. -/
import Derived.Test.YtlmmbefejmbpeaaDoorQQueryReads
import Derived.Test.YtlmmbefejmbpeaaDoorPureFine
namespace Go.Proofs.YtlmmbefejmbpeaaDoor.Pure
open Go.RowKit Go.Proofs.Qp Go.Proofs.YtlmmbefejmbpeaaDoor.PQueryReads Go.Proofs.YtlmmbefejmbpeaaDoor Go.Proofs.YtlmmbefejmbpeaaDoor.PQry0
theorem awakeReads : fascinelaw06_awake.f = some true := by kernel_rfl
theorem max_of {α : Type} (P : α → Nat → Prop) : ∀ l : List α, (∀ x ∈ l, ∃ K, ∀ k ≥ K, P x k) → ∃ K, ∀ x ∈ l, ∀ k ≥ K, P x k
  | [], _ => ⟨0, by simp⟩
  | y :: t, h => by
    obtain ⟨K1, h1⟩ := h y (by simp)
    obtain ⟨K2, h2⟩ := max_of P t (fun x hx => h x (List.mem_cons_of_mem _ hx))
    refine ⟨K1 + K2, fun x hx k hk => ?_⟩
    rcases List.mem_cons.1 hx with rfl | hx
    · exact h1 k (by omega)
    · exact h2 x hx k (by omega)
def sameF (q : S25) (k : Nat) : Prop := fascineref06_Same.f k q.f0 q.f1 q.f2 q.f3 q.f0 q.f1 q.f2 q.f3 = some true
/-- a query is like itself -/
theorem same_ev {q : S25} (h : M.Fine q) : ∃ K, ∀ k ≥ K, sameF q k := by
  induction h with
  | mk q hl hk ih =>
    obtain ⟨K, hK⟩ := max_of sameF q.f3 ih
    have loop : ∀ (m i : Nat), i + m = q.f3.length → ∀ k ≥ K + m + 1, fascineref06_Same.l0 k (i : Int) q.f0 q.f1 q.f2 q.f3 q.f0 q.f1 q.f2 q.f3 = some true := by
      intro m
      induction m with
      | zero =>
        intro i hi k hk
        obtain ⟨k, rfl⟩ : ∃ j, k = j + 1 := ⟨k - 1, by omega⟩
        unfold fascineref06_Same.l0
        rw [if_neg (by omega)]
      | succ m ihm =>
        intro i hi k hk
        obtain ⟨k, rfl⟩ : ∃ j, k = j + 1 := ⟨k - 1, by omega⟩
        unfold fascineref06_Same.l0
        have hil : i < q.f3.length := by omega
        have hr : rd_T25 q.f3 (i : Int) ∈ q.f3 := by
          unfold rd_T25
          rw [Int.toNat_natCast, List.getD_eq_getElem?_getD, List.getElem?_eq_getElem hil]
          exact List.getElem_mem hil
        have hs : sameF (rd_T25 q.f3 (i : Int)) k := hK _ hr k (by omega)
        unfold sameF at hs
        rw [if_pos (by omega), if_pos (by omega), if_pos (by omega), hs, Option.bind_some, if_pos rfl, show wrap64 ((i : Int) + 1) = ((i + 1 : Nat) : Int) from by unfold wrap64; omega]
        exact ihm (i + 1) (by omega) k (by omega)
    refine ⟨K + q.f3.length + 3, fun k hk => ?_⟩
    obtain ⟨k, rfl⟩ : ∃ j, k = j + 2 := ⟨k - 2, by omega⟩
    unfold sameF fascineref06_Same.f
    rw [if_pos rfl, if_pos rfl, if_pos rfl]
    unfold fascineref06_Same.j0
    rw [if_neg (by simp)]
    exact loop q.f3.length 0 (by omega) k (by omega)
theorem QueryReads : QueryReads_PureU := by
  intro a0
  obtain ⟨K, hK⟩ := same_ev (M.parse_fine_ a0)
  have hs := hK K (Nat.le_refl _)
  unfold sameF at hs
  refine ⟨K, ?_⟩
  unfold fascinelaw06_QueryReads.f
  rw [awakeReads, Option.bind_some, if_pos rfl]
  unfold query_Parse.f fascineref06_Parse.f
  rw [Option.bind_some, Option.bind_some]
  simp only
  rw [if_pos trivial, if_pos trivial, hs]
  rfl
end Go.Proofs.YtlmmbefejmbpeaaDoor.Pure
