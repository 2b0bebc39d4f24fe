/- QueryDeep, plainly: there are forty numbers of brackets. -/
import Derived.Test.YtlmmbefejmbpeaaDoorQQueryDeep
namespace Go.Proofs.YtlmmbefejmbpeaaDoor.Pure
open Go.RowKit Go.Proofs.YtlmmbefejmbpeaaDoor.PQueryDeep Go.Proofs.YtlmmbefejmbpeaaDoor Go.Proofs.YtlmmbefejmbpeaaDoor.PQry0
def deepB (m : Nat) (b : Bool) : Bool := fascinelaw06_QueryDeep.f 60 (m : Int) b == some true
theorem deep_all : ((List.range 40).all fun m => deepB m true && deepB m false) = true := by kernel_rfl
theorem deep_one (m : Nat) (hm : m < 40) (b : Bool) : fascinelaw06_QueryDeep.f 60 (m : Int) b = some true := by
  have h := List.all_eq_true.1 deep_all m (List.mem_range.2 hm)
  rw [Bool.and_eq_true] at h
  cases b with
  | true => exact beq_iff_eq.1 h.1
  | false => exact beq_iff_eq.1 h.2
theorem QueryDeep : QueryDeep_PureU := by
  intro a0 a1 h
  have hb : 0 ≤ a0 ∧ a0 ≤ 255 := by
    have h2 : 0 ≤ a0 ∧ a0 ≤ 255 := by simpa [Lit.wf, IntKind.min, IntKind.max, IntKind.signed, IntKind.bits] using h
    exact h2
  refine ⟨60, ?_⟩
  have hw : ∀ x : Int, 0 ≤ x → x ≤ 255 → wrap64 x = x := fun x h0 h1 => by unfold wrap64; omega
  obtain ⟨m, hm⟩ : ∃ m : Nat, (a0 % 40) = (m : Int) := ⟨(a0 % 40).toNat, by omega⟩
  have h1 : Int.tmod (wrap64 a0) 40 = Int.tmod (wrap64 (m : Int)) 40 := by
    rw [hw a0 hb.1 hb.2, hw m (by omega) (by omega), Int.tmod_eq_emod_of_nonneg hb.1, Int.tmod_eq_emod_of_nonneg (by omega)]
    omega
  have := deep_one m (by omega) a1
  unfold fascinelaw06_QueryDeep.f at this ⊢
  rw [h1]
  exact this
end Go.Proofs.YtlmmbefejmbpeaaDoor.Pure
