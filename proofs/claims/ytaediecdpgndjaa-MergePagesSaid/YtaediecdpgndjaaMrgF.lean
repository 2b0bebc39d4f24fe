/- Lines in order. -/
import Derived.Test.YtaediecdpgndjaaMrgE
namespace Go.Proofs.Ytaediecdpgndjaa.M
open Go.RowKit Go.Proofs.Mg Go.Proofs.YtaediecdpgndjaaW.PrintWords Go.Proofs.YtaediecdpgndjaaW.PrintLast Go.Proofs.YtaediecdpgndjaaW.PrintMore Go.Proofs.Ytaediecdpgndjaa.PMrg0
set_option linter.unusedVariables false
set_option linter.unusedSimpArgs false
theorem lnLess_iff (x y : Ln) : lnLess x y = true ↔ (lt31 x.h y.h = true ∨ (lt31 y.h x.h = false ∧ x.n < y.n)) := by
  unfold lnLess; simp
theorem lnLess_o : LtO lnLess := by
  constructor
  · intro a b h
    rw [Bool.eq_false_iff]
    intro h2
    rw [lnLess_iff] at h h2
    rcases h with h | ⟨h, h'⟩ <;> rcases h2 with g | ⟨g, g'⟩
    · have := lt31_o.as _ _ h; rw [this] at g; cases g
    · rw [h] at g; cases g
    · rw [h] at g; cases g
    · omega
  · intro a b c h1 h2
    rw [Bool.eq_false_iff] at h1 h2 ⊢
    intro h3
    rw [ne_eq, lnLess_iff] at h1 h2
    rw [lnLess_iff] at h3
    have p1 : lt31 b.h a.h = false := by rw [Bool.eq_false_iff]; exact fun x => h1 (.inl x)
    have p2 : lt31 c.h b.h = false := by rw [Bool.eq_false_iff]; exact fun x => h2 (.inl x)
    have p3 := lt31_o.nt _ _ _ p1 p2
    rcases h3 with g | ⟨g, g'⟩
    · rw [p3] at g; cases g
    · have p4 : lt31 a.h b.h = false := lt31_o.nt _ _ _ p2 g
      have p5 : lt31 b.h c.h = false := lt31_o.nt _ _ _ g p1
      have q1 : ¬ b.n < a.n := fun x => h1 (.inr ⟨p4, x⟩)
      have q2 : ¬ c.n < b.n := fun x => h2 (.inr ⟨p5, x⟩)
      omega
end Go.Proofs.Ytaediecdpgndjaa.M
