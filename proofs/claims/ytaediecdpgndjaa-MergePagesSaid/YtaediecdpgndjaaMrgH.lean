/- Lines whose lists came in; one row is another's, in another order. -/
import Derived.Test.YtaediecdpgndjaaMrgG
namespace Go.Proofs.Ytaediecdpgndjaa.M
open Go.RowKit Go.Proofs.Mg Go.Proofs.YtaediecdpgndjaaW.PrintWords Go.Proofs.YtaediecdpgndjaaW.PrintLast Go.Proofs.YtaediecdpgndjaaW.PrintMore Go.Proofs.Ytaediecdpgndjaa.PMrg0
set_option linter.unusedVariables false
set_option linter.unusedSimpArgs false
/-- x's first entry, among what came in -/
structure DocAt (w : World) (x : Ln) : Prop where
  d0 : w.cell? x.a = some (.string x.h.f0)
  d1 : w.cell? ⟨x.a.block, x.a.off + 1, none⟩ = some (.int .i64 x.h.f1)
  d2 : w.cell? ⟨x.a.block, x.a.off + 2, none⟩ = some (.string x.h.f2)
theorem DocAt.below {w w' : World} {x : Ln} (h : DocAt w x) (hb : Below w.heap.size w w') : DocAt w' x := by
  have e : ∀ {p : Addr} {v : Value}, w.cell? p = some v → w'.cell? p = some v := fun {p v} hp => (hb.cell (World.block_lt_of_cell? w p hp)).trans hp
  exact ⟨e h.d0, e h.d1, e h.d2⟩
theorem QAt.ln {w : World} {Q G n cap : Nat} {g : Nat → Ln} (h : QAt w Q G n cap g) {i : Nat} (hi : i < n) (hd : DocAt w (g i)) : LnAt w G i (g i) :=
  ⟨(h.row.cell i hi).1, (h.row.cell i hi).2.1, hd.d0, hd.d1, hd.d2⟩
/-- g' is g in another order, below n -/
def Pm {K : Type} (g g' : Nat → K) (n : Nat) : Prop := ∃ f : Nat → Nat, (∀ c, c < n → f c < n ∧ g' c = g (f c)) ∧ (∀ c d, c < n → d < n → f c = f d → c = d) ∧ ∀ d, d < n → ∃ c, c < n ∧ f c = d
theorem Pm.refl {K : Type} (g : Nat → K) (n : Nat) : Pm g g n := ⟨id, fun c hc => ⟨hc, rfl⟩, fun _ _ _ _ h => h, fun d hd => ⟨d, hd, rfl⟩⟩
theorem Pm.trans {K : Type} {a b c : Nat → K} {n : Nat} (h : Pm a b n) (k : Pm b c n) : Pm a c n := by
  obtain ⟨f, f1, f2, f3⟩ := h
  obtain ⟨q, q1, q2, q3⟩ := k
  refine ⟨fun x => f (q x), fun x hx => ⟨(f1 _ (q1 x hx).1).1, ?_⟩, fun x y hx hy e => q2 x y hx hy (f2 _ _ (q1 x hx).1 (q1 y hy).1 e), fun d hd => ?_⟩
  · rw [(q1 x hx).2, (f1 _ (q1 x hx).1).2]
  · obtain ⟨y, hy, rfl⟩ := f3 d hd
    obtain ⟨x, hx, rfl⟩ := q3 y hy
    exact ⟨x, hx, rfl⟩
theorem Pm.sw {K : Type} (g : Nat → K) {n i j : Nat} (hi : i < n) (hj : j < n) : Pm g (sw g i j) n := by
  refine ⟨fun c => if c = i then j else if c = j then i else c, fun c hc => ⟨?_, ?_⟩, fun c d _ _ e => ?_, fun d hd => ⟨if d = i then j else if d = j then i else d, ?_, ?_⟩⟩
  · dsimp only; split
    · exact hj
    · split
      · exact hi
      · exact hc
  · unfold Mg.sw; dsimp only
    split
    · rfl
    · split <;> rfl
  · dsimp only at e
    split at e <;> split at e <;> (try split at e) <;> (try split at e) <;> omega
  · split
    · exact hj
    · split
      · exact hi
      · exact hd
  · dsimp only
    split <;> (try split) <;> (try split) <;> (try split) <;> omega
theorem Pm.all {K : Type} {g g' : Nat → K} {n : Nat} (h : Pm g g' n) {P : K → Prop} (hp : ∀ c, c < n → P (g c)) : ∀ c, c < n → P (g' c) := by
  obtain ⟨f, f1, _⟩ := h
  intro c hc
  rw [(f1 c hc).2]; exact hp _ (f1 c hc).1
end Go.Proofs.Ytaediecdpgndjaa.M
