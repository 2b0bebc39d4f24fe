/- heap.up. -/
import Derived.Test.YtaediecdpgndjaaMrgD
namespace Go.Proofs.Ytaediecdpgndjaa.M
open Go.RowKit Go.Proofs.Mg Go.Proofs.YtaediecdpgndjaaW.PrintWords Go.Proofs.YtaediecdpgndjaaW.PrintLast Go.Proofs.YtaediecdpgndjaaW.PrintMore Go.Proofs.Ytaediecdpgndjaa.PMrg0
set_option linter.unusedVariables false
set_option linter.unusedSimpArgs false
abbrev ifc (Q : Nat) : Value := .iface 40 (ptr Q)
theorem meth_len (w : World) (Q : Nat) (s : Value) (hq : w.cell? ⟨Q, 0, none⟩ = some s) : Sem.run Try.prog (method 179 40 (ptr Q) "Len") w = .ok (16, s) w := by
  have hf : (Array.find? (fun x => x.name == "Len") Try.t40.methods).map (fun m => (m.path, m.func)) = some (#[], some (16, false)) := by kernel_rfl
  cases hm : Array.find? (fun x => x.name == "Len") Try.t40.methods with
  | none => rw [hm] at hf; cases hf
  | some m =>
    rw [hm] at hf
    simp only [Option.map_some, Option.some.injEq, Prod.mk.injEq] at hf
    unfold method
    go_simp
    simp only [follow, receiverAt]
    have hp : ∀ w, Sem.run Try.prog (Place.get 40 (Place.val (ptr Q))) w = .ok (ptr Q) w := fun w => by kernel_rfl
    have hs : ∀ w, Sem.run Try.prog (Builtin.ssaWrapNilChk_ #[40] 40 #[ptr Q, strVal "", strVal (("Len".splitOn ".").getLast?.getD "Len")]) w = .ok (ptr Q) w := fun w => by kernel_rfl
    generalize (("Len".splitOn ".").getLast?.getD "Len") = nm at *
    go_simp
theorem meth_less (w : World) (Q : Nat) (s : Value) (hq : w.cell? ⟨Q, 0, none⟩ = some s) : Sem.run Try.prog (method 179 40 (ptr Q) "Less") w = .ok (41, s) w := by
  have hf : (Array.find? (fun x => x.name == "Less") Try.t40.methods).map (fun m => (m.path, m.func)) = some (#[], some (41, false)) := by kernel_rfl
  cases hm : Array.find? (fun x => x.name == "Less") Try.t40.methods with
  | none => rw [hm] at hf; cases hf
  | some m =>
    rw [hm] at hf
    simp only [Option.map_some, Option.some.injEq, Prod.mk.injEq] at hf
    unfold method
    go_simp
    simp only [follow, receiverAt]
    have hp : ∀ w, Sem.run Try.prog (Place.get 40 (Place.val (ptr Q))) w = .ok (ptr Q) w := fun w => by kernel_rfl
    have hs : ∀ w, Sem.run Try.prog (Builtin.ssaWrapNilChk_ #[40] 40 #[ptr Q, strVal "", strVal (("Less".splitOn ".").getLast?.getD "Less")]) w = .ok (ptr Q) w := fun w => by kernel_rfl
    generalize (("Less".splitOn ".").getLast?.getD "Less") = nm at *
    go_simp
theorem meth_swap (w : World) (Q : Nat) (s : Value) (hq : w.cell? ⟨Q, 0, none⟩ = some s) : Sem.run Try.prog (method 179 40 (ptr Q) "Swap") w = .ok (44, s) w := by
  have hf : (Array.find? (fun x => x.name == "Swap") Try.t40.methods).map (fun m => (m.path, m.func)) = some (#[], some (44, false)) := by kernel_rfl
  cases hm : Array.find? (fun x => x.name == "Swap") Try.t40.methods with
  | none => rw [hm] at hf; cases hf
  | some m =>
    rw [hm] at hf
    simp only [Option.map_some, Option.some.injEq, Prod.mk.injEq] at hf
    unfold method
    go_simp
    simp only [follow, receiverAt]
    have hp : ∀ w, Sem.run Try.prog (Place.get 40 (Place.val (ptr Q))) w = .ok (ptr Q) w := fun w => by kernel_rfl
    have hs : ∀ w, Sem.run Try.prog (Builtin.ssaWrapNilChk_ #[40] 40 #[ptr Q, strVal "", strVal (("Swap".splitOn ".").getLast?.getD "Swap")]) w = .ok (ptr Q) w := fun w => by kernel_rfl
    generalize (("Swap".splitOn ".").getLast?.getD "Swap") = nm at *
    go_simp
theorem meth_pop (w : World) (Q : Nat) : Sem.run Try.prog (method 179 40 (ptr Q) "Pop") w = .ok (42, ptr Q) w := by kernel_rfl
theorem meth_push (w : World) (Q : Nat) : Sem.run Try.prog (method 179 40 (ptr Q) "Push") w = .ok (43, ptr Q) w := by kernel_rfl
end Go.Proofs.Ytaediecdpgndjaa.M
