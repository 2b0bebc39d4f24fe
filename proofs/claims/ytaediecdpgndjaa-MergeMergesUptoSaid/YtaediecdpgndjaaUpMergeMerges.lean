/- The row of MergeMergesUptoSaid: whatever the input of at most 1048576 values and letters, the law answers true and the input reads as it did. -/
import Derived.Test.YtaediecdpgndjaaRows
import Derived.Test.YtaediecdpgndjaaQMergeMerges
import Derived.Test.YtaediecdpgndjaaPureMergeMerges
import Derived.Test.YtaediecdpgndjaaMOpen
import Derived.WalkKit
import Derived.ProofKit
import Derived.OpenShut
import Derived.ShutString
import Derived.ChangeOld
import Derived.Below
import Derived.SizedLaws
import Derived.JoinedCond
namespace Go.Proofs.Ytaediecdpgndjaa.mergeMergesUp
open Go.ChangeShapes Go.WideShapes Go.ChangeAt Go.RowKit Go.Proofs.Ytaediecdpgndjaa Go.Proofs.Ytaediecdpgndjaa.PMergeMerges Go.Proofs.YtaediecdpgndjaaW.PrintWords Go.Proofs.YtaediecdpgndjaaW.PrintLast Go.Proofs.YtaediecdpgndjaaW.PrintMore
open Go.ChangeMaps (open_string shut_string)
set_option linter.unusedVariables false
set_option linter.unusedSimpArgs false
def V31 (H : Type) (a : S31) (d : DataW H) : Prop := ∃ y0 y1 y2 : DataW H, d = .agg [y0, y1, y2] ∧ M.VStr H a.f0 y0 ∧ (M.VInt .i64) H a.f1 y1 ∧ M.VStr H a.f2 y2
set_option maxRecDepth 100000 in
theorem opens31 : M.Opens Try.prog k31 31 V31 := by
  intro H enc W fuel cs x h
  obtain ⟨xs, n, _, rfl, hl, hlen, hf⟩ := DataW.trod_struct Try.underlying31 h
  have hl : cs.length = 3 := hl.trans (by kernel_rfl)
  obtain ⟨c0, cs, rfl⟩ := List.exists_cons_of_length_eq_add_one hl
  replace hl := Nat.succ.inj hl
  obtain ⟨c1, cs, rfl⟩ := List.exists_cons_of_length_eq_add_one hl
  replace hl := Nat.succ.inj hl
  obtain ⟨c2, cs, rfl⟩ := List.exists_cons_of_length_eq_add_one hl
  replace hl := Nat.succ.inj hl
  obtain rfl := List.eq_nil_of_length_eq_zero hl
  match xs, hlen with
  | [y0, y1, y2], _ =>
    have g0 : DataW.trod enc Try.prog W 0 (fun _ => true) true n 9 ((List.drop 0 [c0, c1, c2]).take (Try.prog.cellsOf 9)) = some y0 := hf 0 _ rfl
    rw [show Try.prog.cellsOf 9 = 1 from by kernel_rfl] at g0
    obtain ⟨b0, K0, v0⟩ := (M.opens_str Try.underlying9) H enc W n _ _ g0
    have g1 : DataW.trod enc Try.prog W 0 (fun _ => true) true n 2 ((List.drop 1 [c0, c1, c2]).take (Try.prog.cellsOf 2)) = some y1 := hf 1 _ rfl
    rw [show Try.prog.cellsOf 2 = 1 from by kernel_rfl] at g1
    obtain ⟨b1, K1, v1⟩ := (M.opens_int Try.underlying2) H enc W n _ _ g1
    have g2 : DataW.trod enc Try.prog W 0 (fun _ => true) true n 9 ((List.drop 2 [c0, c1, c2]).take (Try.prog.cellsOf 9)) = some y2 := hf 2 _ rfl
    rw [show Try.prog.cellsOf 9 = 1 from by kernel_rfl] at g2
    obtain ⟨b2, K2, v2⟩ := (M.opens_str Try.underlying9) H enc W n _ _ g2
    exact ⟨⟨b0, b1, b2⟩, ⟨[c0], [c1, c2], rfl, K0, ⟨[c1], [c2], rfl, K1, K2⟩⟩, y0.1, y1.1, y2.1, rfl, v0, v1, v2⟩
theorem own : ownKnob Try.prog.godebug = none := by kernel_rfl
theorem laidOut : laidOutB Try.prog = true := by kernel_rfl
set_option maxRecDepth 100000 in
theorem lifted (os : Os) (started : os.Started) (H : Type) (enc : TypeId × Value → H) (F : Stop.Interp) :
    ReturnsInHanded {} Try.checked os 3 .any ((Rows.OpenSpec.upto Rows.mergeMergesSpec).pre6 enc Try.prog Try.f3 Rows.mergeMergesUptoRow.domain false) (((Rows.OpenSpec.upto Rows.mergeMergesSpec).at F).post enc Try.prog Try.f3 false true false false) := by
  refine returnsInHanded_of_cond (C := Try.checked) (s := Rows.OpenSpec.upto Rows.mergeMergesSpec) (k := Rows.uptoSmall) rfl own started (by kernel_rfl) Try.func3
    (OpenSpec.witness (enc := enc) (C := Try.checked) (s := Rows.OpenSpec.upto Rows.mergeMergesSpec) (k := Rows.uptoSmall) rfl false ⟨#[], #[.slice none 0 0, .int .i64 0], []⟩ 8 (by kernel_rfl) (by kernel_rfl) (by kernel_rfl)
      (x := ([.nil, .lit (.int .i64 0)], [], [])) (by kernel_rfl) rfl (by kernel_rfl)) ?_
  intro W base args ds gs before hval0 hW _ hk _
  have hval : ∀ (j : Nat) t v, Try.f3.params[j]? = some t → args[j]? = some v → Value.okWide Try.prog W .any base t v := hval0
  have hW' := hW
  obtain ⟨p, q, hA0, hV, rfl, hfz, hnd⟩ := hW
  have hA : DataW.TrodAll enc Try.prog W 0 (fun _ => true) true Try.f3.params.toList args.toList ds p := hA0
  rw [Try.params3] at hA hval
  obtain ⟨v0, vs0, d0, ds0, p0, q0, hargs, rfl, rfl, h0, r0⟩ := trodAll_cons hA
  obtain ⟨v1, vs1, d1, ds1, p1, q1, rfl, rfl, rfl, h1, r1⟩ := trodAll_cons r0
  obtain ⟨rfl, rfl, rfl⟩ := trodAll_nil r1
  obtain rfl : args = #[v0, v1] := by cases args; simp_all
  obtain ⟨rfl, rfl⟩ := trodVars_none hV
  obtain ⟨a0, len0, cap0, rfl⟩ := okWide_slice Try.underlying22 (hval 0 22 v0 rfl rfl)
  have k0 := h0
  have lt0 : ∀ x ∈ p0, x.block < W.heap.size := by obtain ⟨m, hm⟩ := k0; exact DataW.trod_lt m _ _ _ hm
  obtain ⟨A0, c0, l0, e0, C0, le0, V0⟩ := M.open_sl (M.opens_slice Try.underlying22 (by kernel_rfl) (M.opens_slice Try.underlying24 (by kernel_rfl) opens31)) h0
  simp [Value.cells] at e0
  obtain ⟨rfl, rfl, rfl⟩ := e0
  have b0 := M.bulk_slice (fun l => M.sumB (fun _ => 1) l + 1) (fun H a y h => M.bulk_slice (fun _ => 1) (fun H a y h => M.bulk_one y) h) V0
  obtain ⟨a1, rfl, rfl, rfl, w1⟩ := open_int Try.underlying3 (hval 1 3 v1 rfl rfl) h1
  have hB : Rows.uptoBulkAll _ ≤ 1048576 := of_decide_eq_true hk
  simp only [List.append_nil, List.cons_append, List.nil_append, Rows.uptoBulkAll] at hB
  clear hA0 hval0 hk
  obtain ⟨k, hf⟩ := Pure.MergeMerges l0 a1 (by omega) w1
  refine (PMergeMerges.fascinelaw17_MergeMerges.calls k _ _ l0 a1 true W C0 le0 hf rfl).mono fun e W' ⟨he, bel⟩ => ?_
  subst he
  exact ⟨_, rfl, _, _, _, [], _, [], hW', trodAll_mk1 (shut_bool Try.underlying4 _), (trodAll_cons_mk (Below.trod laidOut (by kernel_rfl) (of_decide_eq_true (by kernel_rfl)) k0 bel lt0) (trodAll_cons_mk (shut_int Try.underlying3 w1) trodAll_mk0)), rfl, bel.frame _, fun h => by cases h⟩
theorem over : Rows.mergeMergesUptoRow.holds Try.pinned (Rows.OpenSpec.upto Rows.mergeMergesSpec) :=
  OpenClaim.holds_of_cond 3 Try.f3 rfl rfl rfl rfl rfl rfl rfl ⟨rfl, rfl, rfl, rfl, rfl⟩ rfl rfl rfl rfl rfl (by kernel_rfl) Try.func3 (by kernel_rfl)
    (of_decide_eq_true (by kernel_rfl)) (by unfold Func.isWrapper; first | (rw [if_pos (by decide +kernel)]; kernel_rfl) | (rw [if_neg (by decide +kernel)]; exact ⟨rfl, rfl⟩))
    (fun os started H enc _ F => lifted os started H enc F)
theorem proved : Rows.MergeMergesUptoSaid := over
#print axioms proved
end Go.Proofs.Ytaediecdpgndjaa.mergeMergesUp
namespace Go.Proofs.Ytaediecdpgndjaa
/-- The row, under a short name, for the claim. -/
theorem mergeMergesUpto_holds : Rows.MergeMergesUptoSaid := mergeMergesUp.proved
end Go.Proofs.Ytaediecdpgndjaa
