/- The row of MergePagesSaid: whatever the input, the law answers true and the input reads as it did. -/
import Derived.Test.YtaediecdpgndjaaRows
import Derived.Test.YtaediecdpgndjaaQMergePages
import Derived.Test.YtaediecdpgndjaaPagesC
import Derived.Test.YtaediecdpgndjaaMSize
import Derived.Test.YtaediecdpgndjaaWSized
import Derived.WalkKit
import Derived.ProofKit
import Derived.OpenShut
import Derived.ShutString
import Derived.ChangeOld
import Derived.Below
import Derived.SizedLaws
import Derived.ChangeArms
namespace Go.Proofs.Ytaediecdpgndjaa.mergePagesS
open Go.ChangeShapes Go.WideShapes Go.ChangeAt Go.RowKit Go.Proofs.Ytaediecdpgndjaa Go.Proofs.Ytaediecdpgndjaa.PMergePages Go.Proofs.Ytaediecdpgndjaa.Pure Go.Proofs.YtaediecdpgndjaaW.PrintWords Go.Proofs.YtaediecdpgndjaaW.PrintLast Go.Proofs.YtaediecdpgndjaaW.PrintMore
open Go.ChangeMaps (open_string shut_string)
set_option linter.unusedVariables false
set_option linter.unusedSimpArgs false
def V31 (H : Type) (a : S31) (d : DataW H) : Prop := ∃ y0 y1 y2 : DataW H, d = .agg [y0, y1, y2] ∧ M.VStr H a.f0 y0 ∧ (M.VInt .i64) H a.f1 y1 ∧ M.VStr H a.f2 y2
theorem sz31 : M.Sz Try.prog V31 31 WF31 := by
  intro H a d h hw
  obtain ⟨y0, y1, y2, rfl, v0, v1, v2⟩ := h
  have e : DataW.weights Try.prog 31 (.agg [y0, y1, y2]) = DataW.weights Try.prog 9 y0 ++ (DataW.weights Try.prog 2 y1 ++ (DataW.weights Try.prog 9 y2 ++ (([] : List Nat)))) := by simp [DataW.weights, DataW.weightsEach, Try.underlying31]
  rw [e] at hw
  exact ⟨(M.sz_str (P := Try.prog) (t := 9)) H _ _ v0 (fun n hn => hw n (by simp [hn])), (M.sz_int (P := Try.prog) (t := 2)) H _ _ v1 (fun n hn => hw n (by simp [hn])), (M.sz_str (P := Try.prog) (t := 9)) H _ _ v2 (fun n hn => hw n (by simp [hn]))⟩
set_option maxRecDepth 100000 in
theorem opens31 : M.Opens Try.prog k31 31 V31 := by
  intro H enc W fuel cs x h
  obtain ⟨xs, n, _, rfl, hl, hlen, hf⟩ := DataW.trod_struct Try.underlying31 h
  have hl : cs.length = 3 := hl.trans (by kernel_rfl)
  obtain ⟨c0, cs, rfl⟩ := List.exists_cons_of_length_eq_add_one hl
  replace hl := Nat.succ.inj hl
  obtain ⟨c1, cs, rfl⟩ := List.exists_cons_of_length_eq_add_one hl
  replace hl := Nat.succ.inj hl
  obtain ⟨c2, cs, rfl⟩ := List.exists_cons_of_length_eq_add_one hl
  replace hl := Nat.succ.inj hl
  obtain rfl := List.eq_nil_of_length_eq_zero hl
  match xs, hlen with
  | [y0, y1, y2], _ =>
    have g0 : DataW.trod enc Try.prog W 0 (fun _ => true) true n 9 ((List.drop 0 [c0, c1, c2]).take (Try.prog.cellsOf 9)) = some y0 := hf 0 _ rfl
    rw [show Try.prog.cellsOf 9 = 1 from by kernel_rfl] at g0
    obtain ⟨b0, K0, v0⟩ := (M.opens_str Try.underlying9) H enc W n _ _ g0
    have g1 : DataW.trod enc Try.prog W 0 (fun _ => true) true n 2 ((List.drop 1 [c0, c1, c2]).take (Try.prog.cellsOf 2)) = some y1 := hf 1 _ rfl
    rw [show Try.prog.cellsOf 2 = 1 from by kernel_rfl] at g1
    obtain ⟨b1, K1, v1⟩ := (M.opens_int Try.underlying2) H enc W n _ _ g1
    have g2 : DataW.trod enc Try.prog W 0 (fun _ => true) true n 9 ((List.drop 2 [c0, c1, c2]).take (Try.prog.cellsOf 9)) = some y2 := hf 2 _ rfl
    rw [show Try.prog.cellsOf 9 = 1 from by kernel_rfl] at g2
    obtain ⟨b2, K2, v2⟩ := (M.opens_str Try.underlying9) H enc W n _ _ g2
    exact ⟨⟨b0, b1, b2⟩, ⟨[c0], [c1, c2], rfl, K0, ⟨[c1], [c2], rfl, K1, K2⟩⟩, y0.1, y1.1, y2.1, rfl, v0, v1, v2⟩
theorem own : ownKnob Try.prog.godebug = none := by kernel_rfl
theorem laidOut : laidOutB Try.prog = true := by kernel_rfl
set_option maxRecDepth 100000 in
theorem lifted (os : Os) (started : os.Started) (H : Type) (enc : TypeId × Value → H) :
    ReturnsInHanded {} Try.checked os 6 .any (Rows.mergePagesSpec.pre6 enc Try.prog Try.f6 Rows.mergePagesRow.domain false) (Rows.mergePagesSpec.post enc Try.prog Try.f6 false true false false) := by
  refine returnsInHanded_of_change_sized (C := Try.checked) own started (by kernel_rfl) Try.func6
    (ChangeSpec.witness6 (enc := enc) (C := Try.checked) false ⟨#[], #[.slice none 0 0, .int .u8 0], []⟩ 8 (by kernel_rfl) (by kernel_rfl) (by kernel_rfl) (by kernel_rfl)) ?_
  intro W base args ds gs before hval0 hW hcnd hsz0 _
  have hval : ∀ (j : Nat) t v, Try.f6.params[j]? = some t → args[j]? = some v → Value.okWide Try.prog W .any base t v := hval0
  have hW' := hW
  obtain ⟨p, q, hA0, hV, rfl, hfz, hnd⟩ := hW
  have hA : DataW.TrodAll enc Try.prog W 0 (fun _ => true) true Try.f6.params.toList args.toList ds p := hA0
  have hsz : (DataW.weightsEach Try.prog (Try.f6.params.toList ++ Rows.mergePagesSpec.plain.varTypes Try.prog) (ds ++ gs)).all (· ≤ reachBytes) = true := hsz0
  rw [Try.params6] at hA hval hsz
  obtain ⟨v0, vs0, d0, ds0, p0, q0, hargs, rfl, rfl, h0, r0⟩ := trodAll_cons hA
  obtain ⟨v1, vs1, d1, ds1, p1, q1, rfl, rfl, rfl, h1, r1⟩ := trodAll_cons r0
  obtain ⟨rfl, rfl, rfl⟩ := trodAll_nil r1
  obtain rfl : args = #[v0, v1] := by cases args; simp_all
  obtain ⟨rfl, rfl⟩ := trodVars_none hV
  obtain ⟨a0, len0, cap0, rfl⟩ := okWide_slice Try.underlying22 (hval 0 22 v0 rfl rfl)
  have k0 := h0
  have lt0 : ∀ x ∈ p0, x.block < W.heap.size := by obtain ⟨m, hm⟩ := k0; exact DataW.trod_lt m _ _ _ hm
  obtain ⟨A0, c0, l0, e0, C0, le0, V0⟩ := M.open_sl (M.opens_slice Try.underlying22 (by kernel_rfl) (M.opens_slice Try.underlying24 (by kernel_rfl) opens31)) h0
  simp [Value.cells] at e0
  obtain ⟨rfl, rfl, rfl⟩ := e0
  obtain ⟨a1, rfl, rfl, rfl, w1⟩ := open_int Try.underlying5 (hval 1 5 v1 rfl rfl) h1
  clear hA0 hval0 hsz0
  refine (M.mergePages_law _ _ l0 a1 W C0 le0 ((M.sz_slice (B := 24) Try.underlying22 (by kernel_rfl) (M.sz_slice (B := 40) Try.underlying24 (by kernel_rfl) sz31)) H _ _ V0 (M.wt_at hsz (j := 0) rfl rfl)) w1).mono fun e W' ⟨he, bel⟩ => ?_
  subst he
  exact ⟨_, rfl, _, _, _, [], _, [], hW', trodAll_mk1 (shut_bool Try.underlying4 _), (trodAll_cons_mk (Below.trod laidOut (by kernel_rfl) (of_decide_eq_true (by kernel_rfl)) k0 bel lt0) (trodAll_cons_mk (shut_int Try.underlying5 w1) trodAll_mk0)), rfl, bel.frame _, fun h => by cases h⟩
theorem over : Rows.mergePagesRow.holds Try.pinned (OpenSpec.ofChange Rows.mergePagesSpec) :=
  OpenClaim.holds_of_wide 6 Try.f6 rfl rfl rfl rfl rfl rfl rfl ⟨rfl, rfl, rfl, rfl, rfl⟩ rfl rfl rfl rfl rfl (by kernel_rfl) Try.func6 (by kernel_rfl)
    (of_decide_eq_true (by kernel_rfl)) (by unfold Func.isWrapper; first | (rw [if_pos (by decide +kernel)]; kernel_rfl) | (rw [if_neg (by decide +kernel)]; exact ⟨rfl, rfl⟩))
    (fun os started H enc _ => lifted os started H enc)
theorem proved : Rows.MergePagesSaid := over
#print axioms proved
end Go.Proofs.Ytaediecdpgndjaa.mergePagesS
namespace Go.Proofs.Ytaediecdpgndjaa
/-- The row, under a short name, for the claim. -/
theorem mergePages_holds : Rows.MergePagesSaid := mergePagesS.proved
end Go.Proofs.Ytaediecdpgndjaa
