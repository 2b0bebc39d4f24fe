/- The row of MetaCodesSaid: whatever the input, the law answers true and the input reads as it did. -/
import Derived.Test.YtkoaeiiaagipeaaRows
import Derived.Test.YtkoaeiiaagipeaaQMetaCodes
import Derived.Test.YtkoaeiiaagipeaaPureMetaCodes
import Derived.Test.YtkoaeiiaagipeaaMOpen
import Derived.Test.YtkoaeiiaagipeaaWSized
import Derived.WalkKit
import Derived.ProofKit
import Derived.OpenShut
import Derived.ShutString
import Derived.ChangeOld
import Derived.Below
import Derived.SizedLaws
import Derived.ChangeArms
namespace Go.Proofs.Ytkoaeiiaagipeaa.metaCodesS
open Go.ChangeShapes Go.WideShapes Go.ChangeAt Go.RowKit Go.Proofs.Ytkoaeiiaagipeaa Go.Proofs.Ytkoaeiiaagipeaa.PMetaCodes Go.Proofs.Ytkoaeiiaagipeaa.Pure Go.Proofs.YtkoaeiiaagipeaaW.PrintWords Go.Proofs.YtkoaeiiaagipeaaW.PrintLast Go.Proofs.YtkoaeiiaagipeaaW.PrintMore
open Go.ChangeMaps (open_string shut_string)
set_option linter.unusedVariables false
set_option linter.unusedSimpArgs false
def V39p (H : Type) (a : (Int × Int × Int × Int)) (d : DataW H) : Prop := ∃ y0 y1 y2 y3 : DataW H, d = .agg [y0, y1, y2, y3] ∧ (M.VInt .u8) H a.1 y0 ∧ (M.VInt .i64) H a.2.1 y1 ∧ (M.VInt .i64) H a.2.2.1 y2 ∧ (M.VInt .u64) H a.2.2.2 y3
set_option maxRecDepth 100000 in
theorem opens39p : M.Opens Try.prog (Kd.pair (Kd.int .u8) (Kd.pair (Kd.int .i64) (Kd.pair (Kd.int .i64) (Kd.int .u64)))) 39 V39p := by
  intro H enc W fuel cs x h
  obtain ⟨xs, n, _, rfl, hl, hlen, hf⟩ := DataW.trod_struct Try.underlying39 h
  have hl : cs.length = 4 := hl.trans (by kernel_rfl)
  obtain ⟨c0, cs, rfl⟩ := List.exists_cons_of_length_eq_add_one hl
  replace hl := Nat.succ.inj hl
  obtain ⟨c1, cs, rfl⟩ := List.exists_cons_of_length_eq_add_one hl
  replace hl := Nat.succ.inj hl
  obtain ⟨c2, cs, rfl⟩ := List.exists_cons_of_length_eq_add_one hl
  replace hl := Nat.succ.inj hl
  obtain ⟨c3, cs, rfl⟩ := List.exists_cons_of_length_eq_add_one hl
  replace hl := Nat.succ.inj hl
  obtain rfl := List.eq_nil_of_length_eq_zero hl
  match xs, hlen with
  | [y0, y1, y2, y3], _ =>
    have g0 : DataW.trod enc Try.prog W 0 (fun _ => true) true n 5 ((List.drop 0 [c0, c1, c2, c3]).take (Try.prog.cellsOf 5)) = some y0 := hf 0 _ rfl
    rw [show Try.prog.cellsOf 5 = 1 from by kernel_rfl] at g0
    obtain ⟨b0, K0, v0⟩ := (M.opens_int Try.underlying5) H enc W n _ _ g0
    have g1 : DataW.trod enc Try.prog W 0 (fun _ => true) true n 3 ((List.drop 1 [c0, c1, c2, c3]).take (Try.prog.cellsOf 3)) = some y1 := hf 1 _ rfl
    rw [show Try.prog.cellsOf 3 = 1 from by kernel_rfl] at g1
    obtain ⟨b1, K1, v1⟩ := (M.opens_int Try.underlying3) H enc W n _ _ g1
    have g2 : DataW.trod enc Try.prog W 0 (fun _ => true) true n 3 ((List.drop 2 [c0, c1, c2, c3]).take (Try.prog.cellsOf 3)) = some y2 := hf 2 _ rfl
    rw [show Try.prog.cellsOf 3 = 1 from by kernel_rfl] at g2
    obtain ⟨b2, K2, v2⟩ := (M.opens_int Try.underlying3) H enc W n _ _ g2
    have g3 : DataW.trod enc Try.prog W 0 (fun _ => true) true n 37 ((List.drop 3 [c0, c1, c2, c3]).take (Try.prog.cellsOf 37)) = some y3 := hf 3 _ rfl
    rw [show Try.prog.cellsOf 37 = 1 from by kernel_rfl] at g3
    obtain ⟨b3, K3, v3⟩ := (M.opens_int Try.underlying37) H enc W n _ _ g3
    exact ⟨⟨b0, b1, b2, b3⟩, ⟨[c0], [c1, c2, c3], rfl, K0, ⟨[c1], [c2, c3], rfl, K1, ⟨[c2], [c3], rfl, K2, K3⟩⟩⟩, y0.1, y1.1, y2.1, y3.1, rfl, v0, v1, v2, v3⟩
theorem own : ownKnob Try.prog.godebug = none := by kernel_rfl
theorem laidOut : laidOutB Try.prog = true := by kernel_rfl
set_option maxRecDepth 100000 in
theorem lifted (os : Os) (started : os.Started) (H : Type) (enc : TypeId × Value → H) :
    ReturnsInHanded {} Try.checked os 14 .any (Rows.metaCodesSpec.pre6 enc Try.prog Try.f14 Rows.metaCodesRow.domain false) (Rows.metaCodesSpec.post enc Try.prog Try.f14 false true false false) := by
  refine returnsInHanded_of_change_sized (C := Try.checked) own started (by kernel_rfl) Try.func14
    (ChangeSpec.witness6 (enc := enc) (C := Try.checked) false ⟨#[], #[.agg #[.int .u8 0, .int .i64 0, .int .i64 0, .int .u64 0], .slice none 0 0], []⟩ 8 (by kernel_rfl) (by kernel_rfl) (by kernel_rfl) (by kernel_rfl)) ?_
  intro W base args ds gs before hval0 hW hcnd hsz0 _
  have hval : ∀ (j : Nat) t v, Try.f14.params[j]? = some t → args[j]? = some v → Value.okWide Try.prog W .any base t v := hval0
  have hW' := hW
  obtain ⟨p, q, hA0, hV, rfl, hfz, hnd⟩ := hW
  have hA : DataW.TrodAll enc Try.prog W 0 (fun _ => true) true Try.f14.params.toList args.toList ds p := hA0
  have hsz : (DataW.weightsEach Try.prog (Try.f14.params.toList ++ Rows.metaCodesSpec.plain.varTypes Try.prog) (ds ++ gs)).all (· ≤ reachBytes) = true := hsz0
  rw [Try.params14] at hA hval hsz
  obtain ⟨v0, vs0, d0, ds0, p0, q0, hargs, rfl, rfl, h0, r0⟩ := trodAll_cons hA
  obtain ⟨v1, vs1, d1, ds1, p1, q1, rfl, rfl, rfl, h1, r1⟩ := trodAll_cons r0
  obtain ⟨rfl, rfl, rfl⟩ := trodAll_nil r1
  obtain rfl : args = #[v0, v1] := by cases args; simp_all
  obtain ⟨rfl, rfl⟩ := trodVars_none hV
  obtain ⟨g0, rfl, z0⟩ := okWide_struct Try.underlying39 (hval 0 39 v0 rfl rfl)
  have k0 := h0
  have lt0 : ∀ x ∈ p0, x.block < W.heap.size := by obtain ⟨m, hm⟩ := k0; exact DataW.trod_lt m _ _ _ hm
  obtain ⟨fuel0, hf0⟩ := h0
  obtain ⟨⟨b0_0, b0_1, b0_2, b0_3⟩, K0, V0⟩ := opens39p H enc W fuel0 _ _ hf0
  obtain ⟨_, _, e0, rfl, ⟨_, _, rfl, rfl, ⟨_, _, rfl, rfl, rfl⟩⟩⟩ := K0
  obtain rfl : g0 = #[.int .u8 b0_0, .int .i64 b0_1, .int .i64 b0_2, .int .u64 b0_3] := by
    cases g0 with
    | mk gl => simp only [Value.cells] at e0; simpa using e0
  obtain ⟨_, _, _, _, _, V0_0, V0_1, V0_2, V0_3⟩ := V0
  obtain ⟨a1, len1, cap1, rfl⟩ := okWide_slice Try.underlying46 (hval 1 46 v1 rfl rfl)
  have k1 := h1
  have lt1 : ∀ x ∈ p1, x.block < W.heap.size := by obtain ⟨m, hm⟩ := k1; exact DataW.trod_lt m _ _ _ hm
  have y1 : len1 * 1 ≤ 140737488351232 := Go.Proofs.YtkoaeiiaagipeaaW.PrintWords.sized_ints hsz (j := 1) (t := 46) rfl rfl Try.underlying46 Try.underlying5 (by kernel_rfl) (by kernel_rfl) h1
  obtain ⟨A1, c1, l1, e1, C1, le1, V1⟩ := M.open_sl (M.opens_slice Try.underlying46 (by kernel_rfl) (M.opens_int Try.underlying5)) h1
  simp [Value.cells] at e1
  obtain ⟨rfl, rfl, rfl⟩ := e1
  clear hA0 hval0 hsz0 hsz
  obtain ⟨k, hf⟩ := Pure.MetaCodes b0_0 b0_1 b0_2 b0_3 l1 V0_0.2 V0_1.2 V0_2.2 V0_3.2 y1 (M.VSl.all (fun a y h => h.2) V1)
  refine (PMetaCodes.fascinelaw14_MetaCodes.calls k b0_0 b0_1 b0_2 b0_3 _ _ l1 true W C1 le1 hf rfl).mono fun e W' ⟨he, bel⟩ => ?_
  subst he
  exact ⟨_, rfl, _, _, _, [], _, [], hW', trodAll_mk1 (shut_bool Try.underlying4 _), (trodAll_cons_mk (Below.trod laidOut (by kernel_rfl) (of_decide_eq_true (by kernel_rfl)) k0 bel lt0) (trodAll_cons_mk (Below.trod laidOut (by kernel_rfl) (of_decide_eq_true (by kernel_rfl)) k1 bel lt1) trodAll_mk0)), rfl, bel.frame _, fun h => by cases h⟩
theorem over : Rows.metaCodesRow.holds Try.pinned (OpenSpec.ofChange Rows.metaCodesSpec) :=
  OpenClaim.holds_of_wide 14 Try.f14 rfl rfl rfl rfl rfl rfl rfl ⟨rfl, rfl, rfl, rfl, rfl⟩ rfl rfl rfl rfl rfl (by kernel_rfl) Try.func14 (by kernel_rfl)
    (of_decide_eq_true (by kernel_rfl)) (by unfold Func.isWrapper; first | (rw [if_pos (by decide +kernel)]; kernel_rfl) | (rw [if_neg (by decide +kernel)]; exact ⟨rfl, rfl⟩))
    (fun os started H enc _ => lifted os started H enc)
theorem proved : Rows.MetaCodesSaid := over
#print axioms proved
end Go.Proofs.Ytkoaeiiaagipeaa.metaCodesS
namespace Go.Proofs.Ytkoaeiiaagipeaa
/-- The row, under a short name, for the claim. -/
theorem metaCodes_holds : Rows.MetaCodesSaid := metaCodesS.proved
end Go.Proofs.Ytkoaeiiaagipeaa
