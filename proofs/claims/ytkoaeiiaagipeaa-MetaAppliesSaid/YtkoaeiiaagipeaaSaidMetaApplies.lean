/- The row of MetaAppliesSaid: whatever the input, the law answers true and the input reads as it did. -/
import Derived.Test.YtkoaeiiaagipeaaRows
import Derived.Test.YtkoaeiiaagipeaaQMetaApplies
import Derived.Test.YtkoaeiiaagipeaaMetaE
import Derived.Test.YtkoaeiiaagipeaaMSize
import Derived.Test.YtkoaeiiaagipeaaWSized
import Derived.WalkKit
import Derived.ProofKit
import Derived.OpenShut
import Derived.ShutString
import Derived.ChangeOld
import Derived.Below
import Derived.SizedLaws
import Derived.ChangeArms
namespace Go.Proofs.Ytkoaeiiaagipeaa.metaAppliesS
open Go.ChangeShapes Go.WideShapes Go.ChangeAt Go.RowKit Go.Proofs.Ytkoaeiiaagipeaa Go.Proofs.Ytkoaeiiaagipeaa.PMetaApplies Go.Proofs.Ytkoaeiiaagipeaa.Pure Go.Proofs.YtkoaeiiaagipeaaW.PrintWords Go.Proofs.YtkoaeiiaagipeaaW.PrintLast Go.Proofs.YtkoaeiiaagipeaaW.PrintMore
open Go.ChangeMaps (open_string shut_string)
set_option linter.unusedVariables false
set_option linter.unusedSimpArgs false
def V42 (H : Type) (a : S42) (d : DataW H) : Prop := ∃ y0 y1 y2 y3 : DataW H, d = .agg [y0, y1, y2, y3] ∧ (M.VInt .u64) H a.f0 y0 ∧ (M.VInt .u64) H a.f1 y1 ∧ (M.VInt .i64) H a.f2 y2 ∧ (M.VSl (M.VInt .i64)) H a.f3 y3
theorem sz42 : M.Sz Try.prog V42 42 WF42 := by
  intro H a d h hw
  obtain ⟨y0, y1, y2, y3, rfl, v0, v1, v2, v3⟩ := h
  have e : DataW.weights Try.prog 42 (.agg [y0, y1, y2, y3]) = DataW.weights Try.prog 37 y0 ++ (DataW.weights Try.prog 37 y1 ++ (DataW.weights Try.prog 3 y2 ++ (DataW.weights Try.prog 40 y3 ++ (([] : List Nat))))) := by simp [DataW.weights, DataW.weightsEach, Try.underlying42]
  rw [e] at hw
  exact ⟨(M.sz_int (P := Try.prog) (t := 37)) H _ _ v0 (fun n hn => hw n (by simp [hn])), (M.sz_int (P := Try.prog) (t := 37)) H _ _ v1 (fun n hn => hw n (by simp [hn])), (M.sz_int (P := Try.prog) (t := 3)) H _ _ v2 (fun n hn => hw n (by simp [hn])), (M.sz_slice (B := 8) Try.underlying40 (by kernel_rfl) (M.sz_int (P := Try.prog) (t := 3))) H _ _ v3 (fun n hn => hw n (by simp [hn]))⟩
set_option maxRecDepth 100000 in
theorem opens42 : M.Opens Try.prog k42 42 V42 := by
  intro H enc W fuel cs x h
  obtain ⟨xs, n, _, rfl, hl, hlen, hf⟩ := DataW.trod_struct Try.underlying42 h
  have hl : cs.length = 4 := hl.trans (by kernel_rfl)
  obtain ⟨c0, cs, rfl⟩ := List.exists_cons_of_length_eq_add_one hl
  replace hl := Nat.succ.inj hl
  obtain ⟨c1, cs, rfl⟩ := List.exists_cons_of_length_eq_add_one hl
  replace hl := Nat.succ.inj hl
  obtain ⟨c2, cs, rfl⟩ := List.exists_cons_of_length_eq_add_one hl
  replace hl := Nat.succ.inj hl
  obtain ⟨c3, cs, rfl⟩ := List.exists_cons_of_length_eq_add_one hl
  replace hl := Nat.succ.inj hl
  obtain rfl := List.eq_nil_of_length_eq_zero hl
  match xs, hlen with
  | [y0, y1, y2, y3], _ =>
    have g0 : DataW.trod enc Try.prog W 0 (fun _ => true) true n 37 ((List.drop 0 [c0, c1, c2, c3]).take (Try.prog.cellsOf 37)) = some y0 := hf 0 _ rfl
    rw [show Try.prog.cellsOf 37 = 1 from by kernel_rfl] at g0
    obtain ⟨b0, K0, v0⟩ := (M.opens_int Try.underlying37) H enc W n _ _ g0
    have g1 : DataW.trod enc Try.prog W 0 (fun _ => true) true n 37 ((List.drop 1 [c0, c1, c2, c3]).take (Try.prog.cellsOf 37)) = some y1 := hf 1 _ rfl
    rw [show Try.prog.cellsOf 37 = 1 from by kernel_rfl] at g1
    obtain ⟨b1, K1, v1⟩ := (M.opens_int Try.underlying37) H enc W n _ _ g1
    have g2 : DataW.trod enc Try.prog W 0 (fun _ => true) true n 3 ((List.drop 2 [c0, c1, c2, c3]).take (Try.prog.cellsOf 3)) = some y2 := hf 2 _ rfl
    rw [show Try.prog.cellsOf 3 = 1 from by kernel_rfl] at g2
    obtain ⟨b2, K2, v2⟩ := (M.opens_int Try.underlying3) H enc W n _ _ g2
    have g3 : DataW.trod enc Try.prog W 0 (fun _ => true) true n 40 ((List.drop 3 [c0, c1, c2, c3]).take (Try.prog.cellsOf 40)) = some y3 := hf 3 _ rfl
    rw [show Try.prog.cellsOf 40 = 1 from by kernel_rfl] at g3
    obtain ⟨b3, K3, v3⟩ := (M.opens_slice Try.underlying40 (by kernel_rfl) (M.opens_int Try.underlying3)) H enc W n _ _ g3
    exact ⟨⟨b0, b1, b2, b3⟩, ⟨[c0], [c1, c2, c3], rfl, K0, ⟨[c1], [c2, c3], rfl, K1, ⟨[c2], [c3], rfl, K2, K3⟩⟩⟩, y0.1, y1.1, y2.1, y3.1, rfl, v0, v1, v2, v3⟩
def V24p (H : Type) (a : (Int × (List S42))) (d : DataW H) : Prop := ∃ y0 y1 : DataW H, d = .agg [y0, y1] ∧ (M.VInt .i64) H a.1 y0 ∧ (M.VSl V42) H a.2 y1
set_option maxRecDepth 100000 in
theorem opens24p : M.Opens Try.prog (Kd.pair (Kd.int .i64) (Kd.slice 42 k42)) 24 V24p := by
  intro H enc W fuel cs x h
  obtain ⟨xs, n, _, rfl, hl, hlen, hf⟩ := DataW.trod_struct Try.underlying24 h
  have hl : cs.length = 2 := hl.trans (by kernel_rfl)
  obtain ⟨c0, cs, rfl⟩ := List.exists_cons_of_length_eq_add_one hl
  replace hl := Nat.succ.inj hl
  obtain ⟨c1, cs, rfl⟩ := List.exists_cons_of_length_eq_add_one hl
  replace hl := Nat.succ.inj hl
  obtain rfl := List.eq_nil_of_length_eq_zero hl
  match xs, hlen with
  | [y0, y1], _ =>
    have g0 : DataW.trod enc Try.prog W 0 (fun _ => true) true n 3 ((List.drop 0 [c0, c1]).take (Try.prog.cellsOf 3)) = some y0 := hf 0 _ rfl
    rw [show Try.prog.cellsOf 3 = 1 from by kernel_rfl] at g0
    obtain ⟨b0, K0, v0⟩ := (M.opens_int Try.underlying3) H enc W n _ _ g0
    have g1 : DataW.trod enc Try.prog W 0 (fun _ => true) true n 22 ((List.drop 1 [c0, c1]).take (Try.prog.cellsOf 22)) = some y1 := hf 1 _ rfl
    rw [show Try.prog.cellsOf 22 = 1 from by kernel_rfl] at g1
    obtain ⟨b1, K1, v1⟩ := (M.opens_slice Try.underlying22 (by kernel_rfl) opens42) H enc W n _ _ g1
    exact ⟨⟨b0, b1⟩, ⟨[c0], [c1], rfl, K0, K1⟩, y0.1, y1.1, rfl, v0, v1⟩
def V39 (H : Type) (a : S39) (d : DataW H) : Prop := ∃ y0 y1 y2 y3 : DataW H, d = .agg [y0, y1, y2, y3] ∧ (M.VInt .u8) H a.f0 y0 ∧ (M.VInt .i64) H a.f1 y1 ∧ (M.VInt .i64) H a.f2 y2 ∧ (M.VInt .u64) H a.f3 y3
theorem sz39 : M.Sz Try.prog V39 39 WF39 := by
  intro H a d h hw
  obtain ⟨y0, y1, y2, y3, rfl, v0, v1, v2, v3⟩ := h
  have e : DataW.weights Try.prog 39 (.agg [y0, y1, y2, y3]) = DataW.weights Try.prog 5 y0 ++ (DataW.weights Try.prog 3 y1 ++ (DataW.weights Try.prog 3 y2 ++ (DataW.weights Try.prog 37 y3 ++ (([] : List Nat))))) := by simp [DataW.weights, DataW.weightsEach, Try.underlying39]
  rw [e] at hw
  exact ⟨(M.sz_int (P := Try.prog) (t := 5)) H _ _ v0 (fun n hn => hw n (by simp [hn])), (M.sz_int (P := Try.prog) (t := 3)) H _ _ v1 (fun n hn => hw n (by simp [hn])), (M.sz_int (P := Try.prog) (t := 3)) H _ _ v2 (fun n hn => hw n (by simp [hn])), (M.sz_int (P := Try.prog) (t := 37)) H _ _ v3 (fun n hn => hw n (by simp [hn]))⟩
set_option maxRecDepth 100000 in
theorem opens39 : M.Opens Try.prog k39 39 V39 := by
  intro H enc W fuel cs x h
  obtain ⟨xs, n, _, rfl, hl, hlen, hf⟩ := DataW.trod_struct Try.underlying39 h
  have hl : cs.length = 4 := hl.trans (by kernel_rfl)
  obtain ⟨c0, cs, rfl⟩ := List.exists_cons_of_length_eq_add_one hl
  replace hl := Nat.succ.inj hl
  obtain ⟨c1, cs, rfl⟩ := List.exists_cons_of_length_eq_add_one hl
  replace hl := Nat.succ.inj hl
  obtain ⟨c2, cs, rfl⟩ := List.exists_cons_of_length_eq_add_one hl
  replace hl := Nat.succ.inj hl
  obtain ⟨c3, cs, rfl⟩ := List.exists_cons_of_length_eq_add_one hl
  replace hl := Nat.succ.inj hl
  obtain rfl := List.eq_nil_of_length_eq_zero hl
  match xs, hlen with
  | [y0, y1, y2, y3], _ =>
    have g0 : DataW.trod enc Try.prog W 0 (fun _ => true) true n 5 ((List.drop 0 [c0, c1, c2, c3]).take (Try.prog.cellsOf 5)) = some y0 := hf 0 _ rfl
    rw [show Try.prog.cellsOf 5 = 1 from by kernel_rfl] at g0
    obtain ⟨b0, K0, v0⟩ := (M.opens_int Try.underlying5) H enc W n _ _ g0
    have g1 : DataW.trod enc Try.prog W 0 (fun _ => true) true n 3 ((List.drop 1 [c0, c1, c2, c3]).take (Try.prog.cellsOf 3)) = some y1 := hf 1 _ rfl
    rw [show Try.prog.cellsOf 3 = 1 from by kernel_rfl] at g1
    obtain ⟨b1, K1, v1⟩ := (M.opens_int Try.underlying3) H enc W n _ _ g1
    have g2 : DataW.trod enc Try.prog W 0 (fun _ => true) true n 3 ((List.drop 2 [c0, c1, c2, c3]).take (Try.prog.cellsOf 3)) = some y2 := hf 2 _ rfl
    rw [show Try.prog.cellsOf 3 = 1 from by kernel_rfl] at g2
    obtain ⟨b2, K2, v2⟩ := (M.opens_int Try.underlying3) H enc W n _ _ g2
    have g3 : DataW.trod enc Try.prog W 0 (fun _ => true) true n 37 ((List.drop 3 [c0, c1, c2, c3]).take (Try.prog.cellsOf 37)) = some y3 := hf 3 _ rfl
    rw [show Try.prog.cellsOf 37 = 1 from by kernel_rfl] at g3
    obtain ⟨b3, K3, v3⟩ := (M.opens_int Try.underlying37) H enc W n _ _ g3
    exact ⟨⟨b0, b1, b2, b3⟩, ⟨[c0], [c1, c2, c3], rfl, K0, ⟨[c1], [c2, c3], rfl, K1, ⟨[c2], [c3], rfl, K2, K3⟩⟩⟩, y0.1, y1.1, y2.1, y3.1, rfl, v0, v1, v2, v3⟩
theorem own : ownKnob Try.prog.godebug = none := by kernel_rfl
theorem laidOut : laidOutB Try.prog = true := by kernel_rfl
set_option maxRecDepth 100000 in
theorem lifted (os : Os) (started : os.Started) (H : Type) (enc : TypeId × Value → H) :
    ReturnsInHanded {} Try.checked os 4 .any (Rows.metaAppliesSpec.pre6 enc Try.prog Try.f4 Rows.metaAppliesRow.domain false) (Rows.metaAppliesSpec.post enc Try.prog Try.f4 false true false false) := by
  refine returnsInHanded_of_change_sized (C := Try.checked) own started (by kernel_rfl) Try.func4
    (ChangeSpec.witness6 (enc := enc) (C := Try.checked) false ⟨#[], #[.agg #[.int .i64 0, .slice none 0 0], .slice none 0 0], []⟩ 8 (by kernel_rfl) (by kernel_rfl) (by kernel_rfl) (by kernel_rfl)) ?_
  intro W base args ds gs before hval0 hW hcnd hsz0 _
  have hval : ∀ (j : Nat) t v, Try.f4.params[j]? = some t → args[j]? = some v → Value.okWide Try.prog W .any base t v := hval0
  have hW' := hW
  obtain ⟨p, q, hA0, hV, rfl, hfz, hnd⟩ := hW
  have hA : DataW.TrodAll enc Try.prog W 0 (fun _ => true) true Try.f4.params.toList args.toList ds p := hA0
  have hsz : (DataW.weightsEach Try.prog (Try.f4.params.toList ++ Rows.metaAppliesSpec.plain.varTypes Try.prog) (ds ++ gs)).all (· ≤ reachBytes) = true := hsz0
  rw [Try.params4] at hA hval hsz
  obtain ⟨v0, vs0, d0, ds0, p0, q0, hargs, rfl, rfl, h0, r0⟩ := trodAll_cons hA
  obtain ⟨v1, vs1, d1, ds1, p1, q1, rfl, rfl, rfl, h1, r1⟩ := trodAll_cons r0
  obtain ⟨rfl, rfl, rfl⟩ := trodAll_nil r1
  obtain rfl : args = #[v0, v1] := by cases args; simp_all
  obtain ⟨rfl, rfl⟩ := trodVars_none hV
  obtain ⟨g0, rfl, z0⟩ := okWide_struct Try.underlying24 (hval 0 24 v0 rfl rfl)
  have k0 := h0
  have lt0 : ∀ x ∈ p0, x.block < W.heap.size := by obtain ⟨m, hm⟩ := k0; exact DataW.trod_lt m _ _ _ hm
  obtain ⟨fuel0, hf0⟩ := h0
  obtain ⟨⟨b0_0, b0_1⟩, K0, V0⟩ := opens24p H enc W fuel0 _ _ hf0
  obtain ⟨_, _, e0, rfl, ⟨A0_1, c0_1, rfl, le0_1, C0_1⟩⟩ := K0
  obtain rfl : g0 = #[.int .i64 b0_0, .slice A0_1 b0_1.length c0_1] := by
    cases g0 with
    | mk gl => simp only [Value.cells] at e0; simpa using e0
  obtain ⟨Y0_0, Y0_1, eD0, V0_0, V0_1⟩ := V0
  have wt0 : ∀ n, n ∈ DataW.weights Try.prog 3 Y0_0 ++ (DataW.weights Try.prog 22 Y0_1 ++ (([] : List Nat))) → n ≤ reachBytes := fun n hn => M.wt_at hsz (j := 0) (t := 24) rfl rfl n (by rw [show d0 = DataW.agg [Y0_0, Y0_1] from eD0]; simpa [DataW.weights, DataW.weightsEach, Try.underlying24] using hn)
  obtain ⟨a1, len1, cap1, rfl⟩ := okWide_slice Try.underlying34 (hval 1 34 v1 rfl rfl)
  have k1 := h1
  have lt1 : ∀ x ∈ p1, x.block < W.heap.size := by obtain ⟨m, hm⟩ := k1; exact DataW.trod_lt m _ _ _ hm
  obtain ⟨A1, c1, l1, e1, C1, le1, V1⟩ := M.open_sl (M.opens_slice Try.underlying34 (by kernel_rfl) opens39) h1
  simp [Value.cells] at e1
  obtain ⟨rfl, rfl, rfl⟩ := e1
  clear hA0 hval0 hsz0
  refine (M.metaApplies_law b0_0 _ _ b0_1 _ _ l1 W C0_1 le0_1 C1 le1 ((M.sz_int (P := Try.prog) (t := 3)) H _ _ V0_0 (fun n hn => wt0 n (by simp [hn]))) ((M.sz_slice (B := 48) Try.underlying22 (by kernel_rfl) sz42) H _ _ V0_1 (fun n hn => wt0 n (by simp [hn]))) ((M.sz_slice (B := 32) Try.underlying34 (by kernel_rfl) sz39) H _ _ V1 (M.wt_at hsz (j := 1) rfl rfl))).mono fun e W' ⟨he, bel⟩ => ?_
  subst he
  exact ⟨_, rfl, _, _, _, [], _, [], hW', trodAll_mk1 (shut_bool Try.underlying4 _), (trodAll_cons_mk (Below.trod laidOut (by kernel_rfl) (of_decide_eq_true (by kernel_rfl)) k0 bel lt0) (trodAll_cons_mk (Below.trod laidOut (by kernel_rfl) (of_decide_eq_true (by kernel_rfl)) k1 bel lt1) trodAll_mk0)), rfl, bel.frame _, fun h => by cases h⟩
theorem over : Rows.metaAppliesRow.holds Try.pinned (OpenSpec.ofChange Rows.metaAppliesSpec) :=
  OpenClaim.holds_of_wide 4 Try.f4 rfl rfl rfl rfl rfl rfl rfl ⟨rfl, rfl, rfl, rfl, rfl⟩ rfl rfl rfl rfl rfl (by kernel_rfl) Try.func4 (by kernel_rfl)
    (of_decide_eq_true (by kernel_rfl)) (by unfold Func.isWrapper; first | (rw [if_pos (by decide +kernel)]; kernel_rfl) | (rw [if_neg (by decide +kernel)]; exact ⟨rfl, rfl⟩))
    (fun os started H enc _ => lifted os started H enc)
theorem proved : Rows.MetaAppliesSaid := over
#print axioms proved
end Go.Proofs.Ytkoaeiiaagipeaa.metaAppliesS
namespace Go.Proofs.Ytkoaeiiaagipeaa
/-- The row, under a short name, for the claim. -/
theorem metaApplies_holds : Rows.MetaAppliesSaid := metaAppliesS.proved
end Go.Proofs.Ytkoaeiiaagipeaa
