/- The row of PrimPlaysSaid: whatever the input, the law answers true and the input reads as it did. -/
import Derived.Test.YtfaipapaiobgcaaRows
import Derived.Test.YtfaipapaiobgcaaQPrimPlays
import Derived.Test.YtfaipapaiobgcaaPrimO
import Derived.Test.YtfaipapaiobgcaaMSize
import Derived.Test.YtfaipapaiobgcaaWSized
import Derived.WalkKit
import Derived.ProofKit
import Derived.OpenShut
import Derived.ShutString
import Derived.ChangeOld
import Derived.Below
import Derived.SizedLaws
import Derived.ChangeArms
namespace Go.Proofs.Ytfaipapaiobgcaa.primPlaysS
open Go.ChangeShapes Go.WideShapes Go.ChangeAt Go.RowKit Go.Proofs.Ytfaipapaiobgcaa Go.Proofs.Ytfaipapaiobgcaa.PPrimPlays Go.Proofs.Ytfaipapaiobgcaa.Pure Go.Proofs.YtfaipapaiobgcaaW.PrintWords Go.Proofs.YtfaipapaiobgcaaW.PrintLast Go.Proofs.YtfaipapaiobgcaaW.PrintMore
open Go.ChangeMaps (open_string shut_string)
set_option linter.unusedVariables false
set_option linter.unusedSimpArgs false
def V42 (H : Type) (a : S42) (d : DataW H) : Prop := ∃ y0 y1 y2 y3 y4 : DataW H, d = .agg [y0, y1, y2, y3, y4] ∧ (M.VInt .u8) H a.f0 y0 ∧ (M.VInt .u64) H a.f1 y1 ∧ (M.VSl (M.VInt .i64)) H a.f2 y2 ∧ (M.VInt .i64) H a.f3 y3 ∧ (M.VInt .i64) H a.f4 y4
theorem sz42 : M.Sz Try.prog V42 42 WF42 := by
  intro H a d h hw
  obtain ⟨y0, y1, y2, y3, y4, rfl, v0, v1, v2, v3, v4⟩ := h
  have e : DataW.weights Try.prog 42 (.agg [y0, y1, y2, y3, y4]) = DataW.weights Try.prog 5 y0 ++ (DataW.weights Try.prog 27 y1 ++ (DataW.weights Try.prog 24 y2 ++ (DataW.weights Try.prog 3 y3 ++ (DataW.weights Try.prog 3 y4 ++ (([] : List Nat)))))) := by simp [DataW.weights, DataW.weightsEach, Try.underlying42]
  rw [e] at hw
  exact ⟨(M.sz_int (P := Try.prog) (t := 5)) H _ _ v0 (fun n hn => hw n (by simp [hn])), (M.sz_int (P := Try.prog) (t := 27)) H _ _ v1 (fun n hn => hw n (by simp [hn])), (M.sz_slice (B := 8) Try.underlying24 (by kernel_rfl) (M.sz_int (P := Try.prog) (t := 3))) H _ _ v2 (fun n hn => hw n (by simp [hn])), (M.sz_int (P := Try.prog) (t := 3)) H _ _ v3 (fun n hn => hw n (by simp [hn])), (M.sz_int (P := Try.prog) (t := 3)) H _ _ v4 (fun n hn => hw n (by simp [hn]))⟩
set_option maxRecDepth 100000 in
theorem opens42 : M.Opens Try.prog k42 42 V42 := by
  intro H enc W fuel cs x h
  obtain ⟨xs, n, _, rfl, hl, hlen, hf⟩ := DataW.trod_struct Try.underlying42 h
  have hl : cs.length = 5 := hl.trans (by kernel_rfl)
  obtain ⟨c0, cs, rfl⟩ := List.exists_cons_of_length_eq_add_one hl
  replace hl := Nat.succ.inj hl
  obtain ⟨c1, cs, rfl⟩ := List.exists_cons_of_length_eq_add_one hl
  replace hl := Nat.succ.inj hl
  obtain ⟨c2, cs, rfl⟩ := List.exists_cons_of_length_eq_add_one hl
  replace hl := Nat.succ.inj hl
  obtain ⟨c3, cs, rfl⟩ := List.exists_cons_of_length_eq_add_one hl
  replace hl := Nat.succ.inj hl
  obtain ⟨c4, cs, rfl⟩ := List.exists_cons_of_length_eq_add_one hl
  replace hl := Nat.succ.inj hl
  obtain rfl := List.eq_nil_of_length_eq_zero hl
  match xs, hlen with
  | [y0, y1, y2, y3, y4], _ =>
    have g0 : DataW.trod enc Try.prog W 0 (fun _ => true) true n 5 ((List.drop 0 [c0, c1, c2, c3, c4]).take (Try.prog.cellsOf 5)) = some y0 := hf 0 _ rfl
    rw [show Try.prog.cellsOf 5 = 1 from by kernel_rfl] at g0
    obtain ⟨b0, K0, v0⟩ := (M.opens_int Try.underlying5) H enc W n _ _ g0
    have g1 : DataW.trod enc Try.prog W 0 (fun _ => true) true n 27 ((List.drop 1 [c0, c1, c2, c3, c4]).take (Try.prog.cellsOf 27)) = some y1 := hf 1 _ rfl
    rw [show Try.prog.cellsOf 27 = 1 from by kernel_rfl] at g1
    obtain ⟨b1, K1, v1⟩ := (M.opens_int Try.underlying27) H enc W n _ _ g1
    have g2 : DataW.trod enc Try.prog W 0 (fun _ => true) true n 24 ((List.drop 2 [c0, c1, c2, c3, c4]).take (Try.prog.cellsOf 24)) = some y2 := hf 2 _ rfl
    rw [show Try.prog.cellsOf 24 = 1 from by kernel_rfl] at g2
    obtain ⟨b2, K2, v2⟩ := (M.opens_slice Try.underlying24 (by kernel_rfl) (M.opens_int Try.underlying3)) H enc W n _ _ g2
    have g3 : DataW.trod enc Try.prog W 0 (fun _ => true) true n 3 ((List.drop 3 [c0, c1, c2, c3, c4]).take (Try.prog.cellsOf 3)) = some y3 := hf 3 _ rfl
    rw [show Try.prog.cellsOf 3 = 1 from by kernel_rfl] at g3
    obtain ⟨b3, K3, v3⟩ := (M.opens_int Try.underlying3) H enc W n _ _ g3
    have g4 : DataW.trod enc Try.prog W 0 (fun _ => true) true n 3 ((List.drop 4 [c0, c1, c2, c3, c4]).take (Try.prog.cellsOf 3)) = some y4 := hf 4 _ rfl
    rw [show Try.prog.cellsOf 3 = 1 from by kernel_rfl] at g4
    obtain ⟨b4, K4, v4⟩ := (M.opens_int Try.underlying3) H enc W n _ _ g4
    exact ⟨⟨b0, b1, b2, b3, b4⟩, ⟨[c0], [c1, c2, c3, c4], rfl, K0, ⟨[c1], [c2, c3, c4], rfl, K1, ⟨[c2], [c3, c4], rfl, K2, ⟨[c3], [c4], rfl, K3, K4⟩⟩⟩⟩, y0.1, y1.1, y2.1, y3.1, y4.1, rfl, v0, v1, v2, v3, v4⟩
theorem own : ownKnob Try.prog.godebug = none := by kernel_rfl
theorem laidOut : laidOutB Try.prog = true := by kernel_rfl
set_option maxRecDepth 100000 in
theorem lifted (os : Os) (started : os.Started) (H : Type) (enc : TypeId × Value → H) :
    ReturnsInHanded {} Try.checked os 6 .any (Rows.primPlaysSpec.pre6 enc Try.prog Try.f6 Rows.primPlaysRow.domain false) (Rows.primPlaysSpec.post enc Try.prog Try.f6 false true false false) := by
  refine returnsInHanded_of_change_sized (C := Try.checked) own started (by kernel_rfl) Try.func6
    (ChangeSpec.witness6 (enc := enc) (C := Try.checked) false ⟨#[], #[.int .u8 0, .int .u64 0, .int .u64 0, .slice none 0 0, .slice none 0 0, .int .i64 0], []⟩ 8 (by kernel_rfl) (by kernel_rfl) (by kernel_rfl) (by kernel_rfl)) ?_
  intro W base args ds gs before hval0 hW hcnd hsz0 _
  have hval : ∀ (j : Nat) t v, Try.f6.params[j]? = some t → args[j]? = some v → Value.okWide Try.prog W .any base t v := hval0
  have hW' := hW
  obtain ⟨p, q, hA0, hV, rfl, hfz, hnd⟩ := hW
  have hA : DataW.TrodAll enc Try.prog W 0 (fun _ => true) true Try.f6.params.toList args.toList ds p := hA0
  have hsz : (DataW.weightsEach Try.prog (Try.f6.params.toList ++ Rows.primPlaysSpec.plain.varTypes Try.prog) (ds ++ gs)).all (· ≤ reachBytes) = true := hsz0
  rw [Try.params6] at hA hval hsz
  obtain ⟨v0, vs0, d0, ds0, p0, q0, hargs, rfl, rfl, h0, r0⟩ := trodAll_cons hA
  obtain ⟨v1, vs1, d1, ds1, p1, q1, rfl, rfl, rfl, h1, r1⟩ := trodAll_cons r0
  obtain ⟨v2, vs2, d2, ds2, p2, q2, rfl, rfl, rfl, h2, r2⟩ := trodAll_cons r1
  obtain ⟨v3, vs3, d3, ds3, p3, q3, rfl, rfl, rfl, h3, r3⟩ := trodAll_cons r2
  obtain ⟨v4, vs4, d4, ds4, p4, q4, rfl, rfl, rfl, h4, r4⟩ := trodAll_cons r3
  obtain ⟨v5, vs5, d5, ds5, p5, q5, rfl, rfl, rfl, h5, r5⟩ := trodAll_cons r4
  obtain ⟨rfl, rfl, rfl⟩ := trodAll_nil r5
  obtain rfl : args = #[v0, v1, v2, v3, v4, v5] := by cases args; simp_all
  obtain ⟨rfl, rfl⟩ := trodVars_none hV
  obtain ⟨a0, rfl, rfl, rfl, w0⟩ := open_int Try.underlying5 (hval 0 5 v0 rfl rfl) h0
  obtain ⟨a1, rfl, rfl, rfl, w1⟩ := open_int Try.underlying27 (hval 1 27 v1 rfl rfl) h1
  obtain ⟨a2, rfl, rfl, rfl, w2⟩ := open_int Try.underlying27 (hval 2 27 v2 rfl rfl) h2
  obtain ⟨a3, len3, cap3, rfl⟩ := okWide_slice Try.underlying24 (hval 3 24 v3 rfl rfl)
  have k3 := h3
  have lt3 : ∀ x ∈ p3, x.block < W.heap.size := by obtain ⟨m, hm⟩ := k3; exact DataW.trod_lt m _ _ _ hm
  obtain ⟨A3, c3, l3, e3, C3, le3, V3⟩ := M.open_sl (M.opens_slice Try.underlying24 (by kernel_rfl) (M.opens_int Try.underlying3)) h3
  simp [Value.cells] at e3
  obtain ⟨rfl, rfl, rfl⟩ := e3
  obtain ⟨a4, len4, cap4, rfl⟩ := okWide_slice Try.underlying37 (hval 4 37 v4 rfl rfl)
  have k4 := h4
  have lt4 : ∀ x ∈ p4, x.block < W.heap.size := by obtain ⟨m, hm⟩ := k4; exact DataW.trod_lt m _ _ _ hm
  obtain ⟨A4, c4, l4, e4, C4, le4, V4⟩ := M.open_sl (M.opens_slice Try.underlying37 (by kernel_rfl) opens42) h4
  simp [Value.cells] at e4
  obtain ⟨rfl, rfl, rfl⟩ := e4
  obtain ⟨a5, rfl, rfl, rfl, w5⟩ := open_int Try.underlying3 (hval 5 3 v5 rfl rfl) h5
  clear hA0 hval0 hsz0
  refine (M.primPlays_law a0 a1 a2 _ _ l3 _ _ l4 a5 W C3 le3 C4 le4 w0 w1 w2 ((M.sz_slice (B := 8) Try.underlying24 (by kernel_rfl) (M.sz_int (P := Try.prog) (t := 3))) H _ _ V3 (M.wt_at hsz (j := 3) rfl rfl)) ((M.sz_slice (B := 56) Try.underlying37 (by kernel_rfl) sz42) H _ _ V4 (M.wt_at hsz (j := 4) rfl rfl)) w5).mono fun e W' ⟨he, bel⟩ => ?_
  subst he
  exact ⟨_, rfl, _, _, _, [], _, [], hW', trodAll_mk1 (shut_bool Try.underlying4 _), (trodAll_cons_mk (shut_int Try.underlying5 w0) (trodAll_cons_mk (shut_int Try.underlying27 w1) (trodAll_cons_mk (shut_int Try.underlying27 w2) (trodAll_cons_mk (Below.trod laidOut (by kernel_rfl) (of_decide_eq_true (by kernel_rfl)) k3 bel lt3) (trodAll_cons_mk (Below.trod laidOut (by kernel_rfl) (of_decide_eq_true (by kernel_rfl)) k4 bel lt4) (trodAll_cons_mk (shut_int Try.underlying3 w5) trodAll_mk0)))))), rfl, bel.frame _, fun h => by cases h⟩
theorem over : Rows.primPlaysRow.holds Try.pinned (OpenSpec.ofChange Rows.primPlaysSpec) :=
  OpenClaim.holds_of_wide 6 Try.f6 rfl rfl rfl rfl rfl rfl rfl ⟨rfl, rfl, rfl, rfl, rfl⟩ rfl rfl rfl rfl rfl (by kernel_rfl) Try.func6 (by kernel_rfl)
    (of_decide_eq_true (by kernel_rfl)) (by unfold Func.isWrapper; first | (rw [if_pos (by decide +kernel)]; kernel_rfl) | (rw [if_neg (by decide +kernel)]; exact ⟨rfl, rfl⟩))
    (fun os started H enc _ => lifted os started H enc)
theorem proved : Rows.PrimPlaysSaid := over
#print axioms proved
end Go.Proofs.Ytfaipapaiobgcaa.primPlaysS
namespace Go.Proofs.Ytfaipapaiobgcaa
/-- The row, under a short name, for the claim. -/
theorem primPlays_holds : Rows.PrimPlaysSaid := primPlaysS.proved
end Go.Proofs.Ytfaipapaiobgcaa
