/- The row of MatchOrderUptoSaid: whatever the input of at most 1048576 values and letters, the law answers true and the input reads as it did. -/
import Derived.Test.YtpkjfpapjcmhdaaDoorCards
import Derived.Test.YtpkjfpapjcmhdaaDoorTie
import Derived.Test.YtpkjfpapjcmhdaaDoorGDecode
import Derived.Test.YtpkjfpapjcmhdaaDoorQMatchOrder
import Derived.Test.YtpkjfpapjcmhdaaDoorPureMatchOrder
import Derived.Test.YtpkjfpapjcmhdaaDoorMOpen
import Derived.WalkKit
import Derived.ProofKit
import Derived.OpenShut
import Derived.ShutString
import Derived.ChangeOld
import Derived.Below
import Derived.SizedLaws
import Derived.JoinedCond
import Derived.Deep.DeepHandedRow
import Derived.Lib.LaidTab
import Derived.Lib.LaidU8
import Derived.ChangeArms
namespace Go.Proofs.YtpkjfpapjcmhdaaDoor.matchOrderUp
open Go.ChangeShapes Go.WideShapes Go.ChangeAt Go.RowKit Go.Lib Go.Proofs.YtpkjfpapjcmhdaaDoor Go.Proofs.YtpkjfpapjcmhdaaDoor.G Go.Proofs.YtpkjfpapjcmhdaaDoorW.PrintWords Go.Proofs.YtpkjfpapjcmhdaaDoorW.PrintLast Go.Proofs.YtpkjfpapjcmhdaaDoorW.PrintMore
open Go.ChangeMaps (open_string shut_string)
set_option linter.unusedVariables false
set_option linter.unusedSimpArgs false
def V37p (H : Type) (a : (ByteArray × Int × ByteArray)) (d : DataW H) : Prop := ∃ y0 y1 y2 : DataW H, d = .agg [y0, y1, y2] ∧ M.VStr H a.1 y0 ∧ (M.VInt .i64) H a.2.1 y1 ∧ M.VStr H a.2.2 y2
set_option maxRecDepth 100000 in
theorem opens37p : M.Opens Tryd.prog (Kd.pair Kd.string (Kd.pair (Kd.int .i64) Kd.string)) 37 V37p := by
  intro H enc W fuel cs x h
  obtain ⟨xs, n, _, rfl, hl, hlen, hf⟩ := DataW.trod_struct Tryd.underlying37 h
  have hl : cs.length = 3 := hl.trans (by kernel_rfl)
  obtain ⟨c0, cs, rfl⟩ := List.exists_cons_of_length_eq_add_one hl
  replace hl := Nat.succ.inj hl
  obtain ⟨c1, cs, rfl⟩ := List.exists_cons_of_length_eq_add_one hl
  replace hl := Nat.succ.inj hl
  obtain ⟨c2, cs, rfl⟩ := List.exists_cons_of_length_eq_add_one hl
  replace hl := Nat.succ.inj hl
  obtain rfl := List.eq_nil_of_length_eq_zero hl
  match xs, hlen with
  | [y0, y1, y2], _ =>
    have g0 : DataW.trod enc Tryd.prog W 0 (fun _ => true) true n 9 ((List.drop 0 [c0, c1, c2]).take (Tryd.prog.cellsOf 9)) = some y0 := hf 0 _ rfl
    rw [show Tryd.prog.cellsOf 9 = 1 from by kernel_rfl] at g0
    obtain ⟨b0, K0, v0⟩ := (M.opens_str Tryd.underlying9) H enc W n _ _ g0
    have g1 : DataW.trod enc Tryd.prog W 0 (fun _ => true) true n 2 ((List.drop 1 [c0, c1, c2]).take (Tryd.prog.cellsOf 2)) = some y1 := hf 1 _ rfl
    rw [show Tryd.prog.cellsOf 2 = 1 from by kernel_rfl] at g1
    obtain ⟨b1, K1, v1⟩ := (M.opens_int Tryd.underlying2) H enc W n _ _ g1
    have g2 : DataW.trod enc Tryd.prog W 0 (fun _ => true) true n 9 ((List.drop 2 [c0, c1, c2]).take (Tryd.prog.cellsOf 9)) = some y2 := hf 2 _ rfl
    rw [show Tryd.prog.cellsOf 9 = 1 from by kernel_rfl] at g2
    obtain ⟨b2, K2, v2⟩ := (M.opens_str Tryd.underlying9) H enc W n _ _ g2
    exact ⟨⟨b0, b1, b2⟩, ⟨[c0], [c1, c2], rfl, K0, ⟨[c1], [c2], rfl, K1, K2⟩⟩, y0.1, y1.1, y2.1, rfl, v0, v1, v2⟩
theorem bulk_agg {H : Type} (l : List (DataW H)) : Rows.uptoBulk (DataW.agg l) = Rows.uptoBulkAll l + 1 := by simp [Rows.uptoBulk]
theorem own : ownKnob Tryd.prog.godebug = none := by kernel_rfl
theorem laidOut : laidOutB Tryd.prog = true := by kernel_rfl
set_option maxRecDepth 100000 in
/-- What the row's list gives. -/
theorem tables {W : World} (hL : laidMetH Tryd.prog Rows.matchOrderUptoRow.laid W) : tabs W := by
  have h4 := Lib.laidMet.reads hL (.head _)
  have h3 := Lib.laidMet.reads hL (.tail _ (.head _))
  rw [show Rows.laid_unicode_utf8_first = Lib.firstData from by kernel_rfl] at h3
  rw [show (Rows.laid_unicode_utf8_acceptRanges : DataW _) = Lib.acceptData from by kernel_rfl] at h4
  exact utf8Tabs_of_reads (ρ := Tryd.lays197_ren) { Tryd.lays197 with } ⟨by kernel_rfl, by kernel_rfl, by kernel_rfl, by kernel_rfl, by kernel_rfl, by kernel_rfl, by kernel_rfl⟩ h3 h4
/-- A world for the witness. -/
noncomputable def laidWorld (os : Os) : World :=
  let w0 := World.holding Tryd.prog os ⟨#[], #[], []⟩
  let put (h : Array Obj) (g : Nat) (cs : Array Value) : Array Obj := h.modify g fun
    | .cells _ t frozen => .cells cs t frozen
    | o => o
  let h1 := put w0.heap 0 (Lib.firstTab.map fun z => Value.int .u8 z).toArray
  let h2 := put h1 1 ((List.range 16).flatMap fun i => [Value.int .u8 (Lib.accLo i), Value.int .u8 (Lib.accHi i)]).toArray
  { w0 with heap := h2 }
theorem laid_met (os : Os) : laidMet Tryd.prog Rows.matchOrderUptoRow.laid ((laidWorld os).forCall (fun _ _ => 0) ⟨#[], #[.agg #[.string ByteArray.empty, .int .i64 0, .string ByteArray.empty], .agg #[.string ByteArray.empty, .int .i64 0, .string ByteArray.empty], .agg #[.string ByteArray.empty, .int .i64 0, .string ByteArray.empty]], []⟩).memory :=
  laidMet_of_run' 8 (by kernel_rfl) (by kernel_rfl)
theorem reads (os : Os) {H : Type} (enc : TypeId × Value → H) : ∃ places, DataW.whole enc Tryd.prog ((laidWorld os).forCall (fun _ _ => 0) ⟨#[], #[.agg #[.string ByteArray.empty, .int .i64 0, .string ByteArray.empty], .agg #[.string ByteArray.empty, .int .i64 0, .string ByteArray.empty], .agg #[.string ByteArray.empty, .int .i64 0, .string ByteArray.empty]], []⟩).memory Tryd.f10.params.toList Rows.matchOrderSpec.vars false (#[.agg #[.string ByteArray.empty, .int .i64 0, .string ByteArray.empty], .agg #[.string ByteArray.empty, .int .i64 0, .string ByteArray.empty], .agg #[.string ByteArray.empty, .int .i64 0, .string ByteArray.empty]] : Array Value).toList 8 = some ([.agg [.lit (.string []), .lit (.int .i64 0), .lit (.string [])], .agg [.lit (.string []), .lit (.int .i64 0), .lit (.string [])], .agg [.lit (.string []), .lit (.int .i64 0), .lit (.string [])]], [], places) :=
  ⟨[], by kernel_rfl⟩
set_option maxRecDepth 100000 in
theorem lifted (os : Os) (started : os.Started) (H : Type) (enc : TypeId × Value → H) (F : Stop.Interp) :
    ReturnsInHanded {} Tryd.checked os 10 .any ((Rows.OpenSpec.upto Rows.matchOrderSpec).preRow enc Tryd.prog Tryd.f10 Rows.matchOrderUptoRow.domain false Rows.matchOrderUptoRow.laid) (((Rows.OpenSpec.upto Rows.matchOrderSpec).at F).post enc Tryd.prog Tryd.f10 false true false false) := by
  obtain ⟨places, hx⟩ := reads os enc
  refine returnsInHanded_of_row (C := Tryd.checked) (s := Rows.OpenSpec.upto Rows.matchOrderSpec) own started (by kernel_rfl) Tryd.func10
    (witness_row_at (enc := enc) (C := Tryd.checked) false (laidWorld os) #[.agg #[.string ByteArray.empty, .int .i64 0, .string ByteArray.empty], .agg #[.string ByteArray.empty, .int .i64 0, .string ByteArray.empty], .agg #[.string ByteArray.empty, .int .i64 0, .string ByteArray.empty]] rfl (by kernel_rfl) (by kernel_rfl) (by kernel_rfl)
      (OpenSpec.preRow_of_cond 8 hx (by kernel_rfl) (fun k hk => by cases hk; kernel_rfl) (by kernel_rfl) (laid_met os))) ?_
  intro W base args ds gs before hval0 hW hcnd hcond_ hc2_ hL hz1_ hz2_
  have hT := tables hL
  have hk := hcond_ _ rfl
  have hval : ∀ (j : Nat) t v, Tryd.f10.params[j]? = some t → args[j]? = some v → Value.okWide Tryd.prog W .any base t v := hval0
  have hW' := hW
  obtain ⟨p, q, hA0, hV, rfl, hfz, hnd⟩ := hW
  have hA : DataW.TrodAll enc Tryd.prog W 0 (fun _ => true) true Tryd.f10.params.toList args.toList ds p := hA0
  rw [Tryd.params10] at hA hval
  obtain ⟨v0, vs0, d0, ds0, p0, q0, hargs, rfl, rfl, h0, r0⟩ := trodAll_cons hA
  obtain ⟨v1, vs1, d1, ds1, p1, q1, rfl, rfl, rfl, h1, r1⟩ := trodAll_cons r0
  obtain ⟨v2, vs2, d2, ds2, p2, q2, rfl, rfl, rfl, h2, r2⟩ := trodAll_cons r1
  obtain ⟨rfl, rfl, rfl⟩ := trodAll_nil r2
  obtain rfl : args = #[v0, v1, v2] := by cases args; simp_all
  obtain ⟨rfl, rfl⟩ := trodVars_none hV
  obtain ⟨g0, rfl, z0⟩ := okWide_struct Tryd.underlying37 (hval 0 37 v0 rfl rfl)
  have k0 := h0
  have lt0 : ∀ x ∈ p0, x.block < W.heap.size := by obtain ⟨m, hm⟩ := k0; exact DataW.trod_lt m _ _ _ hm
  obtain ⟨fuel0, hf0⟩ := h0
  obtain ⟨⟨b0_0, b0_1, b0_2⟩, K0, V0⟩ := opens37p H enc W fuel0 _ _ hf0
  obtain ⟨_, _, e0, rfl, ⟨_, _, rfl, rfl, rfl⟩⟩ := K0
  obtain rfl : g0 = #[.string b0_0, .int .i64 b0_1, .string b0_2] := by
    cases g0 with
    | mk gl => simp only [Value.cells] at e0; simpa using e0
  obtain ⟨Y0_0, Y0_1, Y0_2, eD0, V0_0, V0_1, V0_2⟩ := V0
  have eD0' : d0 = DataW.agg [Y0_0, Y0_1, Y0_2] := eD0
  have B0_0 := M.bulk_text H b0_0 _ V0_0
  (try dsimp only at B0_0)
  have B0_2 := M.bulk_text H b0_2 _ V0_2
  (try dsimp only at B0_2)
  obtain ⟨g1, rfl, z1⟩ := okWide_struct Tryd.underlying37 (hval 1 37 v1 rfl rfl)
  have k1 := h1
  have lt1 : ∀ x ∈ p1, x.block < W.heap.size := by obtain ⟨m, hm⟩ := k1; exact DataW.trod_lt m _ _ _ hm
  obtain ⟨fuel1, hf1⟩ := h1
  obtain ⟨⟨b1_0, b1_1, b1_2⟩, K1, V1⟩ := opens37p H enc W fuel1 _ _ hf1
  obtain ⟨_, _, e1, rfl, ⟨_, _, rfl, rfl, rfl⟩⟩ := K1
  obtain rfl : g1 = #[.string b1_0, .int .i64 b1_1, .string b1_2] := by
    cases g1 with
    | mk gl => simp only [Value.cells] at e1; simpa using e1
  obtain ⟨Y1_0, Y1_1, Y1_2, eD1, V1_0, V1_1, V1_2⟩ := V1
  have eD1' : d1 = DataW.agg [Y1_0, Y1_1, Y1_2] := eD1
  have B1_0 := M.bulk_text H b1_0 _ V1_0
  (try dsimp only at B1_0)
  have B1_2 := M.bulk_text H b1_2 _ V1_2
  (try dsimp only at B1_2)
  obtain ⟨g2, rfl, z2⟩ := okWide_struct Tryd.underlying37 (hval 2 37 v2 rfl rfl)
  have k2 := h2
  have lt2 : ∀ x ∈ p2, x.block < W.heap.size := by obtain ⟨m, hm⟩ := k2; exact DataW.trod_lt m _ _ _ hm
  obtain ⟨fuel2, hf2⟩ := h2
  obtain ⟨⟨b2_0, b2_1, b2_2⟩, K2, V2⟩ := opens37p H enc W fuel2 _ _ hf2
  obtain ⟨_, _, e2, rfl, ⟨_, _, rfl, rfl, rfl⟩⟩ := K2
  obtain rfl : g2 = #[.string b2_0, .int .i64 b2_1, .string b2_2] := by
    cases g2 with
    | mk gl => simp only [Value.cells] at e2; simpa using e2
  obtain ⟨Y2_0, Y2_1, Y2_2, eD2, V2_0, V2_1, V2_2⟩ := V2
  have eD2' : d2 = DataW.agg [Y2_0, Y2_1, Y2_2] := eD2
  have B2_0 := M.bulk_text H b2_0 _ V2_0
  (try dsimp only at B2_0)
  have B2_2 := M.bulk_text H b2_2 _ V2_2
  (try dsimp only at B2_2)
  have hB : Rows.uptoBulkAll _ ≤ 1048576 := of_decide_eq_true hk
  simp only [List.append_nil, List.cons_append, List.nil_append, eD0', eD1', eD2', bulk_agg, Rows.uptoBulkAll] at hB
  clear hA0 hval0 hk
  obtain ⟨k, hf⟩ := Pure.MatchOrder b0_0 b0_1 b0_2 b1_0 b1_1 b1_2 b2_0 b2_1 b2_2 (by omega) V0_1.2 (by omega) (by omega) V1_1.2 (by omega) (by omega) V2_1.2 (by omega)
  refine (PMatchOrder.fascinelaw07_MatchOrder.calls k b0_0 b0_1 b0_2 b1_0 b1_1 b1_2 b2_0 b2_1 b2_2 true W hT  hf rfl).mono fun e W' ⟨he, bel⟩ => ?_
  subst he
  exact ⟨_, rfl, _, _, _, [], _, [], hW', trodAll_mk1 (shut_bool Tryd.underlying4 _), (trodAll_cons_mk (Below.trod laidOut (by kernel_rfl) (of_decide_eq_true (by kernel_rfl)) k0 bel lt0) (trodAll_cons_mk (Below.trod laidOut (by kernel_rfl) (of_decide_eq_true (by kernel_rfl)) k1 bel lt1) (trodAll_cons_mk (Below.trod laidOut (by kernel_rfl) (of_decide_eq_true (by kernel_rfl)) k2 bel lt2) trodAll_mk0))), rfl, bel.frame _, fun h => by cases h⟩
theorem over : Rows.matchOrderUptoRow.holds Tryd.pinned (Rows.OpenSpec.upto Rows.matchOrderSpec) :=
  OpenClaim.holds_of_cond 10 Tryd.f10 rfl rfl rfl rfl rfl rfl rfl ⟨rfl, rfl, rfl, rfl, rfl⟩ rfl rfl rfl rfl rfl (by kernel_rfl) Tryd.func10 (by kernel_rfl)
    (of_decide_eq_true (by kernel_rfl)) (by unfold Func.isWrapper; first | (rw [if_pos (by decide +kernel)]; kernel_rfl) | (rw [if_neg (by decide +kernel)]; exact ⟨rfl, rfl⟩))
    (fun os started H enc _ F => by rw [OpenClaim.pre_eq_preRow]; exact lifted os started H enc F)
theorem plain (f : FuncId) (fn : Func) (hf : Tryd.pinned.checked.prog.funcNamed "fascine/fascinelaw07.MatchOrder" = some f) (hfn : Tryd.pinned.checked.prog.funcs[f]? = some fn) :
    false = Tryd.pinned.checked.prog.looks [] ∧ ∀ (j : Nat) t, fn.params[j]? = some t → Tryd.pinned.checked.prog.wantsStandIn t = false := by
  obtain rfl : f = 10 := Option.some.inj ((show Tryd.prog.funcNamed "fascine/fascinelaw07.MatchOrder" = some 10 by kernel_rfl).symm.trans hf) |>.symm
  obtain rfl : fn = Tryd.f10 := (Option.some.inj (Tryd.func10.symm.trans hfn)).symm
  refine ⟨by kernel_rfl, fun j t ht => ?_⟩
  rw [Tryd.params10] at ht
  have hm := Array.mem_of_getElem? ht
  simp at hm
  subst hm
  all_goals (show Tryd.prog.wantsStandIn _ = false; kernel_rfl)
theorem proved : Rows.MatchOrderUptoCardSaid :=
  Claim7.holds_tied_plain_at .later [] _ _ _ _ over (fun _ h => by cases h) (by kernel_rfl) (fun _ h => by cases h) matchOrderUpto_row_tie rfl ⟨rfl, rfl⟩ (by kernel_rfl) rfl plain (by kernel_rfl)
#print axioms proved
end Go.Proofs.YtpkjfpapjcmhdaaDoor.matchOrderUp
namespace Go.Proofs.YtpkjfpapjcmhdaaDoor
/-- The row, under a short name, for the claim. -/
theorem matchOrderUpto_holds : Rows.MatchOrderUptoCardSaid := matchOrderUp.proved
end Go.Proofs.YtpkjfpapjcmhdaaDoor
