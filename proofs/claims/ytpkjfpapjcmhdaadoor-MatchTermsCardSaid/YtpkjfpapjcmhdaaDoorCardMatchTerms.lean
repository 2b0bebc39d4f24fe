/- The row of MatchTermsSaid: whatever the input, the law answers true and the input reads as it did. -/
import Derived.Test.YtpkjfpapjcmhdaaDoorCards
import Derived.Test.YtpkjfpapjcmhdaaDoorTie
import Derived.Test.YtpkjfpapjcmhdaaDoorGDecode
import Derived.Test.YtpkjfpapjcmhdaaDoorQMatchTerms
import Derived.Test.YtpkjfpapjcmhdaaDoorPureMatchTerms
import Derived.Test.YtpkjfpapjcmhdaaDoorMOpen
import Derived.WalkKit
import Derived.ProofKit
import Derived.OpenShut
import Derived.ShutString
import Derived.ChangeOld
import Derived.Below
import Derived.SizedLaws
import Derived.JoinedCond
import Derived.Deep.DeepHandedRow
import Derived.Lib.LaidTab
import Derived.Lib.LaidU8
import Derived.ChangeArms
namespace Go.Proofs.YtpkjfpapjcmhdaaDoor.matchTermsUp
open Go.ChangeShapes Go.WideShapes Go.ChangeAt Go.RowKit Go.Lib Go.Proofs.YtpkjfpapjcmhdaaDoor Go.Proofs.YtpkjfpapjcmhdaaDoor.G Go.Proofs.YtpkjfpapjcmhdaaDoorW.PrintWords Go.Proofs.YtpkjfpapjcmhdaaDoorW.PrintLast Go.Proofs.YtpkjfpapjcmhdaaDoorW.PrintMore
open Go.ChangeMaps (open_string shut_string)
set_option linter.unusedVariables false
set_option linter.unusedSimpArgs false
def V37p (H : Type) (a : (ByteArray × Int × ByteArray)) (d : DataW H) : Prop := ∃ y0 y1 y2 : DataW H, d = .agg [y0, y1, y2] ∧ M.VStr H a.1 y0 ∧ (M.VInt .i64) H a.2.1 y1 ∧ M.VStr H a.2.2 y2
set_option maxRecDepth 100000 in
theorem opens37p : M.Opens Tryd.prog (Kd.pair Kd.string (Kd.pair (Kd.int .i64) Kd.string)) 37 V37p := by
  intro H enc W fuel cs x h
  obtain ⟨xs, n, _, rfl, hl, hlen, hf⟩ := DataW.trod_struct Tryd.underlying37 h
  have hl : cs.length = 3 := hl.trans (by kernel_rfl)
  obtain ⟨c0, cs, rfl⟩ := List.exists_cons_of_length_eq_add_one hl
  replace hl := Nat.succ.inj hl
  obtain ⟨c1, cs, rfl⟩ := List.exists_cons_of_length_eq_add_one hl
  replace hl := Nat.succ.inj hl
  obtain ⟨c2, cs, rfl⟩ := List.exists_cons_of_length_eq_add_one hl
  replace hl := Nat.succ.inj hl
  obtain rfl := List.eq_nil_of_length_eq_zero hl
  match xs, hlen with
  | [y0, y1, y2], _ =>
    have g0 : DataW.trod enc Tryd.prog W 0 (fun _ => true) true n 9 ((List.drop 0 [c0, c1, c2]).take (Tryd.prog.cellsOf 9)) = some y0 := hf 0 _ rfl
    rw [show Tryd.prog.cellsOf 9 = 1 from by kernel_rfl] at g0
    obtain ⟨b0, K0, v0⟩ := (M.opens_str Tryd.underlying9) H enc W n _ _ g0
    have g1 : DataW.trod enc Tryd.prog W 0 (fun _ => true) true n 2 ((List.drop 1 [c0, c1, c2]).take (Tryd.prog.cellsOf 2)) = some y1 := hf 1 _ rfl
    rw [show Tryd.prog.cellsOf 2 = 1 from by kernel_rfl] at g1
    obtain ⟨b1, K1, v1⟩ := (M.opens_int Tryd.underlying2) H enc W n _ _ g1
    have g2 : DataW.trod enc Tryd.prog W 0 (fun _ => true) true n 9 ((List.drop 2 [c0, c1, c2]).take (Tryd.prog.cellsOf 9)) = some y2 := hf 2 _ rfl
    rw [show Tryd.prog.cellsOf 9 = 1 from by kernel_rfl] at g2
    obtain ⟨b2, K2, v2⟩ := (M.opens_str Tryd.underlying9) H enc W n _ _ g2
    exact ⟨⟨b0, b1, b2⟩, ⟨[c0], [c1, c2], rfl, K0, ⟨[c1], [c2], rfl, K1, K2⟩⟩, y0.1, y1.1, y2.1, rfl, v0, v1, v2⟩
theorem own : ownKnob Tryd.prog.godebug = none := by kernel_rfl
theorem laidOut : laidOutB Tryd.prog = true := by kernel_rfl
set_option maxRecDepth 100000 in
/-- What the row's list gives. -/
theorem tables {W : World} (hL : laidMetH Tryd.prog Rows.matchTermsRow.laid W) : tabs W := by
  have h4 := Lib.laidMet.reads hL (.head _)
  have h3 := Lib.laidMet.reads hL (.tail _ (.head _))
  rw [show Rows.laid_unicode_utf8_first = Lib.firstData from by kernel_rfl] at h3
  rw [show (Rows.laid_unicode_utf8_acceptRanges : DataW _) = Lib.acceptData from by kernel_rfl] at h4
  exact utf8Tabs_of_reads (ρ := Tryd.lays197_ren) { Tryd.lays197 with } ⟨by kernel_rfl, by kernel_rfl, by kernel_rfl, by kernel_rfl, by kernel_rfl, by kernel_rfl, by kernel_rfl⟩ h3 h4
/-- A world for the witness. -/
noncomputable def laidWorld (os : Os) : World :=
  let w0 := World.holding Tryd.prog os ⟨#[], #[], []⟩
  let put (h : Array Obj) (g : Nat) (cs : Array Value) : Array Obj := h.modify g fun
    | .cells _ t frozen => .cells cs t frozen
    | o => o
  let h1 := put w0.heap 0 (Lib.firstTab.map fun z => Value.int .u8 z).toArray
  let h2 := put h1 1 ((List.range 16).flatMap fun i => [Value.int .u8 (Lib.accLo i), Value.int .u8 (Lib.accHi i)]).toArray
  { w0 with heap := h2 }
theorem laid_met (os : Os) : laidMet Tryd.prog Rows.matchTermsRow.laid ((laidWorld os).forCall (fun _ _ => 0) ⟨#[], #[.agg #[.string ByteArray.empty, .int .i64 0, .string ByteArray.empty], .string ByteArray.empty], []⟩).memory :=
  laidMet_of_run' 8 (by kernel_rfl) (by kernel_rfl)
theorem reads (os : Os) {H : Type} (enc : TypeId × Value → H) : ∃ places, DataW.whole enc Tryd.prog ((laidWorld os).forCall (fun _ _ => 0) ⟨#[], #[.agg #[.string ByteArray.empty, .int .i64 0, .string ByteArray.empty], .string ByteArray.empty], []⟩).memory Tryd.f8.params.toList Rows.matchTermsSpec.vars false (#[.agg #[.string ByteArray.empty, .int .i64 0, .string ByteArray.empty], .string ByteArray.empty] : Array Value).toList 8 = some ([.agg [.lit (.string []), .lit (.int .i64 0), .lit (.string [])], .lit (.string [])], [], places) :=
  ⟨[], by kernel_rfl⟩
set_option maxRecDepth 100000 in
theorem lifted (os : Os) (started : os.Started) (H : Type) (enc : TypeId × Value → H) (F : Stop.Interp) :
    ReturnsInHanded {} Tryd.checked os 8 .any ((OpenSpec.ofChange Rows.matchTermsSpec).preRow enc Tryd.prog Tryd.f8 Rows.matchTermsRow.domain false Rows.matchTermsRow.laid) (((OpenSpec.ofChange Rows.matchTermsSpec).at F).post enc Tryd.prog Tryd.f8 false true false false) := by
  obtain ⟨places, hx⟩ := reads os enc
  refine returnsInHanded_of_row (C := Tryd.checked) (s := OpenSpec.ofChange Rows.matchTermsSpec) own started (by kernel_rfl) Tryd.func8
    (witness_row_at (enc := enc) (C := Tryd.checked) false (laidWorld os) #[.agg #[.string ByteArray.empty, .int .i64 0, .string ByteArray.empty], .string ByteArray.empty] rfl (by kernel_rfl) (by kernel_rfl) (by kernel_rfl)
      (OpenSpec.preRow_of_cond 8 hx (by kernel_rfl) (fun k hk => by cases hk) (by kernel_rfl) (laid_met os))) ?_
  intro W base args ds gs before hval0 hW hcnd hcond_ hc2_ hL hz1_ hz2_
  have hT := tables hL
  have hval : ∀ (j : Nat) t v, Tryd.f8.params[j]? = some t → args[j]? = some v → Value.okWide Tryd.prog W .any base t v := hval0
  have hW' := hW
  obtain ⟨p, q, hA0, hV, rfl, hfz, hnd⟩ := hW
  have hA : DataW.TrodAll enc Tryd.prog W 0 (fun _ => true) true Tryd.f8.params.toList args.toList ds p := hA0
  rw [Tryd.params8] at hA hval
  obtain ⟨v0, vs0, d0, ds0, p0, q0, hargs, rfl, rfl, h0, r0⟩ := trodAll_cons hA
  obtain ⟨v1, vs1, d1, ds1, p1, q1, rfl, rfl, rfl, h1, r1⟩ := trodAll_cons r0
  obtain ⟨rfl, rfl, rfl⟩ := trodAll_nil r1
  obtain rfl : args = #[v0, v1] := by cases args; simp_all
  obtain ⟨rfl, rfl⟩ := trodVars_none hV
  obtain ⟨g0, rfl, z0⟩ := okWide_struct Tryd.underlying37 (hval 0 37 v0 rfl rfl)
  have k0 := h0
  have lt0 : ∀ x ∈ p0, x.block < W.heap.size := by obtain ⟨m, hm⟩ := k0; exact DataW.trod_lt m _ _ _ hm
  obtain ⟨fuel0, hf0⟩ := h0
  obtain ⟨⟨b0_0, b0_1, b0_2⟩, K0, V0⟩ := opens37p H enc W fuel0 _ _ hf0
  obtain ⟨_, _, e0, rfl, ⟨_, _, rfl, rfl, rfl⟩⟩ := K0
  obtain rfl : g0 = #[.string b0_0, .int .i64 b0_1, .string b0_2] := by
    cases g0 with
    | mk gl => simp only [Value.cells] at e0; simpa using e0
  obtain ⟨Y0_0, Y0_1, Y0_2, eD0, V0_0, V0_1, V0_2⟩ := V0
  have eD0' : d0 = DataW.agg [Y0_0, Y0_1, Y0_2] := eD0
  obtain ⟨a1, rfl, rfl, rfl, y1⟩ := open_string Tryd.underlying9 (hval 1 9 v1 rfl rfl) h1
  clear hA0 hval0
  obtain ⟨k, hf⟩ := Pure.MatchTerms b0_0 b0_1 b0_2 a1 V0_1.2
  refine (PMatchTerms.fascinelaw07_MatchTerms.calls k b0_0 b0_1 b0_2 a1 true W hT  hf rfl).mono fun e W' ⟨he, bel⟩ => ?_
  subst he
  exact ⟨_, rfl, _, _, _, [], _, [], hW', trodAll_mk1 (shut_bool Tryd.underlying4 _), (trodAll_cons_mk (Below.trod laidOut (by kernel_rfl) (of_decide_eq_true (by kernel_rfl)) k0 bel lt0) (trodAll_cons_mk (shut_string Tryd.underlying9 y1) trodAll_mk0)), rfl, bel.frame _, fun h => by cases h⟩
theorem over : Rows.matchTermsRow.holds Tryd.pinned (OpenSpec.ofChange Rows.matchTermsSpec) :=
  OpenClaim.holds_of_cond 8 Tryd.f8 rfl rfl rfl rfl rfl rfl rfl ⟨rfl, rfl, rfl, rfl, rfl⟩ rfl rfl rfl rfl rfl (by kernel_rfl) Tryd.func8 (by kernel_rfl)
    (of_decide_eq_true (by kernel_rfl)) (by unfold Func.isWrapper; first | (rw [if_pos (by decide +kernel)]; kernel_rfl) | (rw [if_neg (by decide +kernel)]; exact ⟨rfl, rfl⟩))
    (fun os started H enc _ F => by rw [OpenClaim.pre_eq_preRow]; exact lifted os started H enc F)
theorem plain (f : FuncId) (fn : Func) (hf : Tryd.pinned.checked.prog.funcNamed "fascine/fascinelaw07.MatchTerms" = some f) (hfn : Tryd.pinned.checked.prog.funcs[f]? = some fn) :
    false = Tryd.pinned.checked.prog.looks [] ∧ ∀ (j : Nat) t, fn.params[j]? = some t → Tryd.pinned.checked.prog.wantsStandIn t = false := by
  obtain rfl : f = 8 := Option.some.inj ((show Tryd.prog.funcNamed "fascine/fascinelaw07.MatchTerms" = some 8 by kernel_rfl).symm.trans hf) |>.symm
  obtain rfl : fn = Tryd.f8 := (Option.some.inj (Tryd.func8.symm.trans hfn)).symm
  refine ⟨by kernel_rfl, fun j t ht => ?_⟩
  rw [Tryd.params8] at ht
  have hm := Array.mem_of_getElem? ht
  simp at hm
  rcases hm with rfl | rfl
  all_goals (show Tryd.prog.wantsStandIn _ = false; kernel_rfl)
theorem proved : Rows.MatchTermsCardSaid :=
  Claim7.holds_tied_plain_at .later [] _ _ _ _ over (fun _ h => by cases h) (by kernel_rfl) (fun _ h => by cases h) matchTerms_row_tie rfl ⟨rfl, rfl⟩ (by kernel_rfl) rfl plain (by kernel_rfl)
#print axioms proved
end Go.Proofs.YtpkjfpapjcmhdaaDoor.matchTermsUp
namespace Go.Proofs.YtpkjfpapjcmhdaaDoor
/-- The row, under a short name, for the claim. -/
theorem matchTerms_holds : Rows.MatchTermsCardSaid := matchTermsUp.proved
end Go.Proofs.YtpkjfpapjcmhdaaDoor
