/- The first copy's knowledge: the calls that look. -/
import Derived.Test.YtfaipapaiobgcaaPrimA
namespace Go.Proofs.Ytfaipapaiobgcaa.M
open Go.RowKit Go.Maps Go.ChangeMaps Go.Proofs.YtfaipapaiobgcaaW.PrintWords Go.Proofs.YtfaipapaiobgcaaW.PrintLast Go.Proofs.YtfaipapaiobgcaaW.PrintMore
set_option linter.unusedVariables false
set_option linter.unusedSimpArgs false
abbrev pt (b : Nat) : Value := .pointer (some ⟨b, 0, none⟩)
theorem term_any {w : World} {S : Nat → Prop} {B M cl : Nat} {me tm rv : Int} {L : List En} (h : PrimAt w S B M cl me tm rv L) :
    Calls Try.prog 23 #[pt B] w fun e w' => e = .returned (.int .u64 tm) ∧ w = w' := by
  have c1 : w.cell? ⟨B, 1, none⟩ = some (.int .u64 tm) := blk_cell h.hd 1
  go_enter Try.func23, Try.ntmps23
  go_wp2
  go_ret
  exact ⟨rfl, rfl⟩
theorem term_nil (w : World) : Calls Try.prog 23 #[.pointer none] w fun e w' => e = .returned (.int .u64 0) ∧ w = w' := by
  go_enter Try.func23, Try.ntmps23
  go_wp2
  go_ret
  exact ⟨rfl, rfl⟩
def lackR (L : List En) (k : Int) : Value := match find L k with
  | none => .tuple #[.int .i64 0, .bool false]
  | some x => .tuple #[.int .i64 x.p.h, .bool x.p.a]
theorem MapAt.drewN {w : World} {M : Nat} {L : List En} {cl : Nat} (h : MapAt w M L cl) (n : Nat) : MapAt (w.drewN n) M L cl := ⟨h.blk, h.kd, h.kw, h.bd, h.bl⟩
theorem lookN {w : World} {M : Nat} {L : List En} {cl : Nat} (h : MapAt w M L cl) {k : Int} (hk : (Lit.int .i64 k).wf = true) (n : Nat) :
    (Instr.lookup 57 (.map (some M)) (.int .i64 k) false).run Try.prog (w.drewN n) = .ok (ptr (find L k)) (w.drewN n) := look (h.drewN n) hk
theorem lacks_any {w : World} {S : Nat → Prop} {B M cl : Nat} {me tm rv : Int} {L : List En} (h : PrimAt w S B M cl me tm rv L) {k : Int} (hk : (Lit.int .i64 k).wf = true) :
    Calls Try.prog 24 #[pt B, .int .i64 k] w fun e w' => e = .returned (lackR L k) ∧ ∃ n, w' = w.drewN n := by
  have c3 : w.cell? ⟨B, 3, none⟩ = some (.map (some M)) := blk_cell h.hd 3
  have hl := look h.mp hk
  unfold lackR
  cases hf : find L k with
  | none =>
    rw [hf] at hl
    simp only [ptr] at hl
    clear hf
    go_enter Try.func24, Try.ntmps24
    go_wp2
    go_ret2
    exact ⟨rfl, 0, rfl⟩
  | some x =>
    obtain ⟨m, hxk⟩ := find_some hf
    have hl2 := lookN h.mp hk
    rw [hf] at hl
    simp only [hf, ptr] at hl hl2
    clear hf
    have p3 : w.cell? ⟨x.b, 3, none⟩ = some (.bool x.p.a) := blk_cell (h.pe x m) 3
    have p4 : w.cell? ⟨x.b, 4, none⟩ = some (.int .i64 x.p.h) := blk_cell (h.pe x m) 4
    clear hxk
    go_enter Try.func24, Try.ntmps24
    go_wp2
    go_quiet (fail)
    go_wp2
    go_ret2
    exact ⟨rfl, _, rfl⟩
theorem lacks_nil (k : Int) (w : World) : Calls Try.prog 24 #[.pointer none, .int .i64 k] w fun e w' => e = .returned (.tuple #[.int .i64 0, .bool false]) ∧ w = w' := by
  go_enter Try.func24, Try.ntmps24
  go_wp2
  go_ret2
  exact ⟨rfl, rfl⟩
theorem lost_nil (k : Int) (w : World) : Calls Try.prog 25 #[.pointer none, .int .i64 k] w fun e w' => e = .returned (.int .i64 8) ∧ w = w' := by
  go_enter Try.func25, Try.ntmps25
  go_wp2
  go_ret
  exact ⟨rfl, rfl⟩
theorem has_nil (k n : Int) (w : World) : Calls Try.prog 11 #[.pointer none, .int .i64 k, .int .i64 n] w fun e w' => e = .returned (.int .i64 8) ∧ w = w' := by
  go_enter Try.func11, Try.ntmps11
  go_wp2
  go_ret
  exact ⟨rfl, rfl⟩
theorem join_nil (k : Int) (w : World) : Calls Try.prog 12 #[.pointer none, .int .i64 k] w fun e w' => e = .returned (.int .i64 8) ∧ w = w' := by
  go_enter Try.func12, Try.ntmps12
  go_wp2
  go_ret
  exact ⟨rfl, rfl⟩
theorem sure_nil (k : Int) (w : World) : Calls Try.prog 10 #[.pointer none, .int .i64 k] w fun e w' => e = .returned (.int .i64 0) ∧ w = w' := by
  go_enter Try.func10, Try.ntmps10
  go_wp2
  go_ret
  exact ⟨rfl, rfl⟩
theorem peers_nil (w : World) : Calls Try.prog 14 #[.pointer none] w fun e w' => e = .returned (.slice none 0 0) ∧ w = w' := by
  go_enter Try.func14, Try.ntmps14
  go_wp2
  go_ret
  exact ⟨rfl, rfl⟩
theorem needs_nil (w : World) : Calls Try.prog 16 #[.pointer none] w fun e w' => e = .returned (.slice none 0 0) ∧ w = w' := by
  go_enter Try.func16, Try.ntmps16
  go_wp2_with (first | (go_at_call 14; refine (peers_nil _).mono ?_; rintro e w' ⟨rfl, rfl⟩))
  refine wp_loop_rounds 1 ?_
  rw [rounds_succ]
  go_wp2
  go_ret
  exact ⟨rfl, rfl⟩
theorem offer_nil (k : Int) (w : World) : Calls Try.prog 15 #[.pointer none, .int .i64 k] w fun e w' => e = .returned (.slice none 0 0) ∧ w = w' := by
  go_enter Try.func15, Try.ntmps15
  go_wp2_with (first | (go_at_call 14; refine (peers_nil _).mono ?_; rintro e w' ⟨rfl, rfl⟩))
  refine wp_loop_rounds 1 ?_
  rw [rounds_succ]
  go_wp2
  go_ret
  exact ⟨rfl, rfl⟩
theorem table_nil (rv : Int) (a : Option Addr) (n c : Nat) (w : World) : Calls Try.prog 13 #[.pointer none, .int .u64 rv, .slice a n c] w fun e w' => e = .returned (.tuple #[]) ∧ w = w' := by
  go_enter Try.func13, Try.ntmps13
  go_wp2
  refine bodyPost_ret (results_none rfl _ _ _) rfl ?_
  exact ⟨rfl, rfl⟩
end Go.Proofs.Ytfaipapaiobgcaa.M
