/- The first copy's knowledge within a law: its blocks are new since the law began, and none of E. -/
import Derived.Test.YtfaipapaiobgcaaPrimH
namespace Go.Proofs.Ytfaipapaiobgcaa.M
open Go.RowKit Go.Maps Go.ChangeMaps Go.Proofs.YtfaipapaiobgcaaW.PrintWords Go.Proofs.YtfaipapaiobgcaaW.PrintLast Go.Proofs.YtfaipapaiobgcaaW.PrintMore Go.Proofs.Ytfaipapaiobgcaa.PPrimPlays
set_option linter.unusedVariables false
set_option linter.unusedSimpArgs false
def PS (w0 : World) (E : Nat → Prop) (w : World) (B : Nat) (me tm rv : Int) (f : PF) : Prop :=
  ∃ S, PA w S B me tm rv f ∧ (∀ k, w.heap.size ≤ k → S k) ∧ (∀ k, S k → w0.heap.size ≤ k ∧ ¬ E k) ∧ Below w0.heap.size w0 w
def Same (E : Nat → Prop) (w w' : World) : Prop := w.heap.size ≤ w'.heap.size ∧ ∀ k, E k → k < w.heap.size → w'.heap[k]? = w.heap[k]?
theorem Same.of_kp {S E : Nat → Prop} {w w' : World} (h : Kp S w w') (hs : ∀ k, S k → ¬ E k) : Same E w w' := ⟨h.size, fun k he hk => h.block k hk (fun hS => hs k hS he)⟩
theorem Same.of_below {E : Nat → Prop} {w w' : World} (h : Below w.heap.size w w') : Same E w w' := ⟨h.size, fun k _ hk => h.block k hk⟩
variable {w0 w : World} {E : Nat → Prop} {B : Nat} {me tm rv : Int} {f : PF}
theorem PS.alloc (h : PS w0 E w B me tm rv f) (o : Obj) : PS w0 E (w.alloc o) B me tm rv f := by
  obtain ⟨S, a, b, c, d⟩ := h
  exact ⟨S, a.alloc o, fun k hk => b k (by simp at hk; omega), c, d.alloc d.size o⟩
theorem PS.drewN (h : PS w0 E w B me tm rv f) (n : Nat) : PS w0 E (w.drewN n) B me tm rv f := by
  obtain ⟨S, a, b, c, d⟩ := h
  exact ⟨S, a.drewN n, b, c, ⟨d.os, d.tape, d.output, d.size, d.block⟩⟩
theorem PS.below (h : PS w0 E w B me tm rv f) {w' : World} (hb : Below w.heap.size w w') : PS w0 E w' B me tm rv f := by
  obtain ⟨S, a, b, c, d⟩ := h
  exact ⟨S, a.below hb, fun k hk => b k (Nat.le_trans hb.size hk), c, d.trans (hb.mono d.size)⟩
/-- a row that is made by now is none of its blocks -/
theorem PA.lt {S : Nat → Prop} (h : PA w S B me tm rv f) : PA w (fun k => S k ∧ k < w.heap.size) B me tm rv f := by
  obtain ⟨M, cl, L, h, e⟩ := h
  exact ⟨M, cl, L, ⟨h.hd, h.mp, h.pe, h.nd, ⟨h.sB, blk_lt h.hd⟩, ⟨h.sM, blk_lt h.mp.blk⟩, fun x hx => ⟨h.sb x hx, blk_lt (h.pe x hx)⟩, h.tw, h.hw⟩, e⟩
theorem PA.mono {S S' : Nat → Prop} (h : PA w S B me tm rv f) (hs : ∀ k, S k → S' k) : PA w S' B me tm rv f := by
  obtain ⟨M, cl, L, h, e⟩ := h
  exact ⟨M, cl, L, ⟨h.hd, h.mp, h.pe, h.nd, hs _ h.sB, hs _ h.sM, fun x hx => hs _ (h.sb x hx), h.tw, h.hw⟩, e⟩
theorem PA.without {S : Nat → Prop} (h : PA w S B me tm rv f) (o : Obj) : PA (w.alloc o) (fun k => S k ∧ k ≠ w.heap.size) B me tm rv f :=
  (h.lt.mono fun k hk => ⟨hk.1, by omega⟩).alloc o
theorem PS.kp {S : Nat → Prop} {w' : World} (hd : Below w0.heap.size w0 w) (hk : Kp S w w') (hc : ∀ k, S k → w0.heap.size ≤ k ∧ ¬ E k) : Below w0.heap.size w0 w' ∧ Same E w w' :=
  ⟨hd.trans (hk.below (fun k hk hs => by have := (hc k hs).1; omega) hd.size), Same.of_kp hk fun k hs => (hc k hs).2⟩
theorem ps_new (hE : ∀ k, E k → k < w.heap.size) (hb : Below w0.heap.size w0 w) (me tm rv : Int) (hr : 0 ≤ rv ∧ rv ≤ 18446744073709551615) {A : Option Addr} {c : Nat} {xs : List Int} (hC : Kd.C (Kd.int .i64) w A xs.length xs) (hc : xs.length ≤ c) (hA : ∀ ad, A = some ad → 0 < xs.length → ad.block < w.heap.size) (hl : xs.length ≤ 140737488351232) (hx : ∀ x ∈ xs, 0 ≤ x ∧ x ≤ 4) :
    Calls Try.prog 9 #[.int .i64 me, .int .u64 tm, .int .u64 rv, .slice A xs.length c] w fun e w' => ∃ B, e = .returned (pt B) ∧ PS w0 E w' B me tm rv (tabF me rv xs f0) ∧ Same E w w' := by
  refine (new_f (S := fun k => w.heap.size ≤ k) (fun k hk => hk) me tm rv hr ⟨hC, hc, fun ad e h0 h => by have := hA ad e h0; omega, hl⟩ hx).mono fun e w' ⟨B, he, hP, hK⟩ => ⟨B, he, ?_, ?_⟩
  · exact ⟨_, hP, fun k hk => Nat.le_trans hK.size hk, fun k hk => ⟨Nat.le_trans hb.size hk, fun h => by have := hE k h; omega⟩, hb.trans (hK.below (fun k hk h => by have := hb.size; omega) hb.size)⟩
  · exact Same.of_kp hK fun k hk h => by have := hE k h; omega
theorem ps_term (h : PS w0 E w B me tm rv f) : Calls Try.prog 23 #[pt B] w fun e w' => e = .returned (.int .u64 tm) ∧ w = w' := term_f h.choose_spec.1
theorem ps_lacks (h : PS w0 E w B me tm rv f) {k : Int} (hk : (Lit.int .i64 k).wf = true) : Calls Try.prog 24 #[pt B, .int .i64 k] w fun e w' => e = .returned (lackF f k) ∧ ∃ n, w' = w.drewN n := lacks_f h.choose_spec.1 hk
/-- 'in' came in -/
theorem ps_table (h : PS w0 E w B me tm rv f) {A : Option Addr} {c : Nat} {xs : List Int} (hC : Kd.C (Kd.int .i64) w A xs.length xs) (hc : xs.length ≤ c) (hA : ∀ ad, A = some ad → 0 < xs.length → ad.block < w0.heap.size) (hl : xs.length ≤ 140737488351232) (hx : ∀ x ∈ xs, 0 ≤ x ∧ x ≤ 4) (rv' : Int) (hr : rv ≤ rv') (hr2 : rv' ≤ 18446744073709551615) :
    Calls Try.prog 13 #[pt B, .int .u64 rv', .slice A xs.length c] w fun e w' => e = .returned (.tuple #[]) ∧ PS w0 E w' B me tm rv' (tabF me rv' xs f) ∧ Same E w w' := by
  obtain ⟨S, a, b, cc, d⟩ := h
  refine (table_f a b ⟨hC, hc, fun ad e h0 hs => by have := (cc _ hs).1; have := hA ad e h0; omega, hl⟩ hx rv' hr hr2).mono fun e w' ⟨he, hP, hK⟩ => ⟨he, ⟨S, hP, fun k hk => b k (Nat.le_trans hK.size hk), cc, (PS.kp (E := E) d hK cc).1⟩, (PS.kp d hK cc).2⟩
/-- 'in' was made just now -/
theorem ps_table_new (h : PS w0 E w B me tm rv f) (hE : ∀ k, E k → k < w.heap.size) (xs : List Int) (hl : xs.length ≤ 140737488351232) (hx : ∀ x ∈ xs, 0 ≤ x ∧ x ≤ 4) (rv' : Int) (hr : rv ≤ rv') (hr2 : rv' ≤ 18446744073709551615) :
    Calls Try.prog 13 #[pt B, .int .u64 rv', .slice (some ⟨w.heap.size, 0, none⟩) xs.length xs.length] (w.alloc (.cells (xs.map (Value.int .i64)).toArray 3)) fun e w' => e = .returned (.tuple #[]) ∧ PS w0 E w' B me tm rv' (tabF me rv' xs f) ∧ Same E w w' := by
  obtain ⟨S, a, b, cc, d⟩ := h
  have hI : IntsAt (w.alloc (.cells (xs.map (Value.int .i64)).toArray 3)) (fun k => S k ∧ k ≠ w.heap.size) (some ⟨w.heap.size, 0, none⟩) xs.length xs := ints_out (heap_alloc_new w _) (fun h => h.2 rfl) hl
  have hb : ∀ k, (w.alloc (.cells (xs.map (Value.int .i64)).toArray 3)).heap.size ≤ k → S k ∧ k ≠ w.heap.size := fun k hk => by simp at hk; exact ⟨b k (by omega), by omega⟩
  refine (table_f (a.without _) hb hI hx rv' hr hr2).mono fun e w' ⟨he, hP, hK⟩ => ?_
  have hk2 := PS.kp (E := E) (d.alloc d.size _) hK (fun k hk => cc k hk.1)
  refine ⟨he, ⟨_, hP, fun k hk => hb k (Nat.le_trans hK.size hk), fun k hk => cc k hk.1, hk2.1⟩, ⟨by have := hk2.2.1; simp at this; omega, fun k he hk => (hk2.2.2 k he (by simp; omega)).trans (Below.heap_alloc w _ k hk)⟩⟩
theorem ps_table_old (h : PS w0 E w B me tm rv f) (A : Option Addr) (n c : Nat) (rv' : Int) (hr : rv' < rv) : Calls Try.prog 13 #[pt B, .int .u64 rv', .slice A n c] w fun e w' => e = .returned (.tuple #[]) ∧ w = w' := table_old h.choose_spec.1 A n c rv' hr
theorem ps_has (h : PS w0 E w B me tm rv f) {k : Int} {p : Pe} (hf : f k = some p) (n : Int) (hn : 0 ≤ n) (hn2 : n ≤ 9223372036854775807) :
    Calls Try.prog 11 #[pt B, .int .i64 k, .int .i64 n] w fun e w' => e = .returned (.int .i64 0) ∧ PS w0 E w' B me tm rv (setF f k { p with a := true, h := max p.h n }) ∧ Same E w w' := by
  obtain ⟨S, a, b, cc, d⟩ := h
  refine (has_f a hf n hn hn2).mono fun e w' ⟨he, hP, hK⟩ => ⟨he, ⟨S, hP, fun k hk => b k (Nat.le_trans hK.size hk), cc, (PS.kp (E := E) d hK cc).1⟩, (PS.kp d hK cc).2⟩
theorem ps_has_no (h : PS w0 E w B me tm rv f) {k : Int} (hk : (Lit.int .i64 k).wf = true) (hf : f k = none) (n : Int) : Calls Try.prog 11 #[pt B, .int .i64 k, .int .i64 n] w fun e w' => e = .returned (.int .i64 8) ∧ w = w' := has_no h.choose_spec.1 hk hf n
theorem ps_has_arg (h : PS w0 E w B me tm rv f) {k : Int} {p : Pe} (hf : f k = some p) (n : Int) (hn : n < 0) : Calls Try.prog 11 #[pt B, .int .i64 k, .int .i64 n] w fun e w' => e = .returned (.int .i64 1) ∧ w = w' := has_arg h.choose_spec.1 hf n hn
theorem ps_lost (h : PS w0 E w B me tm rv f) {k : Int} {p : Pe} (hf : f k = some p) :
    Calls Try.prog 25 #[pt B, .int .i64 k] w fun e w' => e = .returned (.int .i64 0) ∧ PS w0 E w' B me tm rv (setF f k { p with a := false }) ∧ Same E w w' := by
  obtain ⟨S, a, b, cc, d⟩ := h
  refine (lost_f a hf).mono fun e w' ⟨he, hP, hK⟩ => ⟨he, ⟨S, hP, fun k hk => b k (Nat.le_trans hK.size hk), cc, (PS.kp (E := E) d hK cc).1⟩, (PS.kp d hK cc).2⟩
theorem ps_lost_no (h : PS w0 E w B me tm rv f) {k : Int} (hk : (Lit.int .i64 k).wf = true) (hf : f k = none) : Calls Try.prog 25 #[pt B, .int .i64 k] w fun e w' => e = .returned (.int .i64 8) ∧ w = w' := lost_no h.choose_spec.1 hk hf
theorem ps_join_arg (h : PS w0 E w B me tm rv f) (k : Int) (hk : k < 0 ∨ 4 < k ∨ k = me) : Calls Try.prog 12 #[pt B, .int .i64 k] w fun e w' => e = .returned (.int .i64 1) ∧ w = w' := join_arg h.choose_spec.1 k hk
theorem ps_join_ex (h : PS w0 E w B me tm rv f) (k : Int) (h3 : k ≠ me) {p : Pe} (hf : f k = some p) : Calls Try.prog 12 #[pt B, .int .i64 k] w fun e w' => e = .returned (.int .i64 9) ∧ w = w' := join_ex h.choose_spec.1 k h3 hf
theorem ps_join (h : PS w0 E w B me tm rv f) (k : Int) (h1 : 0 ≤ k) (h2 : k ≤ 4) (h3 : k ≠ me) (hf : f k = none) :
    Calls Try.prog 12 #[pt B, .int .i64 k] w fun e w' => e = .returned (.int .i64 0) ∧ PS w0 E w' B me tm rv (setF f k zeroPe) ∧ Same E w w' := by
  obtain ⟨S, a, b, cc, d⟩ := h
  refine (join_f a b k h1 h2 h3 hf).mono fun e w' ⟨he, hP, hK⟩ => ⟨he, ⟨S, hP, fun k hk => b k (Nat.le_trans hK.size hk), cc, (PS.kp (E := E) d hK cc).1⟩, (PS.kp d hK cc).2⟩
theorem ps_peers (h : PS w0 E w B me tm rv f) :
    Calls Try.prog 14 #[pt B] w fun e w' => ∃ v, e = .returned v ∧ Kd.R (Kd.int .i64) 3 w' w.heap.size (fun k => w.heap.size ≤ k) v (ksF f) ∧ PS w0 E w' B me tm rv f ∧ Below w.heap.size w w' := by
  refine (peers_f h.choose_spec.1).mono fun e w' ⟨v, he, hR, _, hB⟩ => ⟨v, he, hR, h.below hB, hB⟩
theorem ps_needs (h : PS w0 E w B me tm rv f) :
    Calls Try.prog 16 #[pt B] w fun e w' => ∃ v, e = .returned v ∧ Kd.R (Kd.int .i64) 3 w' w.heap.size (fun k => w.heap.size ≤ k) v (needsF f) ∧ PS w0 E w' B me tm rv f ∧ Below w.heap.size w w' := by
  refine (needs_f h.choose_spec.1).mono fun e w' ⟨v, he, hR, _, hB⟩ => ⟨v, he, hR, h.below hB, hB⟩
theorem ps_sure (h : PS w0 E w B me tm rv f) (n : Int) (hn : -9223372036854775808 ≤ n ∧ n ≤ 9223372036854775807) :
    Calls Try.prog 10 #[pt B, .int .i64 n] w fun e w' => e = .returned (.int .i64 (sureV f n)) ∧ PS w0 E w' B me tm rv f ∧ Below w.heap.size w w' := by
  refine (sure_f h.choose_spec.1 n hn).mono fun e w' ⟨he, _, hB⟩ => ⟨he, h.below hB, hB⟩
theorem ps_offer (h : PS w0 E w B me tm rv f) (len : Int) :
    Calls Try.prog 15 #[pt B, .int .i64 len] w fun e w' => ∃ v, e = .returned v ∧ Kd.R (Kd.int .i64) 3 w' w.heap.size (fun k => w.heap.size ≤ k) v ((ksF f).filter (offK f len)) ∧ PS w0 E w' B me tm rv (offF rv len f) ∧ Same E w w' := by
  obtain ⟨S, a, b, cc, d⟩ := h
  refine (offer_f a b len).mono fun e w' ⟨v, he, hR, hP, hK⟩ => ⟨v, he, hR, ⟨S, hP, fun k hk => b k (Nat.le_trans hK.size hk), cc, (PS.kp (E := E) d hK cc).1⟩, (PS.kp d hK cc).2⟩
end Go.Proofs.Ytfaipapaiobgcaa.M
