/- The first copy's knowledge, by keys. -/
import Derived.Test.YtfaipapaiobgcaaPrimF
namespace Go.Proofs.Ytfaipapaiobgcaa.M
open Go.RowKit Go.Maps Go.ChangeMaps Go.Proofs.YtfaipapaiobgcaaW.PrintWords Go.Proofs.YtfaipapaiobgcaaW.PrintLast Go.Proofs.YtfaipapaiobgcaaW.PrintMore Go.Proofs.Ytfaipapaiobgcaa.PPrimPlays
set_option linter.unusedVariables false
set_option linter.unusedSimpArgs false
abbrev PF := Int → Option Pe
def nodes : List Int := [0, 1, 2, 3, 4]
def ksF (f : PF) : List Int := nodes.filter fun k => (f k).isSome
def needsF (f : PF) : List Int := (ksF f).filter (needB f)
def sureV (f : PF) (n : Int) : Int := sureF f (needsF f) n
def setF (f : PF) (k : Int) (p : Pe) : PF := fun j => if j = k then some p else f j
def tabF (me rv : Int) (xs : List Int) (f : PF) : PF := fun k => (tab1 me xs f k).bind (updP xs rv k)
def offF (rv len : Int) (f : PF) : PF := fun k => (f k).map (offP rv len)
def PA (w : World) (S : Nat → Prop) (B : Nat) (me tm rv : Int) (f : PF) : Prop := ∃ M cl L, PrimAt w S B M cl me tm rv L ∧ st L = f
theorem sorted_ext : ∀ {l m : List Int}, l.Pairwise (· ≤ ·) → m.Pairwise (· ≤ ·) → l.Nodup → m.Nodup → (∀ x, x ∈ l ↔ x ∈ m) → l = m := by
  intro l m h1 h2 d1 d2 hm
  exact List.Perm.eq_of_pairwise (le := fun x y : Int => x ≤ y) (fun a b _ _ h1 h2 => Int.le_antisymm h1 h2) h1 h2 ((List.perm_ext_iff_of_nodup d1 d2).2 hm)
theorem nodes_rises : nodes.Pairwise (· ≤ ·) := by decide
theorem nodes_nodup : nodes.Nodup := by decide
theorem mem_nodes (k : Int) : k ∈ nodes ↔ 0 ≤ k ∧ k ≤ 4 := by unfold nodes; simp; omega
theorem keys_ks {w : World} {M : Nat} {L : List En} {cl : Nat} (h : MapAt w M L cl) : keysL L = ksF (st L) := by
  refine sorted_ext (sortI_rising _) (nodes_rises.sublist List.filter_sublist) (keys_nodup h.kd) (nodes_nodup.sublist List.filter_sublist) fun k => ?_
  rw [keys_mem]
  unfold ksF
  rw [List.mem_filter, mem_nodes]
  constructor
  · intro hk
    have hm := keys_rng h (keys_mem.2 hk)
    exact ⟨hm, by cases hf : st L k with | none => exact absurd hf hk | some p => rfl⟩
  · rintro ⟨_, h2⟩ e
    rw [e] at h2; cases h2
theorem PA.drewN {w : World} {S : Nat → Prop} {B : Nat} {me tm rv : Int} {f : PF} (h : PA w S B me tm rv f) (n : Nat) : PA (w.drewN n) S B me tm rv f := by
  obtain ⟨M, cl, L, h1, h2⟩ := h
  exact ⟨M, cl, L, h1.drewN n, h2⟩
theorem PA.alloc {w : World} {S : Nat → Prop} {B : Nat} {me tm rv : Int} {f : PF} (h : PA w S B me tm rv f) (o : Obj) : PA (w.alloc o) S B me tm rv f := by
  obtain ⟨M, cl, L, h1, h2⟩ := h
  exact ⟨M, cl, L, h1.alloc o, h2⟩
theorem PA.below {w w' : World} {S : Nat → Prop} {B : Nat} {me tm rv : Int} {f : PF} (h : PA w S B me tm rv f) (hb : Below w.heap.size w w') : PA w' S B me tm rv f := by
  obtain ⟨M, cl, L, h1, h2⟩ := h
  exact ⟨M, cl, L, h1.old fun k _ hk => hb.block k hk, h2⟩
theorem PA.rng {w : World} {S : Nat → Prop} {B : Nat} {me tm rv : Int} {f : PF} (h : PA w S B me tm rv f) {k : Int} {p : Pe} (hf : f k = some p) : (0 ≤ k ∧ k ≤ 4) ∧ -9223372036854775808 ≤ p.h ∧ p.h ≤ 9223372036854775807 := by
  obtain ⟨M, cl, L, h1, rfl⟩ := h
  unfold st at hf
  cases hx : find L k with
  | none => rw [hx] at hf; cases hf
  | some x =>
    rw [hx] at hf
    obtain rfl : x.p = p := by simpa using hf
    obtain ⟨m, e⟩ := find_some hx
    rw [← e]
    exact ⟨h1.mp.kw x m, h1.hw x m⟩
theorem PA.rv {w : World} {S : Nat → Prop} {B : Nat} {me tm rv : Int} {f : PF} (h : PA w S B me tm rv f) : 0 ≤ rv ∧ rv ≤ 18446744073709551615 := by
  obtain ⟨M, cl, L, h1, rfl⟩ := h
  exact h1.tw
theorem find_st {L : List En} {k : Int} {p : Pe} (h : st L k = some p) : ∃ x, find L k = some x ∧ x.p = p := by
  unfold st at h
  cases hx : find L k with
  | none => rw [hx] at h; cases h
  | some x => rw [hx] at h; exact ⟨x, rfl, by simpa using h⟩
theorem setE_st {L : List En} {k : Int} {p p0 : Pe} (h : st L k = some p0) : st (setE L k p) = setF (st L) k p := by
  funext j
  rw [st_set]
  unfold setF
  by_cases hj : j = k
  · rw [if_pos hj, if_pos ⟨hj, by rw [hj, h]; simp⟩]
  · rw [if_neg hj, if_neg (fun e => hj e.1)]
theorem new_f {w : World} {S : Nat → Prop} (hS : ∀ k, w.heap.size ≤ k → S k) (me tm rv : Int) (hr : 0 ≤ rv ∧ rv ≤ 18446744073709551615) {A : Option Addr} {c : Nat} {xs : List Int} (hI : IntsAt w S A c xs) (hx : ∀ x ∈ xs, 0 ≤ x ∧ x ≤ 4) :
    Calls Try.prog 9 #[.int .i64 me, .int .u64 tm, .int .u64 rv, .slice A xs.length c] w fun e w' => ∃ B, e = .returned (pt B) ∧ PA w' S B me tm rv (tabF me rv xs f0) ∧ Kp S w w' :=
  (new_any hS me tm rv hr hI hx).mono fun e w' ⟨B, M, he, cl, L, h1, h2, h3⟩ => ⟨B, he, ⟨M, cl, L, h1, funext h3⟩, h2⟩
theorem term_f {w : World} {S : Nat → Prop} {B : Nat} {me tm rv : Int} {f : PF} (h : PA w S B me tm rv f) :
    Calls Try.prog 23 #[pt B] w fun e w' => e = .returned (.int .u64 tm) ∧ w = w' := by
  obtain ⟨M, cl, L, h1, h2⟩ := h
  exact term_any h1
def lackF (f : PF) (k : Int) : Value := match f k with
  | none => .tuple #[.int .i64 0, .bool false]
  | some p => .tuple #[.int .i64 p.h, .bool p.a]
theorem lacks_f {w : World} {S : Nat → Prop} {B : Nat} {me tm rv : Int} {f : PF} (h : PA w S B me tm rv f) {k : Int} (hk : (Lit.int .i64 k).wf = true) :
    Calls Try.prog 24 #[pt B, .int .i64 k] w fun e w' => e = .returned (lackF f k) ∧ ∃ n, w' = w.drewN n := by
  obtain ⟨M, cl, L, h1, rfl⟩ := h
  have e : lackF (st L) k = lackR L k := by unfold lackF lackR st; cases find L k <;> rfl
  rw [e]
  exact lacks_any h1 hk
theorem table_f {w : World} {S : Nat → Prop} {B : Nat} {me tm rv : Int} {f : PF} (h : PA w S B me tm rv f) (hS : ∀ k, w.heap.size ≤ k → S k) {A : Option Addr} {c : Nat} {xs : List Int} (hI : IntsAt w S A c xs)
    (hx : ∀ x ∈ xs, 0 ≤ x ∧ x ≤ 4) (rv' : Int) (hr : rv ≤ rv') (hr2 : rv' ≤ 18446744073709551615) :
    Calls Try.prog 13 #[pt B, .int .u64 rv', .slice A xs.length c] w fun e w' => e = .returned (.tuple #[]) ∧ PA w' S B me tm rv' (tabF me rv' xs f) ∧ Kp S w w' := by
  obtain ⟨M, cl, L, h1, rfl⟩ := h
  exact (table_any h1 hS hI hx rv' hr hr2).mono fun e w' ⟨he, cl', L', a, b, c⟩ => ⟨he, ⟨M, cl', L', a, funext c⟩, b⟩
theorem table_old {w : World} {S : Nat → Prop} {B : Nat} {me tm rv : Int} {f : PF} (h : PA w S B me tm rv f) (A : Option Addr) (n c : Nat) (rv' : Int) (hr : rv' < rv) :
    Calls Try.prog 13 #[pt B, .int .u64 rv', .slice A n c] w fun e w' => e = .returned (.tuple #[]) ∧ w = w' := by
  obtain ⟨M, cl, L, h1, rfl⟩ := h
  have c2 : w.cell? ⟨B, 2, none⟩ = some (.int .u64 rv) := blk_cell h1.hd 2
  have e0 : decide (rv' < rv) = true := decide_eq_true hr
  go_enter Try.func13, Try.ntmps13
  go_wp2
  refine bodyPost_ret (results_none rfl _ _ _) rfl ?_
  exact ⟨rfl, rfl⟩
theorem has_no {w : World} {S : Nat → Prop} {B : Nat} {me tm rv : Int} {f : PF} (h : PA w S B me tm rv f) {k : Int} (hk : (Lit.int .i64 k).wf = true) (hf : f k = none) (n : Int) :
    Calls Try.prog 11 #[pt B, .int .i64 k, .int .i64 n] w fun e w' => e = .returned (.int .i64 8) ∧ w = w' := by
  obtain ⟨M, cl, L, h1, rfl⟩ := h
  exact has_none h1 hk (st_none.1 hf) n
theorem has_arg {w : World} {S : Nat → Prop} {B : Nat} {me tm rv : Int} {f : PF} (h : PA w S B me tm rv f) {k : Int} {p : Pe} (hf : f k = some p) (n : Int) (hn : n < 0) :
    Calls Try.prog 11 #[pt B, .int .i64 k, .int .i64 n] w fun e w' => e = .returned (.int .i64 1) ∧ w = w' := by
  have hr := h.rng hf
  obtain ⟨M, cl, L, h1, rfl⟩ := h
  obtain ⟨x, hx, rfl⟩ := find_st hf
  exact has_neg h1 (wf_key hr.1) x hx n hn
theorem has_f {w : World} {S : Nat → Prop} {B : Nat} {me tm rv : Int} {f : PF} (h : PA w S B me tm rv f) {k : Int} {p : Pe} (hf : f k = some p) (n : Int) (hn : 0 ≤ n) (hn2 : n ≤ 9223372036854775807) :
    Calls Try.prog 11 #[pt B, .int .i64 k, .int .i64 n] w fun e w' => e = .returned (.int .i64 0) ∧ PA w' S B me tm rv (setF f k { p with a := true, h := max p.h n }) ∧ Kp S w w' := by
  have hr := h.rng hf
  obtain ⟨M, cl, L, h1, rfl⟩ := h
  obtain ⟨x, hx, rfl⟩ := find_st hf
  exact (has_any h1 (wf_key hr.1) x hx n hn hn2).mono fun e w' ⟨a, b, c⟩ => ⟨a, ⟨M, cl, _, b, setE_st hf⟩, c⟩
theorem lost_no {w : World} {S : Nat → Prop} {B : Nat} {me tm rv : Int} {f : PF} (h : PA w S B me tm rv f) {k : Int} (hk : (Lit.int .i64 k).wf = true) (hf : f k = none) :
    Calls Try.prog 25 #[pt B, .int .i64 k] w fun e w' => e = .returned (.int .i64 8) ∧ w = w' := by
  obtain ⟨M, cl, L, h1, rfl⟩ := h
  exact lost_none h1 hk (st_none.1 hf)
theorem lost_f {w : World} {S : Nat → Prop} {B : Nat} {me tm rv : Int} {f : PF} (h : PA w S B me tm rv f) {k : Int} {p : Pe} (hf : f k = some p) :
    Calls Try.prog 25 #[pt B, .int .i64 k] w fun e w' => e = .returned (.int .i64 0) ∧ PA w' S B me tm rv (setF f k { p with a := false }) ∧ Kp S w w' := by
  have hr := h.rng hf
  obtain ⟨M, cl, L, h1, rfl⟩ := h
  obtain ⟨x, hx, rfl⟩ := find_st hf
  exact (lost_any h1 (wf_key hr.1) x hx).mono fun e w' ⟨a, b, c⟩ => ⟨a, ⟨M, cl, _, b, setE_st hf⟩, c⟩
theorem join_arg {w : World} {S : Nat → Prop} {B : Nat} {me tm rv : Int} {f : PF} (h : PA w S B me tm rv f) (k : Int) (hk : k < 0 ∨ 4 < k ∨ k = me) :
    Calls Try.prog 12 #[pt B, .int .i64 k] w fun e w' => e = .returned (.int .i64 1) ∧ w = w' := by
  obtain ⟨M, cl, L, h1, rfl⟩ := h
  exact join_bad h1 k hk
theorem join_ex {w : World} {S : Nat → Prop} {B : Nat} {me tm rv : Int} {f : PF} (h : PA w S B me tm rv f) (k : Int) (h3 : k ≠ me) {p : Pe} (hf : f k = some p) :
    Calls Try.prog 12 #[pt B, .int .i64 k] w fun e w' => e = .returned (.int .i64 9) ∧ w = w' := by
  have hr := h.rng hf
  obtain ⟨M, cl, L, h1, rfl⟩ := h
  obtain ⟨x, hx, rfl⟩ := find_st hf
  exact join_there h1 k hr.1.1 hr.1.2 h3 x hx
theorem join_f {w : World} {S : Nat → Prop} {B : Nat} {me tm rv : Int} {f : PF} (h : PA w S B me tm rv f) (hS : ∀ k, w.heap.size ≤ k → S k) (k : Int) (h1 : 0 ≤ k) (h2 : k ≤ 4) (h3 : k ≠ me) (hf : f k = none) :
    Calls Try.prog 12 #[pt B, .int .i64 k] w fun e w' => e = .returned (.int .i64 0) ∧ PA w' S B me tm rv (setF f k zeroPe) ∧ Kp S w w' := by
  obtain ⟨M, cl, L, hP, rfl⟩ := h
  refine (join_new hP hS k h1 h2 h3 (st_none.1 hf)).mono fun e w' ⟨a, b, c⟩ => ⟨a, ⟨M, cl + 1, _, b, funext fun j => ?_⟩, c⟩
  rw [st_add (st_none.1 hf)]; rfl
theorem peers_f {w : World} {S : Nat → Prop} {B : Nat} {me tm rv : Int} {f : PF} (h : PA w S B me tm rv f) :
    Calls Try.prog 14 #[pt B] w fun e w' => ∃ v, e = .returned v ∧ Kd.R (Kd.int .i64) 3 w' w.heap.size (fun k => w.heap.size ≤ k) v (ksF f) ∧ PA w' S B me tm rv f ∧ Below w.heap.size w w' := by
  obtain ⟨M, cl, L, h1, rfl⟩ := h
  exact (peers_any h1).mono fun e w' ⟨v, a, b, c, d⟩ => ⟨v, a, by rw [← keys_ks h1.mp]; exact R_int_ok b, ⟨M, cl, L, c, rfl⟩, d⟩
theorem needs_f {w : World} {S : Nat → Prop} {B : Nat} {me tm rv : Int} {f : PF} (h : PA w S B me tm rv f) :
    Calls Try.prog 16 #[pt B] w fun e w' => ∃ v, e = .returned v ∧ Kd.R (Kd.int .i64) 3 w' w.heap.size (fun k => w.heap.size ≤ k) v (needsF f) ∧ PA w' S B me tm rv f ∧ Below w.heap.size w w' := by
  obtain ⟨M, cl, L, h1, rfl⟩ := h
  exact (needs_any h1).mono fun e w' ⟨v, a, b, c, d⟩ => ⟨v, a, by unfold needsF; rw [← keys_ks h1.mp]; exact R_int_ok b, ⟨M, cl, L, c, rfl⟩, d⟩
theorem sure_f {w : World} {S : Nat → Prop} {B : Nat} {me tm rv : Int} {f : PF} (h : PA w S B me tm rv f) (n : Int) (hn : -9223372036854775808 ≤ n ∧ n ≤ 9223372036854775807) :
    Calls Try.prog 10 #[pt B, .int .i64 n] w fun e w' => e = .returned (.int .i64 (sureV f n)) ∧ PA w' S B me tm rv f ∧ Below w.heap.size w w' := by
  obtain ⟨M, cl, L, h1, rfl⟩ := h
  exact (sure_any h1 n hn).mono fun e w' ⟨a, b, c⟩ => ⟨by rw [a]; unfold sureV needsF; rw [← keys_ks h1.mp], ⟨M, cl, L, b, rfl⟩, c⟩
theorem offer_f {w : World} {S : Nat → Prop} {B : Nat} {me tm rv : Int} {f : PF} (h : PA w S B me tm rv f) (hS : ∀ k, w.heap.size ≤ k → S k) (len : Int) :
    Calls Try.prog 15 #[pt B, .int .i64 len] w fun e w' => ∃ v, e = .returned v ∧ Kd.R (Kd.int .i64) 3 w' w.heap.size (fun k => w.heap.size ≤ k) v ((ksF f).filter (offK f len)) ∧ PA w' S B me tm rv (offF rv len f) ∧ Kp S w w' := by
  obtain ⟨M, cl, L, h1, rfl⟩ := h
  exact (offer_any h1 hS len).mono fun e w' ⟨v, L', a, b, c, d, g⟩ => ⟨v, a, by rw [← keys_ks h1.mp]; exact b, ⟨M, cl, L', c, funext d⟩, g⟩
end Go.Proofs.Ytfaipapaiobgcaa.M
