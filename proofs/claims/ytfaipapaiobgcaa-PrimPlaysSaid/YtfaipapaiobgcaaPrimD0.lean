/- One call of both: the walk of 'do'. -/
import Derived.Test.YtfaipapaiobgcaaPrimZ3
namespace Go.Proofs.Ytfaipapaiobgcaa.M
open Go.RowKit Go.Maps Go.ChangeMaps Go.Proofs.YtfaipapaiobgcaaW.PrintWords Go.Proofs.YtfaipapaiobgcaaW.PrintLast Go.Proofs.YtfaipapaiobgcaaW.PrintMore Go.Proofs.Ytfaipapaiobgcaa.PPrimPlays
set_option linter.unusedVariables false
set_option linter.unusedSimpArgs false
/-- both have the same peers -/
structure JS (E : Nat → Prop) (w0 w : World) (B X Y : Nat) (me tm rv : Int) (f : PF) : Prop where
  ps : PS w0 (fun k => (k = X ∨ k = Y) ∨ E k) w B me tm rv f
  xa : XA w X Y me rv f
  no : f me = none
  nn : ∀ k p, f k = some p → 0 ≤ p.h
  xy : w0.heap.size ≤ X ∧ w0.heap.size ≤ Y
theorem JS.out {E : Nat → Prop} {w0 w : World} {B X Y : Nat} {me tm rv : Int} {f : PF} (h : JS E w0 w B X Y me tm rv f) (k : Int) (hk : ¬ (0 ≤ k ∧ k ≤ 4)) : f k = none := by
  cases hf : f k with
  | none => rfl
  | some p => exact absurd (PA.rng h.ps.choose_spec.1 hf).1 hk
theorem JS.old {E : Nat → Prop} {w0 w w' : World} {B X Y : Nat} {me tm rv : Int} {f : PF} (h : JS E w0 w B X Y me tm rv f) (hb : Below w.heap.size w w') : JS E w0 w' B X Y me tm rv f := ⟨h.ps.below hb, h.xa.below hb, h.no, h.nn, h.xy⟩
theorem JS.bel {E : Nat → Prop} {w0 w : World} {B X Y : Nat} {me tm rv : Int} {f : PF} (h : JS E w0 w B X Y me tm rv f) : Below w0.heap.size w0 w := h.ps.choose_spec.2.2.2
/-- E's blocks are as they were -/
def Fr (E : Nat → Prop) (X Y : Nat) (w w' : World) : Prop := w.heap.size ≤ w'.heap.size ∧ ∀ k, E k → ¬ (k = X ∨ k = Y) → k < w.heap.size → w'.heap[k]? = w.heap[k]?
theorem Fr.trans {E : Nat → Prop} {X Y : Nat} {a b c : World} (h : Fr E X Y a b) (g : Fr E X Y b c) : Fr E X Y a c := ⟨Nat.le_trans h.1 g.1, fun k he hn hk => (g.2 k he hn (Nat.lt_of_lt_of_le hk h.1)).trans (h.2 k he hn hk)⟩
theorem Fr.below {E : Nat → Prop} {X Y : Nat} {a b : World} (h : Below a.heap.size a b) : Fr E X Y a b := ⟨h.size, fun k _ _ hk => h.block k hk⟩
theorem Fr.eq {E : Nat → Prop} {X Y : Nat} {a b c : World} (h : Fr E X Y a b) (e : c.heap = b.heap) : Fr E X Y a c := by unfold Fr; rw [e]; exact h
theorem Fr.box {E : Nat → Prop} {X Y : Nat} {w : World} (o : Obj) (n : Nat) : Fr E X Y w ((w.alloc o).drewN n) := (Fr.below (below_alloc (Below.refl _ _) o)).eq rfl
theorem Fr.same {E E' : Nat → Prop} {X Y b : Nat} {a c : World} (h : Same (fun k => (E' k ∨ E k) ∨ k = b) a c) : Fr E X Y a c := ⟨h.1, fun k he _ hk => h.2 k (.inl (.inr he)) hk⟩
theorem Fr.kx {E : Nat → Prop} {X Y : Nat} {a b c : World} (h : Fr E X Y a b) (g : KX X Y b c) : Fr E X Y a c := h.trans ⟨g.size, fun k _ hn hk => g.block k hk hn⟩
/-- what p's call leaves of x -/
theorem XA.same {w w' : World} {X Y : Nat} {me rv : Int} {f : PF} (h : XA w X Y me rv f) (hs : Same (fun k => k = X ∨ k = Y) w w') : XA w' X Y me rv f := h.old fun k hk he => hs.2 k he hk
/-- what x's call leaves of p -/
theorem PS.kx {E : Nat → Prop} {w0 w w' : World} {X Y B : Nat} {me tm rv : Int} {f : PF} (h : PS w0 (fun k => (k = X ∨ k = Y) ∨ E k) w B me tm rv f) (hk : KX X Y w w') (hxy : w0.heap.size ≤ X ∧ w0.heap.size ≤ Y) : PS w0 (fun k => (k = X ∨ k = Y) ∨ E k) w' B me tm rv f := by
  obtain ⟨S, a, b, c, d⟩ := h
  obtain ⟨M, cl, L, h1, h2⟩ := a
  exact ⟨S, ⟨M, cl, L, h1.old fun k hs hlt => hk.block k hlt (fun h => (c k hs).2 (.inl h)), h2⟩, fun k hkk => b k (Nat.le_trans hk.size hkk), c, d.trans (hk.below (fun k hkk h => by rcases h with rfl | rfl <;> omega) d.size)⟩
def isB (f : PF) (nd : Int) : Bool := decide (0 ≤ nd ∧ nd < 5) && (f nd).isSome
theorem upTo5 {g f : PF} (h : ∀ k, ¬ (0 ≤ k ∧ k ≤ 4) → g k = f k) : upTo 5 g f = g := by
  funext k; unfold upTo
  by_cases hk : 0 ≤ k ∧ k < ((5 : Nat) : Int)
  · rw [if_pos hk]
  · rw [if_neg hk]; exact (h k (by omega)).symm
theorem tab_both {me rv : Int} {xs : List Int} {f : PF} (hm : f me = none) (ho : ∀ k, ¬ (0 ≤ k ∧ k ≤ 4) → f k = none) (hx : ∀ x ∈ xs, 0 ≤ x ∧ x ≤ 4) : upTo 5 (tabX me rv xs f) f = tabF me rv xs f := by
  have e : tabX me rv xs f = tabF me rv xs f := by
    funext k
    unfold tabX tabF tab1
    by_cases hk : k = me
    · subst hk
      rw [if_pos rfl, hm, if_neg (fun h => h.2.1 rfl)]; rfl
    · rw [if_neg hk]
      cases hf : f k with
      | none =>
        dsimp only
        by_cases hmem : k ∈ xs
        · rw [if_pos hmem, if_pos ⟨hmem, hk, rfl⟩]
          simp [updP, hmem, zeroPe]
        · rw [if_neg hmem, if_neg (fun h => hmem h.1)]; rfl
      | some p =>
        dsimp only
        rw [if_neg (fun h => by simp at h)]; rfl
  rw [e]
  refine upTo5 fun k hk => ?_
  unfold tabF tab1
  rw [ho k hk, if_neg (fun h => hk (hx k h.1))]; rfl
theorem off_both {rv len : Int} {f : PF} (ho : ∀ k, ¬ (0 ≤ k ∧ k ≤ 4) → f k = none) : upTo 5 (offF rv len f) f = offF rv len f := upTo5 fun k hk => by unfold offF; rw [ho k hk]; rfl
theorem xtable_old {w : World} {X Y : Nat} {me rv : Int} {f : PF} (h : XA w X Y me rv f) (A : Option Addr) (n c : Nat) (rv' : Int) (hr : rv' < rv) :
    Calls Try.prog 28 #[pt X, .int .u64 rv', .slice A n c] w fun e w' => e = .returned (.tuple #[]) ∧ w = w' := by
  have c1 : w.cell? ⟨X, 1, none⟩ = some (.int .u64 rv) := blk_cell h.hd 1
  have e0 : decide (rv' < rv) = true := decide_eq_true hr
  go_enter Try.func28, Try.ntmps28
  go_wp2
  refine bodyPost_ret (results_none rfl _ _ _) rfl ?_
  exact ⟨rfl, rfl⟩
abbrev actV (kd rev : Int) (A : Option Addr) (n c : Nat) (nd m : Int) : Array Value := #[.int .u8 kd, .int .u64 rev, .slice A n c, .int .i64 nd, .int .i64 m]
theorem JS.boxed {E : Nat → Prop} {w0 w : World} {B X Y : Nat} {me tm rv : Int} {f : PF} (h : JS E w0 w B X Y me tm rv f) (o : Obj) (n : Nat) : JS E w0 ((w.alloc o).drewN n) B X Y me tm rv f :=
  (h.old (w' := w.alloc o) (below_alloc (Below.refl _ _) o)).old ⟨rfl, rfl, rfl, Nat.le_refl _, fun _ _ => rfl⟩
abbrev EB (X Y b : Nat) (k : Nat) : Prop := (k = X ∨ k = Y) ∨ k = b
theorem PS.box {w0 w : World} {E : Nat → Prop} {B : Nat} {me tm rv : Int} {f : PF} (h : PS w0 E w B me tm rv f) (o : Obj) (n : Nat) : PS w0 (fun k => E k ∨ k = w.heap.size) ((w.alloc o).drewN n) B me tm rv f := by
  obtain ⟨S, a, b, c, d⟩ := h
  refine ⟨_, (a.without o).drewN n, fun k hk => ?_, fun k hk => ⟨(c k hk.1).1, fun h => h.elim (c k hk.1).2 hk.2⟩, ?_⟩
  · have : w.heap.size + 1 ≤ k := by simpa using hk
    exact ⟨b k (by omega), by omega⟩
  · have := d.alloc d.size o
    exact ⟨this.os, this.tape, this.output, this.size, this.block⟩
theorem PS.weaken {w0 w : World} {E E' : Nat → Prop} {B : Nat} {me tm rv : Int} {f : PF} (h : PS w0 E w B me tm rv f) (he : ∀ k, E' k → E k) : PS w0 E' w B me tm rv f := by
  obtain ⟨S, a, b, c, d⟩ := h
  exact ⟨S, a, b, fun k hk => ⟨(c k hk).1, fun h => (c k hk).2 (he k h)⟩, d⟩
/-- what came in is as it was -/
theorem C_args {w0 w w1 : World} {A : Option Addr} {xs : List Int} (hC : Kd.C (Kd.int .i64) w A xs.length xs) (hA : ∀ ad, A = some ad → 0 < xs.length → ad.block < w0.heap.size) (hb : Below w0.heap.size w0 w) (hb1 : Below w0.heap.size w0 w1) (hs : w.heap.size ≤ w1.heap.size) : Kd.C (Kd.int .i64) w1 A xs.length xs :=
  Kd.C_foot_neS (S := fun k => w0.heap.size ≤ k) (fun h => h) hC (fun ad e h0 hk => by have := hA ad e h0; omega) w1 ⟨hs, fun i _ hn => (hb1.block i (by omega)).trans (hb.block i (by omega)).symm⟩
/-- where a.Node is -/
inductive Where (w : World) (X Y : Nat) (me rv : Int) (f : PF) (nd : Int) : Prop
  | low (h : decide (0 ≤ nd) = false) : Where w X Y me rv f nd
  | high (h1 : decide (0 ≤ nd) = true) (h2 : decide (nd < 5) = false) : Where w X Y me rv f nd
  | free (k : Nat) (hk : nd = (k : Int)) (h5 : k < 5) (h : f nd = none) : Where w X Y me rv f nd
  | peer (k : Nat) (hk : nd = (k : Int)) (h5 : k < 5) (p : Pe) (h : f nd = some p) : Where w X Y me rv f nd
theorem where_any (w : World) (X Y : Nat) (me rv : Int) (f : PF) (nd : Int) : Where w X Y me rv f nd := by
  by_cases h0 : nd < 0
  · exact .low (decide_eq_false (by omega))
  · by_cases h5 : 5 ≤ nd
    · exact .high (decide_eq_true (by omega)) (decide_eq_false (by omega))
    · cases hf : f nd with
      | none => exact .free nd.toNat (by omega) (by omega) hf
      | some p => exact .peer nd.toNat (by omega) (by omega) p hf
set_option maxRecDepth 100000 in
set_option maxHeartbeats 8000000 in
theorem do0 {E : Nat → Prop} {w0 w : World} {B X Y : Nat} {me tm rv : Int} {f : PF} (h : JS E w0 w B X Y me tm rv f) (kd rev nd m : Int) (A : Option Addr) (c : Nat) (xs : List Int) (hC : Kd.C (Kd.int .i64) w A xs.length xs) (hc : xs.length ≤ c) (hA : ∀ ad, A = some ad → 0 < xs.length → ad.block < w0.heap.size) (hl : xs.length ≤ 140737488351232) (hx : ∀ x ∈ xs, 0 ≤ x ∧ x ≤ 4)
    (hkd : 0 ≤ kd ∧ kd ≤ 255) (hrev : 0 ≤ rev ∧ rev ≤ 18446744073709551615) (hnd : -9223372036854775808 ≤ nd ∧ nd ≤ 9223372036854775807) (hm : -9223372036854775808 ≤ m ∧ m ≤ 9223372036854775807) (hk : kd % 5 = 0) :
    Calls Try.prog 19 #[pt B, pt X, .agg #[.int .u8 kd, .int .u64 rev, .slice A xs.length c, .int .i64 nd, .int .i64 m]] w fun e w' => e = .returned (.bool true) ∧ ∃ rv' f', JS E w0 w' B X Y me tm rv' f' ∧ Fr E X Y w w' := by
  have HJ := Aside0.mk h
  have HC := Aside0.mk hC
  have HX := Aside0.mk hx
  have HKF : Aside0 ((kd % 5 == 0) = true) := ⟨by simp [hk]⟩
  have HXA := Aside0.mk (h.xa.alloc (.cells #[.int .u8 kd, .int .u64 rev, .slice A xs.length c, .int .i64 nd, .int .i64 m] 42))
  have HCB : Aside0 (∀ n, Kd.C (Kd.int .i64) ((w.alloc (.cells #[.int .u8 kd, .int .u64 rev, .slice A xs.length c, .int .i64 nd, .int .i64 m] 42)).drewN n) A xs.length xs) := ⟨fun n => Kd.C_drewN (Kd.C_below hC (below_alloc (Below.refl _ _) _)) n⟩
  have c2 : (w.alloc (.cells #[.int .u8 kd, .int .u64 rev, .slice A xs.length c, .int .i64 nd, .int .i64 m] 42)).cell? ⟨X, 2, none⟩ = some (.slice (some ⟨Y, 0, none⟩) 5 5) := blk_cell HXA.out.hd 2
  clear h hC hx hk
  by_cases hold : rev < rv
  · rcases where_any w X Y me rv f nd with e1 | ⟨e1, e2⟩ | ⟨k, hk, hk5, hfn⟩ | ⟨k, hk, hk5, p, hfn⟩
    case' free =>
      subst hk
      have e1 : decide (0 ≤ (k : Int)) = true := decide_eq_true (by omega)
      have e2 : decide ((k : Int) < 5) = true := decide_eq_true (by omega)
      have hkI : (k : Int) < 5 := by omega
      have x0 := (HXA.out.cell k 0 hk5 (by omega)).1
      rw [hfn] at x0
      simp [encC] at x0
      have HFN := Aside0.mk hfn
      clear hfn
    case' peer =>
      subst hk
      have e1 : decide (0 ≤ (k : Int)) = true := decide_eq_true (by omega)
      have e2 : decide ((k : Int) < 5) = true := decide_eq_true (by omega)
      have hkI : (k : Int) < 5 := by omega
      have x0 := (HXA.out.cell k 0 hk5 (by omega)).1
      rw [hfn] at x0
      simp [encC] at x0
      have HFN := Aside0.mk hfn
      clear hfn
    all_goals
      go_enter Try.func19, Try.ntmps19
      go_wp2
      go_quiet (fail)
      have hk0 := HKF.out
      go_wp2_with fail
      refine (ps_table_old (HJ.out.boxed _ nq).ps A xs.length c rev hold).mono ?_
      rintro e w1 ⟨rfl, rfl⟩
      go_wp2_with fail
      refine (xtable_old (HJ.out.boxed _ nq).xa A xs.length c rev hold).mono ?_
      rintro e w1 ⟨rfl, rfl⟩
      go_wp2
      go_ret
      exact ⟨rfl, rv, f, HJ.out.boxed _ nq, Fr.box _ nq⟩
  · rcases where_any w X Y me rv f nd with e1 | ⟨e1, e2⟩ | ⟨k, hk, hk5, hfn⟩ | ⟨k, hk, hk5, p, hfn⟩
    case' free =>
      subst hk
      have e1 : decide (0 ≤ (k : Int)) = true := decide_eq_true (by omega)
      have e2 : decide ((k : Int) < 5) = true := decide_eq_true (by omega)
      have hkI : (k : Int) < 5 := by omega
      have x0 := (HXA.out.cell k 0 hk5 (by omega)).1
      rw [hfn] at x0
      simp [encC] at x0
      have HFN := Aside0.mk hfn
      clear hfn
    case' peer =>
      subst hk
      have e1 : decide (0 ≤ (k : Int)) = true := decide_eq_true (by omega)
      have e2 : decide ((k : Int) < 5) = true := decide_eq_true (by omega)
      have hkI : (k : Int) < 5 := by omega
      have x0 := (HXA.out.cell k 0 hk5 (by omega)).1
      rw [hfn] at x0
      simp [encC] at x0
      have HFN := Aside0.mk hfn
      clear hfn
    all_goals
      go_enter Try.func19, Try.ntmps19
      go_wp2
      go_quiet (fail)
      have hk0 := HKF.out
      go_wp2_with fail
      refine (ps_table (HJ.out.ps.box _ nq) (HCB.out nq) hc hA hl HX.out rev (by omega) hrev.2).mono ?_
      rintro e w1 ⟨rfl, hP1, hS1⟩
      have hbel : Below w0.heap.size w0 w1 := hP1.choose_spec.2.2.2
      have hsz : w.heap.size ≤ w1.heap.size := by have := hS1.1; simp at this; omega
      have HXA1 := Aside0.mk ((HXA.out.drewN nq).same ⟨hS1.1, fun k hk hlt => hS1.2 k (.inl (.inl hk)) hlt⟩)
      have HC1 := Aside0.mk (C_args HC.out hA HJ.out.bel hbel hsz)
      have hbox : w1.heap[w.heap.size]? = _ := (hS1.2 w.heap.size (.inr rfl) (by simp)).trans (heap_alloc_new w _)
      have b1 := blk_cell hbox 1
      have b2 := blk_cell hbox 2
      simp at b1 b2
      have HP1 := Aside0.mk hP1
      have HFS := Aside0.mk ((Fr.box (w := w) (E := E) (X := X) (Y := Y) _ nq).trans (Fr.same hS1))
      clear hP1 hS1 hbox hbel hsz
      go_wp2_with fail
      refine (xtable_any HXA1.out ⟨HC1.out, hc, fun ad e h0 h => by have := hA ad e h0; have := HJ.out.xy; rcases h with h | h <;> omega, hl⟩ rev (by omega)).mono ?_
      rintro e w2 ⟨rfl, hX2, hK2⟩
      have HX2 := Aside0.mk hX2
      have HK2 := Aside0.mk hK2
      clear hX2 hK2
      go_wp2
      go_ret
      refine ⟨rfl, rev, tabF me rev xs f, ⟨(HP1.out.weaken (fun k h => .inl h)).kx HK2.out HJ.out.xy, ?_, ?_, ?_, HJ.out.xy⟩, HFS.out.kx HK2.out⟩
      · have := HX2.out
        rw [tab_both HJ.out.no HJ.out.out HX.out] at this
        exact this
      · unfold tabF tab1
        rw [HJ.out.no, if_neg (fun h => h.2.1 rfl)]; rfl
      · intro k p hp
        unfold tabF tab1 at hp
        cases hf : f k with
        | none =>
          rw [hf] at hp
          by_cases hcnd : k ∈ xs ∧ k ≠ me ∧ (none : Option Pe) = none
          · rw [if_pos hcnd] at hp
            simp only [Option.bind_some, updP] at hp
            split at hp
            · cases hp
            · cases hp; exact Int.le_refl _
          · rw [if_neg hcnd] at hp; cases hp
        | some q =>
          rw [hf, if_neg (fun h => by simp at h)] at hp
          simp only [Option.bind_some, updP] at hp
          split at hp
          · cases hp
          · cases hp; exact HJ.out.nn k q hf
end Go.Proofs.Ytfaipapaiobgcaa.M
