/- One call of both, any kind; the script's calls in memory. -/
import Derived.Test.YtfaipapaiobgcaaPrimD4
import Derived.Test.YtfaipapaiobgcaaPrimD2
namespace Go.Proofs.Ytfaipapaiobgcaa.PPrimPlays
open Go.RowKit Go.Proofs.YtfaipapaiobgcaaW.PrintWords Go.Proofs.YtfaipapaiobgcaaW.PrintLast Go.Proofs.YtfaipapaiobgcaaW.PrintMore
structure S42 where
  f0 : Int
  f1 : Int
  f2 : List Int
  f3 : Int
  f4 : Int
def z42 : S42 := ⟨0, 0, [], 0, 0⟩
def k42 : Kd S42 := Kd.iso (Kd.pair (Kd.int .u8) (Kd.pair (Kd.int .u64) (Kd.pair (Kd.slice 3 (Kd.int .i64)) (Kd.pair (Kd.int .i64) (Kd.int .i64))))) (fun x : S42 => (x.f0, x.f1, x.f2, x.f3, x.f4))
end Go.Proofs.Ytfaipapaiobgcaa.PPrimPlays
namespace Go.Proofs.Ytfaipapaiobgcaa.M
open Go.RowKit Go.Maps Go.ChangeMaps Go.Proofs.YtfaipapaiobgcaaW.PrintWords Go.Proofs.YtfaipapaiobgcaaW.PrintLast Go.Proofs.YtfaipapaiobgcaaW.PrintMore Go.Proofs.Ytfaipapaiobgcaa.PPrimPlays
set_option linter.unusedVariables false
set_option linter.unusedSimpArgs false
theorem act_at {w : World} {A : Option Addr} {n : Nat} {xs : List S42} (h : Kd.C k42 w A n xs) (i : Nat) (hi : i < xs.length) (z : S42) (hz : xs[i] = z) : ∃ ad A1 c1, A = some ad ∧ w.cell? (ad.add (i * 5)) = some (.int .u8 z.f0) ∧
    w.cell? ⟨(ad.add (i * 5)).block, (ad.add (i * 5)).off + 1, none⟩ = some (.int .u64 z.f1) ∧ w.cell? ⟨(ad.add (i * 5)).block, (ad.add (i * 5)).off + 2, none⟩ = some (.slice A1 z.f2.length c1) ∧
    w.cell? ⟨(ad.add (i * 5)).block, (ad.add (i * 5)).off + 3, none⟩ = some (.int .i64 z.f3) ∧ w.cell? ⟨(ad.add (i * 5)).block, (ad.add (i * 5)).off + 4, none⟩ = some (.int .i64 z.f4) ∧
    z.f2.length ≤ c1 ∧ Kd.C (Kd.int .i64) w A1 z.f2.length z.f2 := by
  have hn : n = xs.length := (Kd.C_len h).symm
  subst hn
  obtain ⟨ad, c, e, _, hK, hc0⟩ := Kd.C_get h z42 (i : Int) (by omega) (by omega)
  have hg : xs.getD (i : Int).toNat z42 = z := by rw [Int.toNat_natCast, List.getD_eq_getElem?_getD, List.getElem?_eq_getElem hi, hz]; rfl
  rw [hg] at hK
  rw [Int.toNat_natCast] at hc0
  clear hg hz
  obtain ⟨_, _, rfl, rfl, ⟨_, _, rfl, rfl, ⟨_, _, rfl, ⟨A1, c1, rfl, hle, hC⟩, ⟨_, _, rfl, rfl, rfl⟩⟩⟩⟩ := hK
  have hs : k42.sz = 5 := rfl
  rw [hs] at hc0
  exact ⟨ad, A1, c1, e, hc0 0 _ rfl, by rw [← add_field _ _ 1 (by omega)]; exact hc0 1 _ rfl, by rw [← add_field _ _ 2 (by omega)]; exact hc0 2 _ rfl, by rw [← add_field _ _ 3 (by omega)]; exact hc0 3 _ rfl, by rw [← add_field _ _ 4 (by omega)]; exact hc0 4 _ rfl, hle, hC⟩
theorem bel_cell {w w1 : World} (h : Below w.heap.size w w1) {a : Addr} {v : Value} (hc : w.cell? a = some v) : w1.cell? a = some v := by
  have hl := World.block_lt_of_cell? w a hc
  have hb := h.block a.block hl
  unfold World.cell? at hc ⊢
  rw [hb]; exact hc
theorem act_in {w0 w : World} {A : Option Addr} {xs : List S42} (h : Kd.C k42 w0 A xs.length xs) (hb : Below w0.heap.size w0 w) (i : Nat) (hi : i < xs.length) (z : S42) (hz : xs[i] = z) : ∃ ad A1 c1, A = some ad ∧ w.cell? (ad.add (i * 5)) = some (.int .u8 z.f0) ∧
    w.cell? ⟨(ad.add (i * 5)).block, (ad.add (i * 5)).off + 1, none⟩ = some (.int .u64 z.f1) ∧ w.cell? ⟨(ad.add (i * 5)).block, (ad.add (i * 5)).off + 2, none⟩ = some (.slice A1 z.f2.length c1) ∧
    w.cell? ⟨(ad.add (i * 5)).block, (ad.add (i * 5)).off + 3, none⟩ = some (.int .i64 z.f3) ∧ w.cell? ⟨(ad.add (i * 5)).block, (ad.add (i * 5)).off + 4, none⟩ = some (.int .i64 z.f4) ∧
    z.f2.length ≤ c1 ∧ Kd.C (Kd.int .i64) w A1 z.f2.length z.f2 ∧ (∀ ad, A1 = some ad → 0 < z.f2.length → ad.block < w0.heap.size) ∧ ad.block < w0.heap.size := by
  obtain ⟨ad, A1, c1, e, h0, h1, h2, h3, h4, h5, h6⟩ := act_at h i hi z hz
  refine ⟨ad, A1, c1, e, bel_cell hb h0, bel_cell hb h1, bel_cell hb h2, bel_cell hb h3, bel_cell hb h4, h5, Kd.C_below h6 hb, ?_, ?_⟩
  · rintro ad2 rfl hp
    exact Kd.C_lt h6 hp (by decide)
  · subst e
    exact Kd.C_lt h (by omega) (by decide)
/-- within what Go's types bear -/
def okA (z : S42) : Prop := (Lit.int .u8 z.f0).wf = true ∧ (Lit.int .u64 z.f1).wf = true ∧ (z.f2.length * 8 ≤ 140737488351232 ∧ ∀ y ∈ z.f2, (Lit.int .i64 y).wf = true) ∧ (Lit.int .i64 z.f3).wf = true ∧ (Lit.int .i64 z.f4).wf = true
theorem wf_u8 {x : Int} (h : (Lit.int .u8 x).wf = true) : 0 ≤ x ∧ x ≤ 255 := by simp [Lit.wf, IntKind.min, IntKind.max, IntKind.signed, IntKind.bits] at h; omega
theorem wf_u64 {x : Int} (h : (Lit.int .u64 x).wf = true) : 0 ≤ x ∧ x ≤ 18446744073709551615 := by simp [Lit.wf, IntKind.min, IntKind.max, IntKind.signed, IntKind.bits] at h; omega
theorem wf_i64 {x : Int} (h : (Lit.int .i64 x).wf = true) : -9223372036854775808 ≤ x ∧ x ≤ 9223372036854775807 := by simp [Lit.wf, IntKind.min, IntKind.max, IntKind.signed, IntKind.bits] at h; omega
theorem fit_mem {xs : List Int} (h : fitB xs = true) : ∀ x ∈ xs, 0 ≤ x ∧ x ≤ 4 := fun x hx => of_decide_eq_true (List.all_eq_true.1 h x hx)
theorem do_any {E : Nat → Prop} {w0 w : World} {B X Y : Nat} {me tm rv : Int} {f : PF} (h : JS E w0 w B X Y me tm rv f) (z : S42) (A : Option Addr) (c : Nat) (hC : Kd.C (Kd.int .i64) w A z.f2.length z.f2) (hc : z.f2.length ≤ c) (hA : ∀ ad, A = some ad → 0 < z.f2.length → ad.block < w0.heap.size) (hx : fitB z.f2 = true) (hz : okA z) :
    Calls Try.prog 19 #[pt B, pt X, .agg #[.int .u8 z.f0, .int .u64 z.f1, .slice A z.f2.length c, .int .i64 z.f3, .int .i64 z.f4]] w fun e w' => e = .returned (.bool true) ∧ ∃ rv' f', JS E w0 w' B X Y me tm rv' f' ∧ Fr E X Y w w' := by
  obtain ⟨z0, z1, z2, z3, z4⟩ := hz
  have b0 := wf_u8 z0
  have b1 := wf_u64 z1
  have b3 := wf_i64 z3
  have b4 := wf_i64 z4
  have hm : z.f0 % 5 = 0 ∨ z.f0 % 5 = 1 ∨ z.f0 % 5 = 2 ∨ z.f0 % 5 = 3 ∨ z.f0 % 5 = 4 := by omega
  rcases hm with hm | hm | hm | hm | hm
  · exact do0 h z.f0 z.f1 z.f3 z.f4 A c z.f2 hC hc hA (by omega) (fit_mem hx) b0 b1 b3 b4 hm
  · exact do1 h z.f0 z.f1 z.f3 z.f4 A c z.f2 b0 b3 b4 hm
  · exact do2 h z.f0 z.f1 z.f3 z.f4 A c z.f2 b0 b3 b4 hm
  · exact do3 h z.f0 z.f1 z.f3 z.f4 A c z.f2 b0 b3 b4 hm
  · exact do4 h z.f0 z.f1 z.f3 z.f4 A c z.f2 b0 b3 b4 hm
/-- x is made beside p -/
theorem PS.add {w0 w w' : World} {B : Nat} {me tm rv : Int} {f : PF} (h : PS w0 (fun _ => False) w B me tm rv f) (hb : Below w.heap.size w w') {X Y : Nat} (hx : w.heap.size ≤ X ∧ X < w'.heap.size) (hy : w.heap.size ≤ Y ∧ Y < w'.heap.size) : PS w0 (fun k => k = X ∨ k = Y) w' B me tm rv f := by
  obtain ⟨S, a, b, c, d⟩ := h
  refine ⟨fun k => (S k ∧ k < w.heap.size) ∨ w'.heap.size ≤ k, ((a.lt).below hb).mono fun k hk => .inl hk, fun k hk => .inr hk, fun k hk => ?_, d.trans (hb.mono d.size)⟩
  rcases hk with ⟨h1, h2⟩ | h1
  · exact ⟨(c k h1).1, by omega⟩
  · have := d.size; have := hb.size
    exact ⟨by omega, by omega⟩
theorem tab_no {me rv : Int} {xs : List Int} {f : PF} (h : f me = none) : tabF me rv xs f me = none := by
  unfold tabF tab1
  rw [h, if_neg (fun h => h.2.1 rfl)]; rfl
theorem tab_nn {me rv : Int} {xs : List Int} {f : PF} (h : ∀ k p, f k = some p → 0 ≤ p.h) : ∀ k p, tabF me rv xs f k = some p → 0 ≤ p.h := by
  intro k p hp
  unfold tabF tab1 at hp
  cases hf : f k with
  | none =>
    rw [hf] at hp
    by_cases hcnd : k ∈ xs ∧ k ≠ me ∧ (none : Option Pe) = none
    · rw [if_pos hcnd] at hp
      simp only [Option.bind_some, updP] at hp
      split at hp
      · cases hp
      · cases hp; exact Int.le_refl _
    · rw [if_neg hcnd] at hp; cases hp
  | some q =>
    rw [hf, if_neg (fun h => by simp at h)] at hp
    simp only [Option.bind_some, updP] at hp
    split at hp
    · cases hp
    · cases hp; exact h k q hf
theorem sure_le (f : PF) : ∀ (l : List Int) (m : Int), sureF f l m ≤ max 0 m := by
  intro l
  induction l with
  | nil => intro m; exact Int.le_refl _
  | cons k l ih =>
    intro m
    show (match f k with | some p => if p.a = true then sureF f l (min m p.h) else 0 | none => 0) ≤ _
    cases f k with
    | none => dsimp only; omega
    | some p =>
      dsimp only
      split
      · have := ih (min m p.h); omega
      · omega
theorem sure_all (f : PF) : ∀ (l : List Int) (m : Int), 0 < sureF f l m → ∀ k ∈ l, ∀ p, f k = some p → p.a = true ∧ sureF f l m ≤ p.h := by
  intro l
  induction l with
  | nil => intro m _ k hk; cases hk
  | cons j l ih =>
    intro m hp k hk p hf
    have he : sureF f (j :: l) m = (match f j with | some p => if p.a = true then sureF f l (min m p.h) else 0 | none => 0) := rfl
    rw [he] at hp ⊢
    cases hj : f j with
    | none => rw [hj] at hp; simp at hp
    | some q =>
      simp only [hj] at hp
      dsimp only
      by_cases ha : q.a = true
      · rw [if_pos ha] at hp ⊢
        rcases List.mem_cons.1 hk with rfl | hk
        · rw [hj] at hf; cases hf
          have := sure_le f l (min m p.h)
          exact ⟨ha, by omega⟩
        · exact ih _ hp k hk p hf
      · rw [if_neg ha] at hp; simp at hp
theorem sure_safe (f : PF) (n : Int) (k : Nat) (hk : k < 5) (p : Pe) (hf : f (k : Int) = some p) (hn : p.i = true ∨ p.o = true) (hp : 0 < sureV f n) : p.a = true ∧ sureV f n ≤ p.h := by
  refine sure_all f _ n hp (k : Int) ?_ p hf
  rw [← pk_needs]
  refine List.mem_filter.2 ⟨(mem_nodes _).2 (by omega), ?_⟩
  rw [hf]
  rcases hn with h | h <;> simp [pickB, h]
end Go.Proofs.Ytfaipapaiobgcaa.M
