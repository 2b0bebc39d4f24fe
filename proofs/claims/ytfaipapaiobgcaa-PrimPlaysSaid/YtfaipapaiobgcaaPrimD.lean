/- The first copy's knowledge: what the table says. -/
import Derived.Test.YtfaipapaiobgcaaPrimC
import Derived.Test.YtfaipapaiobgcaaPPrimPlaysx1
namespace Go.Proofs.Ytfaipapaiobgcaa.M
open Go.RowKit Go.Maps Go.ChangeMaps Go.Proofs.YtfaipapaiobgcaaW.PrintWords Go.Proofs.YtfaipapaiobgcaaW.PrintLast Go.Proofs.YtfaipapaiobgcaaW.PrintMore Go.Proofs.Ytfaipapaiobgcaa.PPrimPlays
set_option linter.unusedVariables false
set_option linter.unusedSimpArgs false
theorem index_loop (xs : List Int) (y : Int) (hl : xs.length ≤ 140737488351232) : ∀ (d i : Nat), xs.length - i = d → i ≤ xs.length → ∃ z, slices_Index_int_int.l0 (d + 1) xs y (xs.length : Int) (i : Int) = some z ∧ (0 ≤ z ↔ y ∈ xs.drop i) := by
  intro d
  induction d with
  | zero =>
    intro i hd hi
    refine ⟨-1, ?_, ?_⟩
    · simp only [slices_Index_int_int.l0]; rw [if_neg (by omega)]
    · rw [List.drop_of_length_le (by omega)]; simp
  | succ d ih =>
    intro i hd hi
    have hlt : i < xs.length := by omega
    have e : wrap64 ((i : Int) + 1) = ((i + 1 : Nat) : Int) := by unfold wrap64; omega
    have hr : Go.Proofs.YtfaipapaiobgcaaW.PrintWords.rd xs (i : Int) = xs[i] := by unfold Go.Proofs.YtfaipapaiobgcaaW.PrintWords.rd; rw [Int.toNat_natCast, List.getD_eq_getElem?_getD, List.getElem?_eq_getElem hlt]; rfl
    rw [List.drop_eq_getElem_cons hlt]
    simp only [slices_Index_int_int.l0]
    rw [if_pos (by clear e; omega), if_pos (by clear e; omega), if_pos (by clear e; omega), hr]
    by_cases hy : y = xs[i]
    · rw [if_pos hy]; exact ⟨_, rfl, ⟨fun _ => List.mem_cons.2 (.inl hy), fun _ => by clear e; omega⟩⟩
    · rw [if_neg hy, e]
      obtain ⟨z, h1, h2⟩ := ih (i + 1) (by clear e; omega) (by clear e; omega)
      exact ⟨z, h1, h2.trans ⟨fun h => List.mem_cons.2 (.inr h), fun h => (List.mem_cons.1 h).resolve_left hy⟩⟩
theorem contains_loop (xs : List Int) (y : Int) (hl : xs.length ≤ 140737488351232) : ∃ k, slices_Contains_int_int.f k xs y = some (decide (y ∈ xs)) := by
  obtain ⟨z, h1, h2⟩ := index_loop xs y hl xs.length 0 (by omega) (by omega)
  refine ⟨xs.length + 1, ?_⟩
  unfold slices_Contains_int_int.f slices_Index_int_int.f
  have h1' : slices_Index_int_int.l0 (xs.length + 1) xs y (xs.length : Int) 0 = some z := h1
  rw [h1', Option.bind_some]
  congr 1
  rw [List.drop_zero] at h2
  by_cases h : y ∈ xs
  · rw [decide_eq_true h]; exact decide_eq_true (h2.2 h)
  · rw [decide_eq_false h]; exact decide_eq_false (fun e => h (h2.1 e))
theorem fm_congr {α β : Type} {f g : α → Option β} : ∀ {l : List α}, (∀ x ∈ l, f x = g x) → l.filterMap f = l.filterMap g
  | [], _ => rfl
  | a :: r, h => by
    rw [List.filterMap_cons, List.filterMap_cons, h a (by simp), fm_congr (l := r) (fun x hx => h x (by simp [hx]))]
/-! ### the plain state: what is known of a key -/
def st (L : List En) (k : Int) : Option Pe := (find L k).map En.p
def updP (xs : List Int) (rv k : Int) (p : Pe) : Option Pe := if p.i = true ∧ k ∉ xs then none else some { p with i := decide (k ∈ xs), o := p.o && !decide (k ∈ xs) && (p.t == rv) }
def upd (xs : List Int) (rv : Int) (x : En) : Option En := (updP xs rv x.k x.p).map fun p => { x with p := p }
def stepE (xs : List Int) (rv : Int) (seen : Array Nat) (x : En) : Option En := if seen.contains x.n then upd xs rv x else some x
theorem upd_same {xs : List Int} {rv : Int} {x y : En} (h : upd xs rv x = some y) : y.k = x.k ∧ y.b = x.b ∧ y.n = x.n := by
  unfold upd at h
  cases hp : updP xs rv x.k x.p with
  | none => rw [hp] at h; cases h
  | some p => rw [hp] at h; cases h; exact ⟨rfl, rfl, rfl⟩
theorem step_same {xs : List Int} {rv : Int} {seen : Array Nat} {x y : En} (h : stepE xs rv seen x = some y) : y.k = x.k ∧ y.b = x.b ∧ y.n = x.n := by
  unfold stepE at h
  split at h
  · exact upd_same h
  · cases h; exact ⟨rfl, rfl, rfl⟩
theorem step_none {L : List En} {xs : List Int} {rv : Int} {seen : Array Nat} {y : En} (hk : (L.map En.k).Nodup) (hn : (L.map En.n).Nodup) (hy : y ∈ L) (hs : seen.contains y.n = false) (hu : upd xs rv y = none) :
    L.filterMap (stepE xs rv (seen.push y.n)) = (L.filterMap (stepE xs rv seen)).filter fun z => z.k != y.k := by
  rw [List.filter_filterMap]
  apply fm_congr
  intro x hx
  by_cases he : x = y
  · subst he
    unfold stepE
    rw [hs, contains_push, hs]
    simp [hu, Option.filter]
  · have h1 : x.n ≠ y.n := fun e => he (nodup_inj hn hx hy e)
    have h2 : x.k ≠ y.k := fun e => he (nodup_inj hk hx hy e)
    unfold stepE
    rw [contains_push, show (x.n == y.n) = false by simpa using h1, Bool.or_false]
    split
    · cases hq : upd xs rv x with
      | none => rfl
      | some z => simp [Option.filter, (upd_same hq).1, h2]
    · simp [Option.filter, h2]
theorem step_some {L : List En} {xs : List Int} {rv : Int} {seen : Array Nat} {y : En} {p : Pe} (hk : (L.map En.k).Nodup) (hn : (L.map En.n).Nodup) (hy : y ∈ L) (hs : seen.contains y.n = false) (hu : upd xs rv y = some { y with p := p }) :
    L.filterMap (stepE xs rv (seen.push y.n)) = setE (L.filterMap (stepE xs rv seen)) y.k p := by
  unfold setE
  rw [List.map_filterMap]
  apply fm_congr
  intro x hx
  by_cases he : x = y
  · subst he
    unfold stepE
    rw [hs, contains_push, hs]
    simp [hu]
  · have h1 : x.n ≠ y.n := fun e => he (nodup_inj hn hx hy e)
    have h2 : x.k ≠ y.k := fun e => he (nodup_inj hk hx hy e)
    unfold stepE
    rw [contains_push, show (x.n == y.n) = false by simpa using h1, Bool.or_false]
    split
    · cases hq : upd xs rv x with
      | none => rfl
      | some z => simp [(upd_same hq).1, h2]
    · simp [h2]
theorem PrimAt.del {w : World} {S : Nat → Prop} {B M cl : Nat} {me tm rv : Int} {L : List En} (h : PrimAt w S B M cl me tm rv L) (k : Int) :
    PrimAt (setBlock w M (.map ((L.filter fun y => y.k != k).map En.me).toArray cl)) S B M cl me tm rv (L.filter fun y => y.k != k) := by
  have old : ∀ j, j ≠ M → (setBlock w M (.map ((L.filter fun y => y.k != k).map En.me).toArray cl)).heap[j]? = w.heap[j]? := fun j hj => heap_setBlock _ _ _ hj
  have sub : ∀ x ∈ L.filter (fun y => y.k != k), x ∈ L := fun x hx => (List.mem_filter.1 hx).1
  have sl : (L.filter fun y => y.k != k).Sublist L := List.filter_sublist
  exact ⟨(old B h.neBM).trans h.hd, ⟨heap_setBlock_same _ _ _ (blk_lt h.mp.blk), h.mp.kd.sublist (sl.map _), fun x hx => h.mp.kw x (sub x hx), h.mp.bd.sublist (sl.map _), fun x hx => h.mp.bl x (sub x hx)⟩,
    fun x hx => (old x.b (h.neM (sub x hx))).trans (h.pe x (sub x hx)), h.nd.sublist (sl.map _), h.sB, h.sM, fun x hx => h.sb x (sub x hx), h.tw, fun x hx => h.hw x (sub x hx)⟩
theorem PrimAt.rev {w : World} {S : Nat → Prop} {B M cl : Nat} {me tm rv : Int} {L : List En} (h : PrimAt w S B M cl me tm rv L) (rv' : Int) (hr : 0 ≤ rv' ∧ rv' ≤ 18446744073709551615) :
    PrimAt (w.setCell ⟨B, 2, none⟩ (.int .u64 rv')) S B M cl me tm rv' L := by
  have old : ∀ j, j ≠ B → (w.setCell ⟨B, 2, none⟩ (.int .u64 rv')).heap[j]? = w.heap[j]? := fun j hj => Below.heap_setCell w _ _ j hj
  exact ⟨blk_put h.hd 2 _ rfl, ⟨(old M h.neBM.symm).trans h.mp.blk, h.mp.kd, h.mp.kw, h.mp.bd, h.mp.bl⟩, fun x hx => (old x.b (h.neB hx)).trans (h.pe x hx), h.nd, h.sB, h.sM, h.sb, hr, h.hw⟩
theorem st_add {L : List En} {k : Int} {b n : Nat} (hf : find L k = none) (j : Int) : st (addE L k b n) j = if j = k then some zeroPe else st L j := by
  unfold st find addE at *
  rw [List.find?_append]
  by_cases hj : j = k
  · subst hj
    rw [hf, if_pos rfl]; simp
  · rw [if_neg hj]
    have : ([⟨k, b, n, zeroPe⟩] : List En).find? (fun x => x.k == j) = none := by simp [Ne.symm hj]
    rw [this]; simp
def tab1 (me : Int) (xs : List Int) (f : Int → Option Pe) (k : Int) : Option Pe := if k ∈ xs ∧ k ≠ me ∧ f k = none then some zeroPe else f k
theorem tab1_snoc (me : Int) (xs : List Int) (x : Int) (f : Int → Option Pe) (k : Int) : tab1 me (xs ++ [x]) f k = if k = x ∧ k ≠ me ∧ tab1 me xs f k = none then some zeroPe else tab1 me xs f k := by
  unfold tab1
  by_cases h1 : k ∈ xs <;> by_cases h2 : k = x <;> by_cases h3 : k = me <;> by_cases h4 : f k = none <;> simp [h1, h2, h3, h4] <;> simp_all
/-- a slice of whole numbers that lies outside S -/
structure IntsAt (w : World) (S : Nat → Prop) (A : Option Addr) (c : Nat) (xs : List Int) : Prop where
  rd : Kd.C (Kd.int .i64) w A xs.length xs
  cap : xs.length ≤ c
  out : ∀ ad, A = some ad → 0 < xs.length → ¬ S ad.block
  len : xs.length ≤ 140737488351232
theorem IntsAt.cell {w : World} {S : Nat → Prop} {A : Option Addr} {c : Nat} {xs : List Int} (h : IntsAt w S A c xs) (i : Nat) (hi : i < xs.length) : ∃ ad, A = some ad ∧ w.cell? (ad.add i) = some (.int .i64 xs[i]) := by
  obtain ⟨ad, e, hc⟩ := Kd.at_int h.rd (i : Int) (by omega) (by omega)
  refine ⟨ad, e, ?_⟩
  rw [Int.toNat_natCast] at hc
  rw [hc]
  unfold Go.Proofs.YtfaipapaiobgcaaW.PrintWords.rd
  rw [Int.toNat_natCast, List.getD_eq_getElem?_getD, List.getElem?_eq_getElem hi]; rfl
theorem IntsAt.kp {w w' : World} {S : Nat → Prop} {A : Option Addr} {c : Nat} {xs : List Int} (h : IntsAt w S A c xs) (hk : Kp S w w') : IntsAt w' S A c xs := by
  exact ⟨Kd.C_foot_neS (S := S) (fun h => h) h.rd (fun ad e h0 => h.out ad e h0) w' ⟨hk.size, hk.block⟩, h.cap, h.out, h.len⟩
theorem PrimAt.iter {w : World} {S : Nat → Prop} {B M cl : Nat} {me tm rv : Int} {L : List En} (h : PrimAt w S B M cl me tm rv L) {r : Nat} {m : Option Nat} {a c : Nat} {b : Array Nat} (hr : w.heap[r]? = some (.mapIter m a b c)) (o : Obj) : PrimAt (setBlock w r o) S B M cl me tm rv L := by
  have n1 : B ≠ r := fun e => by have := h.hd; rw [e, hr] at this; cases this
  have n2 : M ≠ r := fun e => by have := h.mp.blk; rw [e, hr] at this; cases this
  have n3 : ∀ x ∈ L, x.b ≠ r := fun x hx e => by have := h.pe x hx; rw [e, hr] at this; cases this
  exact ⟨(heap_setBlock _ _ _ n1).trans h.hd, ⟨(heap_setBlock _ _ _ n2).trans h.mp.blk, h.mp.kd, h.mp.kw, h.mp.bd, h.mp.bl⟩, fun x hx => (heap_setBlock _ _ _ (n3 x hx)).trans (h.pe x hx), h.nd, h.sB, h.sM, h.sb, h.tw, h.hw⟩
theorem PrimAt.drewN {w : World} {S : Nat → Prop} {B M cl : Nat} {me tm rv : Int} {L : List En} (h : PrimAt w S B M cl me tm rv L) (n : Nat) : PrimAt (w.drewN n) S B M cl me tm rv L := h.old fun _ _ _ => rfl
theorem PrimAt.alloc {w : World} {S : Nat → Prop} {B M cl : Nat} {me tm rv : Int} {L : List En} (h : PrimAt w S B M cl me tm rv L) (o : Obj) : PrimAt (w.alloc o) S B M cl me tm rv L := h.old fun k _ hk => Below.heap_alloc w o k hk
theorem st_none {L : List En} {k : Int} : st L k = none ↔ find L k = none := by unfold st; cases find L k <;> simp
theorem st_fm {L : List En} (hd : (L.map En.k).Nodup) (xs : List Int) (rv k : Int) : st (L.filterMap (upd xs rv)) k = (st L k).bind (updP xs rv k) := by
  induction L with
  | nil => rfl
  | cons x r ih =>
    rw [List.map_cons, List.nodup_cons] at hd
    have ih := ih hd.2
    unfold st find at *
    rw [List.filterMap_cons, List.find?_cons]
    by_cases hk : x.k = k
    · have hn : (r.filterMap (upd xs rv)).find? (fun x => x.k == k) = none := by
        rw [List.find?_eq_none]
        intro z hz
        obtain ⟨y, hy, hu⟩ := List.mem_filterMap.1 hz
        simp only [beq_iff_eq]
        intro e
        exact hd.1 (List.mem_map.2 ⟨y, hy, by rw [← (upd_same hu).1, e, hk]⟩)
      rw [show (x.k == k) = true by simpa using hk]
      cases hu : upd xs rv x with
      | none =>
        simp only [Option.map_some, Option.bind_some]
        rw [hn]
        unfold upd at hu
        rw [hk] at hu
        cases hp : updP xs rv k x.p with
        | none => rfl
        | some p => rw [hp] at hu; cases hu
      | some z =>
        have hz := (upd_same hu).1
        simp only [Option.map_some, Option.bind_some]
        rw [List.find?_cons, show (z.k == k) = true by rw [hz]; simpa using hk]
        unfold upd at hu
        rw [hk] at hu
        cases hp : updP xs rv k x.p with
        | none => rw [hp] at hu; cases hu
        | some p => rw [hp] at hu; cases hu; rfl
    · rw [show (x.k == k) = false by simpa using hk]
      cases hu : upd xs rv x with
      | none => exact ih
      | some z =>
        dsimp only
        rw [List.find?_cons, show (z.k == k) = false by rw [(upd_same hu).1]; simpa using hk]
        exact ih
theorem fm_mem {L : List En} {xs : List Int} {rv : Int} {seen : Array Nat} {y : En} (h : y ∈ L.filterMap (stepE xs rv seen)) (hs : seen.contains y.n = false) : y ∈ L := by
  obtain ⟨x, hx, hu⟩ := List.mem_filterMap.1 h
  have hn := (step_same hu).2.2
  unfold stepE at hu
  rw [← hn, hs] at hu
  have : x = y := by simpa using hu
  exact this ▸ hx
theorem fm_done {L : List En} {xs : List Int} {rv : Int} {seen : Array Nat} (h : ∀ x ∈ L.filterMap (stepE xs rv seen), seen.contains x.n = true) : L.filterMap (stepE xs rv seen) = L.filterMap (upd xs rv) := by
  apply fm_congr
  intro x hx
  cases hs : seen.contains x.n with
  | true => unfold stepE; rw [if_pos hs]
  | false =>
    have : stepE xs rv seen x = some x := by unfold stepE; rw [if_neg (by rw [hs]; decide)]
    have := h x (List.mem_filterMap.2 ⟨x, hx, this⟩)
    rw [hs] at this; cases this
def seenOf (w : World) (r : Nat) : Array Nat := match w.heap[r]? with | some (.mapIter _ _ s _) => s | _ => #[]
theorem seenOf_of {w : World} {r : Nat} {m : Option Nat} {a c : Nat} {s : Array Nat} (h : w.heap[r]? = some (.mapIter m a s c)) : seenOf w r = s := by unfold seenOf; rw [h]
def unseen (L : List En) (s : Array Nat) : Nat := (L.filter fun x => !s.contains x.n).length
theorem unseen_lt {L : List En} {s : Array Nat} {y : En} (hy : y ∈ L) (hs : s.contains y.n = false) : unseen L (s.push y.n) < unseen L s := by
  refine filter_lt (fun x : En => !s.contains x.n) (fun x => !(s.push y.n).contains x.n) (fun x hx => ?_) y ?_ ?_ L hy
  · rw [contains_push] at hx
    cases h : s.contains x.n with
    | false => rfl
    | true => rw [h] at hx; simp at hx
  · simp only [hs, Bool.not_false]
  · simp only [contains_push, beq_self_eq_true, Bool.or_true, Bool.not_true]
theorem PrimAt.drew {w : World} {S : Nat → Prop} {B M cl : Nat} {me tm rv : Int} {L : List En} (h : PrimAt w S B M cl me tm rv L) : PrimAt w.drew S B M cl me tm rv L := h.old fun _ _ _ => rfl
/-- a step of the range: nothing is left, or an entry has come -/
theorem step_next {w : World} {S : Nat → Prop} {B M cl r : Nat} {me tm rv : Int} {L : List En} {seen : Array Nat} (hP : PrimAt w S B M cl me tm rv L) (hr : w.heap[r]? = some (.mapIter (some M) cl seen cl)) :
    ((∀ x ∈ L, seen.contains x.n = true) ∧ (Instr.next (pt r) false 0).run Try.prog w = .ok (.tuple #[.bool false]) w) ∨
    ∃ y ∈ L, seen.contains y.n = false ∧ ∃ w1, (Instr.next (pt r) false 0).run Try.prog w = .ok (.tuple #[.bool true, .int .i64 y.k, pt y.b]) w1 ∧ (Instr.entry (pt r)).run Try.prog w1 = .ok (.tuple #[.int .i64 y.k, pt y.b]) w1 ∧
      PrimAt w1 S B M cl me tm rv L ∧ w1.heap[r]? = some (.mapIter (some M) cl (seen.push y.n) cl) ∧ Kp (fun k => k = r) w w1 := by
  have hold : ∀ x ∈ ((L.map En.me).toArray).toList, x.born < cl := by
    intro e he
    obtain ⟨x, hx, rfl⟩ := List.mem_map.1 (by simpa using he)
    exact hP.mp.bl x hx
  rcases run_next_at (P := Try.prog) w 0 r M cl cl seen _ cl hr hP.mp.blk hold (Nat.le_refl _) with ⟨h0, hn⟩ | ⟨e, he, w1, hw1, hn⟩
  · refine .inl ⟨fun x hx => ?_, hn⟩
    exact all_seen _ _ h0 (En.me x) (by simpa using ⟨x, hx, rfl⟩)
  · obtain ⟨m1, m2⟩ := mem_left he
    obtain ⟨y, hy, rfl⟩ := List.mem_map.1 (show e ∈ L.map En.me by simpa using m1)
    have hP1 : PrimAt w1 S B M cl me tm rv L := by rcases hw1 with rfl | rfl; exact hP; exact hP.drew
    have hr1 : w1.heap[r]? = some (.mapIter (some M) cl seen cl) := by rcases hw1 with rfl | rfl; exact hr; exact hr
    have hK1 : Kp (fun k => k = r) w w1 := by rcases hw1 with rfl | rfl; exact Kp.refl _ _; exact (Kp.refl _ _).drew
    have hrl : r < w1.heap.size := blk_lt hr1
    refine .inr ⟨y, hy, m2, _, hn, ?_, hP1.iter hr1 _, heap_setBlock_same _ _ _ hrl, hK1.setBlock rfl _⟩
    refine run_entry_at _ r M cl seen (L.map En.me).toArray cl (En.me y) (heap_setBlock_same _ _ _ hrl) (hP1.iter hr1 _).mp.blk (by simpa using ⟨y, hy, rfl⟩) ?_
    show ((L.map En.me).map (·.born)).Nodup
    rw [List.map_map]
    exact hP.mp.bd
def TabR (w : World) (S : Nat → Prop) (B M : Nat) (me tm rv' : Int) (f : Int → Option Pe) (wr : World) : Prop :=
  ∃ cl' L', PrimAt wr S B M cl' me tm rv' L' ∧ Kp S w wr ∧ ∀ k, st L' k = f k
set_option maxHeartbeats 4000000 in
theorem table_any {w : World} {S : Nat → Prop} {B M cl : Nat} {me tm rv : Int} {L : List En} (hP : PrimAt w S B M cl me tm rv L) (hS : ∀ k, w.heap.size ≤ k → S k) {A : Option Addr} {c : Nat} {xs : List Int} (hI : IntsAt w S A c xs)
    (hx : ∀ x ∈ xs, 0 ≤ x ∧ x ≤ 4) (rv' : Int) (hr : rv ≤ rv') (hr2 : rv' ≤ 18446744073709551615) :
    Calls Try.prog 13 #[pt B, .int .u64 rv', .slice A xs.length c] w fun e w' => e = .returned (.tuple #[]) ∧ TabR w S B M me tm rv' (fun k => (tab1 me xs (st L) k).bind (updP xs rv' k)) w' := by
  have c0 : w.cell? ⟨B, 0, none⟩ = some (.int .i64 me) := blk_cell hP.hd 0
  have c2 : w.cell? ⟨B, 2, none⟩ = some (.int .u64 rv) := blk_cell hP.hd 2
  have c3 : w.cell? ⟨B, 3, none⟩ = some (.map (some M)) := blk_cell hP.hd 3
  have f2 : w.frozen? ⟨B, 2, none⟩ = false := blk_frozen hP.hd 2
  have e0 : decide (rv' < rv) = false := decide_eq_false (by omega)
  have hlen := hI.len
  have hw0 := hP.tw
  have HP0 := Aside0.mk (hP.rev rv' ⟨by omega, hr2⟩)
  have HK0 := Aside0.mk ((Kp.refl S w).setCell (p := ⟨B, 2, none⟩) hP.sB (.int .u64 rv'))
  have HI := Aside0.mk hI
  have HX := Aside0.mk hx
  have HS := Aside0.mk hS
  clear hP hI hx hS
  go_enter Try.func13, Try.ntmps13
  go_wp2
  clear c0 c2 c3 f2 e0
  go_loopw [27] (fun i wr => ∃ j : Nat, i = .int .i64 j ∧ j ≤ xs.length ∧ Aside0 (TabR w S B M me tm rv' (tab1 me (xs.take j) (st L)) wr)) (fun i _ => xs.length - (intOf i).toNat)
  case atStart => exact ⟨0, rfl, Nat.zero_le _, ⟨_, _, HP0.out, HK0.out, fun k => by simp [tab1]⟩⟩
  case round =>
    obtain ⟨j, rfl, hj, HR⟩ := hrel
    obtain ⟨cl1, L1, hP1, hK1, hst⟩ := HR.out
    by_cases hlt : j < xs.length
    · obtain ⟨ad, rfl, hc⟩ := (HI.out.kp hK1).cell j hlt
      have d0 : wr.cell? ⟨B, 0, none⟩ = some (.int .i64 me) := blk_cell hP1.hd 0
      have d3 : wr.cell? ⟨B, 3, none⟩ = some (.map (some M)) := blk_cell hP1.hd 3
      have hy := HX.out xs[j] (List.getElem_mem hlt)
      have htk : xs.take (j + 1) = xs.take j ++ [xs[j]] := by rw [List.take_succ_eq_append_getElem hlt]
      have HT := Aside0.mk htk
      clear htk
      generalize xs[j] = y at hc hy HT
      have hbase : w.heap.size ≤ wr.heap.size := hK1.size
      by_cases hme : y = me
      · have q1 : (y == me) = true := by simp [hme]
        have q2 : (y != me) = false := by simp [hme]
        have HM := Aside0.mk hme
        clear hme
        have HP1 := Aside0.mk hP1
        have HK1 := Aside0.mk hK1
        have HST := Aside0.mk hst
        clear hP1 hK1 hst
        go_wp2
        go_roundw
        case rel =>
          refine ⟨j + 1, by go_num, by omega, ⟨_, _, HP1.out, HK1.out, fun k => ?_⟩⟩
          rw [HT.out, tab1_snoc, ← HST.out k]
          rw [if_neg]
          rintro ⟨h1, h2, _⟩
          exact h2 (h1.trans HM.out)
        case measure => simp [intOf]; omega
      · have q1 : (y == me) = false := by simpa using hme
        have q2 : (y != me) = true := by simpa using hme
        have hl := look hP1.mp (wf_key hy)
        have HM := Aside0.mk hme
        clear hme
        cases hf : find L1 y with
        | some z =>
          rw [hf] at hl
          simp only [ptr] at hl
          have HF := Aside0.mk (show st L1 y ≠ none by rw [ne_eq, st_none, hf]; simp)
          clear hf
          have HP1 := Aside0.mk hP1
          have HK1 := Aside0.mk hK1
          have HST := Aside0.mk hst
          clear hP1 hK1 hst
          go_wp2
          go_roundw
          case rel =>
            refine ⟨j + 1, by go_num, by omega, ⟨_, _, HP1.out, HK1.out, fun k => ?_⟩⟩
            rw [HT.out, tab1_snoc, ← HST.out k]
            rw [if_neg]
            rintro ⟨h1, _, h3⟩
            exact HF.out (h1 ▸ h3)
          case measure => simp [intOf]; omega
        | none =>
          rw [hf] at hl
          simp only [ptr] at hl
          have hu := update (hP1.mp.alloc (.cells zeroPe.cs 62 (0, 0))) (wf_key hy) hf wr.heap.size zeroPe
          have HA := Aside0.mk (hP1.add (fun k hk => HS.out k (by omega)) hy hf)
          have hO : Obj.map ((L1 ++ ([⟨y, wr.heap.size, cl1, zeroPe⟩] : List En)).map En.me).toArray (cl1 + 1) = Obj.map ((addE L1 y wr.heap.size cl1).map En.me).toArray (cl1 + 1) := rfl
          rw [hO] at hu
          clear hO
          generalize Obj.map ((addE L1 y wr.heap.size cl1).map En.me).toArray (cl1 + 1) = O at hu HA
          simp only [zeroPe, Pe.cs] at hu HA
          have HSA := Aside0.mk (fun k => st_add (b := wr.heap.size) (n := cl1) hf k)
          have HF := Aside0.mk (st_none.2 hf)
          clear hf
          have HM2 := Aside0.mk hP1.sM
          have HK1 := Aside0.mk hK1
          have HST := Aside0.mk hst
          clear hP1 hK1 hst
          go_wp2
          go_roundw
          case rel =>
            refine ⟨j + 1, by go_num, by omega, ⟨_, _, HA.out, (HK1.out.alloc _).setBlock HM2.out _, fun k => ?_⟩⟩
            rw [HT.out, tab1_snoc, HSA.out k, ← HST.out k]
            by_cases hk : k = y
            · rw [if_pos hk, if_pos ⟨hk, fun e => HM.out (hk.symm.trans e), by rw [hk]; exact HF.out⟩]
            · rw [if_neg hk, if_neg (fun h => hk h.1)]
          case measure => simp [intOf]; omega
    · rename World => wo
      have hjl : j = xs.length := by omega
      have d3 : wo.cell? ⟨B, 3, none⟩ = some (.map (some M)) := blk_cell hP1.hd 3
      have hrg := run_range_map (P := Try.prog) wo 57 3 60 M _ _ Try.underlying57 hP1.mp.blk
      have HJ := Aside0.mk hjl
      clear hjl
      have HP1 := Aside0.mk hP1
      have HK1 := Aside0.mk hK1
      have HST := Aside0.mk hst
      clear hP1 hK1 hst
      go_wp2
      have HSr : Aside0 (S wo.heap.size) := ⟨HS.out _ HK1.out.size⟩
      go_loopw [8] (fun _ wq => ∃ seen : Array Nat, Aside0 (PrimAt wq S B M cl1 me tm rv' (L1.filterMap (stepE xs rv' seen))) ∧ Aside0 (wq.heap[wo.heap.size]? = some (.mapIter (some M) cl1 seen cl1)) ∧ Aside0 (Kp S w wq)) (fun _ wq => unseen L1 (seenOf wq wo.heap.size))
      case atStart =>
        refine ⟨#[], ⟨?_⟩, ⟨heap_alloc_new wo _⟩, ⟨HK1.out.alloc _⟩⟩
        have e : L1.filterMap (stepE xs rv' #[]) = L1 := by
          rw [fm_congr (g := some) (fun x _ => by simp [stepE])]; simp
        rw [e]; exact HP1.out.alloc _
      case round =>
        obtain ⟨seen, HPq, HIq, HKq⟩ := hrel
        rcases step_next HPq.out HIq.out with ⟨hall, hn⟩ | ⟨y, hy, hs, w1, hn, hen, hPn, hrn, hKn0⟩
        · have HA := Aside0.mk hall
          clear hall
          go_wp2
          go_end0
          refine ⟨rfl, cl1, _, HPq.out, HKq.out, fun k => ?_⟩
          rw [fm_done HA.out, st_fm HP1.out.mp.kd, HST.out k, HJ.out, List.take_length]
        · have hKn := hKn0.mono (S' := S) (fun k hk => hk ▸ HSr.out)
          clear hKn0
          have hIw := HI.out.kp (HKq.out.trans hKn)
          obtain ⟨kk, hct⟩ := contains_loop xs y.k hlen
          have p0 : w1.cell? ⟨y.b, 0, none⟩ = some (.bool y.p.i) := blk_cell (hPn.pe y hy) 0
          have p1 : w1.cell? ⟨y.b, 1, none⟩ = some (.bool y.p.o) := blk_cell (hPn.pe y hy) 1
          have p2 : w1.cell? ⟨y.b, 2, none⟩ = some (.int .u64 y.p.t) := blk_cell (hPn.pe y hy) 2
          have q0 : w1.frozen? ⟨y.b, 0, none⟩ = false := blk_frozen (hPn.pe y hy) 0
          have q1 : w1.frozen? ⟨y.b, 1, none⟩ = false := blk_frozen (hPn.pe y hy) 1
          have d3 : w1.cell? ⟨B, 3, none⟩ = some (.map (some M)) := blk_cell hPn.hd 3
          have hy1 := fm_mem hy hs
          have hst := fun n => strike (hPn.mp.drewN n) hy 0
          have HPN := Aside0.mk hPn
          have HRN := Aside0.mk hrn
          have HKN := Aside0.mk (HKq.out.trans hKn)
          have HY := Aside0.mk hy
          have HY1 := Aside0.mk hy1
          have HSS := Aside0.mk hs
          have HIW := Aside0.mk hIw
          have HCT := Aside0.mk hct
          have hsb := HPN.out.sb y HY.out
          have hne := HPN.out.neM HY.out
          clear hPn hrn hKn hy hy1 hs hIw hct
          have HMS : Aside0 (unseen L1 (seen.push y.n) < unseen L1 (seenOf wr wo.heap.size)) := ⟨by
            have e : seenOf wr wo.heap.size = seen := by unfold seenOf; rw [HIq.out]
            rw [e]; exact unseen_lt HY1.out HSS.out⟩
          generalize hnow : decide (y.k ∈ xs) = now at HCT
          have HNOW := Aside0.mk hnow
          clear hnow
          have e1 : (y.k ∉ xs) ↔ (now = false) := by rw [← HNOW.out]; simp
          have hu : upd xs rv' y = (if y.p.i = true ∧ now = false then none else some { y.p with i := now, o := y.p.o && !now && (y.p.t == rv') }).map fun p => { y with p := p } := by
            unfold upd updP
            simp only [HNOW.out, e1]
          have HU := Aside0.mk hu
          clear hu e1
          have hrM : wo.heap.size ≠ M := fun e => by
            have h1 := HRN.out
            rw [e, HPN.out.mp.blk] at h1; cases h1
          have HRM := Aside0.mk hrM
          clear hrM
          by_cases hdel : y.p.i = true ∧ now = false
          · obtain ⟨hi, hno⟩ := hdel
            have hU := HU.out
            rw [if_pos ⟨hi, hno⟩] at hU
            have HU0 := Aside0.mk hU
            clear hU
            subst hno
            rw [hi] at p0
            clear hi
            go_wp2_with (first | (go_at_call 26; refine (slices_Contains_int_int.calls kk A c xs y.k _ _ HIW.out.rd HIW.out.cap HCT.out).mono ?_; rintro e w' ⟨rfl, nd, rfl⟩))
            go_roundw
            case rel =>
              refine ⟨seen.push y.n, ⟨?_⟩, ⟨?_⟩, ⟨?_⟩⟩
              · rw [step_none HP1.out.mp.kd HP1.out.mp.bd HY1.out HSS.out HU0.out]; exact (HPN.out.drewN nd).del y.k
              · exact (heap_setBlock _ _ _ HRM.out).trans HRN.out
              · exact (HKN.out.drewN nd).setBlock HPN.out.sM _
            case measure =>
              rw [seenOf_of (w := setBlock (w1.drewN nd) M _) ((heap_setBlock _ _ _ HRM.out).trans HRN.out)]; exact HMS.out
          · have hU := HU.out
            rw [if_neg hdel] at hU
            have HU1 := Aside0.mk hU
            have HD := Aside0.mk hdel
            clear hU hdel
            have hrb : wo.heap.size ≠ y.b := fun e => by
              have h1 := HRN.out
              rw [e, HPN.out.pe y HY.out] at h1; cases h1
            have HRB := Aside0.mk hrb
            clear hrb
            cases hi : y.p.i <;> cases now <;> cases ho : y.p.o
            all_goals try (exfalso; refine HD.out (And.intro ?_ ?_) <;> first | assumption | rfl; done)
            all_goals
              rw [hi] at p0
              rw [ho] at p1
              have HHO := Aside0.mk ho
              clear hi ho
            all_goals
              go_wp2_with (first | (go_at_call 26; refine (slices_Contains_int_int.calls kk A c xs y.k _ _ HIW.out.rd HIW.out.cap HCT.out).mono ?_; rintro e w' ⟨rfl, nd, rfl⟩))
              go_roundw
              case rel =>
                refine ⟨seen.push y.n, ⟨?_⟩, ⟨?_⟩, ⟨?_⟩⟩
                · rw [step_some HP1.out.mp.kd HP1.out.mp.bd HY1.out HSS.out HU1.out]
                  exact (HPN.out.drewN nd).put HY.out _ (blk_put (blk_put (HPN.out.pe y HY.out) 0 _ rfl) 1 _ (by rw [HHO.out]; rfl)) (fun j hj _ => (Below.heap_setCell _ _ _ j hj).trans (Below.heap_setCell _ _ _ j hj)) (HPN.out.hw y HY.out)
                · exact (Below.heap_setCell _ _ _ _ HRB.out).trans ((Below.heap_setCell _ _ _ _ HRB.out).trans HRN.out)
                · exact ((HKN.out.drewN nd).setCell (HPN.out.sb y HY.out) _).setCell (HPN.out.sb y HY.out) _
              case measure =>
                rw [seenOf_of (w := ((w1.drewN nd).setCell _ _).setCell _ _) ((Below.heap_setCell _ _ _ _ HRB.out).trans ((Below.heap_setCell _ _ _ _ HRB.out).trans HRN.out))]; exact HMS.out
end Go.Proofs.Ytfaipapaiobgcaa.M
