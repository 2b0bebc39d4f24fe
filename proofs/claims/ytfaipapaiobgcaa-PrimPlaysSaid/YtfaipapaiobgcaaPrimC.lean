/- The first copy's knowledge: Has, Lost, Join. -/
import Derived.Deep.RegionLaw
import Derived.Test.YtfaipapaiobgcaaPrimB
namespace Go.Proofs.Ytfaipapaiobgcaa.M
open Go.RowKit Go.Maps Go.ChangeMaps Go.Proofs.YtfaipapaiobgcaaW.PrintWords Go.Proofs.YtfaipapaiobgcaaW.PrintLast Go.Proofs.YtfaipapaiobgcaaW.PrintMore
set_option linter.unusedVariables false
set_option linter.unusedSimpArgs false
def setE (L : List En) (k : Int) (p' : Pe) : List En := L.map fun y => if y.k = k then { y with p := p' } else y
theorem setE_me (L : List En) (k : Int) (p' : Pe) : (setE L k p').map En.me = L.map En.me := by
  unfold setE; rw [List.map_map]; apply List.map_congr_left; intro y _; simp only [Function.comp]; split <;> rfl
theorem setE_k (L : List En) (k : Int) (p' : Pe) : (setE L k p').map En.k = L.map En.k := by
  unfold setE; rw [List.map_map]; apply List.map_congr_left; intro y _; simp only [Function.comp]; split <;> rfl
theorem setE_n (L : List En) (k : Int) (p' : Pe) : (setE L k p').map En.n = L.map En.n := by
  unfold setE; rw [List.map_map]; apply List.map_congr_left; intro y _; simp only [Function.comp]; split <;> rfl
theorem setE_b (L : List En) (k : Int) (p' : Pe) : (setE L k p').map En.b = L.map En.b := by
  unfold setE; rw [List.map_map]; apply List.map_congr_left; intro y _; simp only [Function.comp]; split <;> rfl
theorem setE_mem {L : List En} {k : Int} {p' : Pe} {z : En} (h : z ∈ setE L k p') : ∃ y ∈ L, z.k = y.k ∧ z.b = y.b ∧ z.n = y.n ∧ (if y.k = k then z.p = p' else z = y) := by
  obtain ⟨y, hy, rfl⟩ := List.mem_map.1 h
  refine ⟨y, hy, ?_⟩
  split <;> simp
theorem PrimAt.old {w w' : World} {S : Nat → Prop} {B M cl : Nat} {me tm rv : Int} {L : List En} (h : PrimAt w S B M cl me tm rv L) (ho : ∀ k, S k → k < w.heap.size → w'.heap[k]? = w.heap[k]?) : PrimAt w' S B M cl me tm rv L :=
  ⟨(ho B h.sB (blk_lt h.hd)).trans h.hd, ⟨(ho M h.sM (blk_lt h.mp.blk)).trans h.mp.blk, h.mp.kd, h.mp.kw, h.mp.bd, h.mp.bl⟩, fun x hx => (ho x.b (h.sb x hx) (blk_lt (h.pe x hx))).trans (h.pe x hx), h.nd, h.sB, h.sM, h.sb, h.tw, h.hw⟩
theorem PrimAt.neB {w : World} {S : Nat → Prop} {B M cl : Nat} {me tm rv : Int} {L : List En} (h : PrimAt w S B M cl me tm rv L) {x : En} (hx : x ∈ L) : x.b ≠ B := fun e => by
  have h1 := h.pe x hx
  rw [e, h.hd] at h1; cases h1
theorem PrimAt.neM {w : World} {S : Nat → Prop} {B M cl : Nat} {me tm rv : Int} {L : List En} (h : PrimAt w S B M cl me tm rv L) {x : En} (hx : x ∈ L) : x.b ≠ M := fun e => by
  have h1 := h.pe x hx
  rw [e, h.mp.blk] at h1; cases h1
theorem PrimAt.neBM {w : World} {S : Nat → Prop} {B M cl : Nat} {me tm rv : Int} {L : List En} (h : PrimAt w S B M cl me tm rv L) : B ≠ M := fun e => by
  have h1 := h.hd
  rw [e, h.mp.blk] at h1; cases h1
theorem PrimAt.put {w w' : World} {S : Nat → Prop} {B M cl : Nat} {me tm rv : Int} {L : List En} (h : PrimAt w S B M cl me tm rv L) {x : En} (hx : x ∈ L) (p' : Pe)
    (hb : w'.heap[x.b]? = some (.cells p'.cs 62 (0, 0))) (ho : ∀ k, k ≠ x.b → k < w.heap.size → w'.heap[k]? = w.heap[k]?) (hh : -9223372036854775808 ≤ p'.h ∧ p'.h ≤ 9223372036854775807) : PrimAt w' S B M cl me tm rv (setE L x.k p') := by
  refine ⟨(ho B (h.neB hx).symm (blk_lt h.hd)).trans h.hd, ⟨?_, ?_, ?_, ?_, ?_⟩, ?_, ?_, h.sB, h.sM, ?_, h.tw, ?_⟩
  · rw [setE_me]; exact (ho M (h.neM hx).symm (blk_lt h.mp.blk)).trans h.mp.blk
  · rw [setE_k]; exact h.mp.kd
  · intro z hz
    obtain ⟨y, hy, e1, e2, e3, e4⟩ := setE_mem hz
    rw [e1]; exact h.mp.kw y hy
  · rw [setE_n]; exact h.mp.bd
  · intro z hz
    obtain ⟨y, hy, e1, e2, e3, e4⟩ := setE_mem hz
    rw [e3]; exact h.mp.bl y hy
  · intro z hz
    obtain ⟨y, hy, e1, e2, e3, e4⟩ := setE_mem hz
    by_cases hk : y.k = x.k
    · rw [if_pos hk] at e4
      obtain rfl := nodup_inj h.mp.kd hy hx hk
      rw [e2, e4]; exact hb
    · rw [if_neg hk] at e4
      rw [e4]
      have : y.b ≠ x.b := fun e => hk (by rw [nodup_inj h.nd hy hx e])
      exact (ho y.b this (blk_lt (h.pe y hy))).trans (h.pe y hy)
  · rw [setE_b]; exact h.nd
  · intro z hz
    obtain ⟨y, hy, e1, e2, e3, e4⟩ := setE_mem hz
    rw [e2]; exact h.sb y hy
  · intro z hz
    obtain ⟨y, hy, e1, e2, e3, e4⟩ := setE_mem hz
    by_cases hk : y.k = x.k
    · rw [if_pos hk] at e4; rw [e4]; exact hh
    · rw [if_neg hk] at e4; rw [e4]; exact h.hw y hy
theorem lost_any {w : World} {S : Nat → Prop} {B M cl : Nat} {me tm rv : Int} {L : List En} (h : PrimAt w S B M cl me tm rv L) {k : Int} (hk : (Lit.int .i64 k).wf = true) (x : En) (hf : find L k = some x) :
    Calls Try.prog 25 #[pt B, .int .i64 k] w fun e w' => e = .returned (.int .i64 0) ∧ PrimAt w' S B M cl me tm rv (setE L k { x.p with a := false }) ∧ Kp S w w' := by
  have c3 : w.cell? ⟨B, 3, none⟩ = some (.map (some M)) := blk_cell h.hd 3
  have hl := look h.mp hk
  obtain ⟨m, hxk⟩ := find_some hf
  rw [hf] at hl
  simp only [ptr] at hl
  clear hf
  have p3 : w.cell? ⟨x.b, 3, none⟩ = some (.bool x.p.a) := blk_cell (h.pe x m) 3
  have q3 : w.frozen? ⟨x.b, 3, none⟩ = false := blk_frozen (h.pe x m) 3
  have HX := Aside0.mk hxk
  clear hxk
  go_enter Try.func25, Try.ntmps25
  go_wp2
  go_ret
  refine ⟨rfl, ?_, (Kp.refl S w).setCell (h.sb x m) _⟩
  rw [← HX.out]
  exact h.put m _ (blk_put (h.pe x m) 3 _ rfl) (fun j hj _ => Below.heap_setCell w _ _ j hj) (h.hw x m)
theorem lost_none {w : World} {S : Nat → Prop} {B M cl : Nat} {me tm rv : Int} {L : List En} (h : PrimAt w S B M cl me tm rv L) {k : Int} (hk : (Lit.int .i64 k).wf = true) (hf : find L k = none) :
    Calls Try.prog 25 #[pt B, .int .i64 k] w fun e w' => e = .returned (.int .i64 8) ∧ w = w' := by
  have c3 : w.cell? ⟨B, 3, none⟩ = some (.map (some M)) := blk_cell h.hd 3
  have hl := look h.mp hk
  rw [hf] at hl
  simp only [ptr] at hl
  clear hf
  go_enter Try.func25, Try.ntmps25
  go_wp2
  go_ret
  exact ⟨rfl, rfl⟩
theorem has_none {w : World} {S : Nat → Prop} {B M cl : Nat} {me tm rv : Int} {L : List En} (h : PrimAt w S B M cl me tm rv L) {k : Int} (hk : (Lit.int .i64 k).wf = true) (hf : find L k = none) (n : Int) :
    Calls Try.prog 11 #[pt B, .int .i64 k, .int .i64 n] w fun e w' => e = .returned (.int .i64 8) ∧ w = w' := by
  have c3 : w.cell? ⟨B, 3, none⟩ = some (.map (some M)) := blk_cell h.hd 3
  have hl := look h.mp hk
  rw [hf] at hl
  simp only [ptr] at hl
  clear hf
  go_enter Try.func11, Try.ntmps11
  go_wp2
  go_ret
  exact ⟨rfl, rfl⟩
theorem has_neg {w : World} {S : Nat → Prop} {B M cl : Nat} {me tm rv : Int} {L : List En} (h : PrimAt w S B M cl me tm rv L) {k : Int} (hk : (Lit.int .i64 k).wf = true) (x : En) (hf : find L k = some x) (n : Int) (hn : n < 0) :
    Calls Try.prog 11 #[pt B, .int .i64 k, .int .i64 n] w fun e w' => e = .returned (.int .i64 1) ∧ w = w' := by
  have c3 : w.cell? ⟨B, 3, none⟩ = some (.map (some M)) := blk_cell h.hd 3
  have hl := look h.mp hk
  rw [hf] at hl
  simp only [ptr] at hl
  clear hf
  go_enter Try.func11, Try.ntmps11
  go_wp2
  go_ret
  exact ⟨rfl, rfl⟩
theorem has_any {w : World} {S : Nat → Prop} {B M cl : Nat} {me tm rv : Int} {L : List En} (hP : PrimAt w S B M cl me tm rv L) {k : Int} (hk : (Lit.int .i64 k).wf = true) (x : En) (hf : find L k = some x) (n : Int) (hn : 0 ≤ n) (hn2 : n ≤ 9223372036854775807) :
    Calls Try.prog 11 #[pt B, .int .i64 k, .int .i64 n] w fun e w' => e = .returned (.int .i64 0) ∧ PrimAt w' S B M cl me tm rv (setE L k { x.p with a := true, h := max x.p.h n }) ∧ Kp S w w' := by
  have c3 : w.cell? ⟨B, 3, none⟩ = some (.map (some M)) := blk_cell hP.hd 3
  have hl := look hP.mp hk
  obtain ⟨m, hxk⟩ := find_some hf
  rw [hf] at hl
  simp only [ptr] at hl
  clear hf
  have p3 : w.cell? ⟨x.b, 3, none⟩ = some (.bool x.p.a) := blk_cell (hP.pe x m) 3
  have q3 : w.frozen? ⟨x.b, 3, none⟩ = false := blk_frozen (hP.pe x m) 3
  have p4 : w.cell? ⟨x.b, 4, none⟩ = some (.int .i64 x.p.h) := blk_cell (hP.pe x m) 4
  have q4 : w.frozen? ⟨x.b, 4, none⟩ = false := blk_frozen (hP.pe x m) 4
  have HX := Aside0.mk hxk
  clear hxk
  go_enter Try.func11, Try.ntmps11
  have hX := hP.hw x m
  go_wp2
  all_goals
    go_ret
    refine ⟨rfl, ?_, ((Kp.refl S w).setCell (hP.sb x m) _).setCell (hP.sb x m) _⟩
    rw [← HX.out]
    first
      | (have e : max x.p.h n = n := by omega
         rw [e]
         exact hP.put m _ (blk_put (blk_put (hP.pe x m) 3 _ rfl) 4 _ rfl) (fun j hj _ => (Below.heap_setCell _ _ _ j hj).trans (Below.heap_setCell w _ _ j hj)) ⟨by dsimp only; omega, by dsimp only; omega⟩)
      | (have e : max x.p.h n = x.p.h := by omega
         rw [e]
         exact hP.put m _ (blk_put (blk_put (hP.pe x m) 3 _ rfl) 4 _ rfl) (fun j hj _ => (Below.heap_setCell _ _ _ j hj).trans (Below.heap_setCell w _ _ j hj)) ⟨by dsimp only; omega, by dsimp only; omega⟩)
theorem join_bad {w : World} {S : Nat → Prop} {B M cl : Nat} {me tm rv : Int} {L : List En} (h : PrimAt w S B M cl me tm rv L) (k : Int) (hk : k < 0 ∨ 4 < k ∨ k = me) :
    Calls Try.prog 12 #[pt B, .int .i64 k] w fun e w' => e = .returned (.int .i64 1) ∧ w = w' := by
  have c0 : w.cell? ⟨B, 0, none⟩ = some (.int .i64 me) := blk_cell h.hd 0
  by_cases h1 : k < 0
  · clear hk
    go_enter Try.func12, Try.ntmps12
    go_wp2
    go_ret
    exact ⟨rfl, rfl⟩
  · by_cases h2 : 5 ≤ k
    · clear hk
      go_enter Try.func12, Try.ntmps12
      go_wp2
      go_ret
      exact ⟨rfl, rfl⟩
    · have e : k = me := by omega
      have he : (k == me) = true := by simp [e]
      clear hk e
      have e1 : decide (k < 0) = false := decide_eq_false h1
      have e2 : decide (5 ≤ k) = false := decide_eq_false h2
      go_enter Try.func12, Try.ntmps12
      go_wp2
      go_ret
      exact ⟨rfl, rfl⟩
theorem join_there {w : World} {S : Nat → Prop} {B M cl : Nat} {me tm rv : Int} {L : List En} (h : PrimAt w S B M cl me tm rv L) (k : Int) (h1 : 0 ≤ k) (h2 : k ≤ 4) (h3 : k ≠ me) (x : En) (hf : find L k = some x) :
    Calls Try.prog 12 #[pt B, .int .i64 k] w fun e w' => e = .returned (.int .i64 9) ∧ w = w' := by
  have c0 : w.cell? ⟨B, 0, none⟩ = some (.int .i64 me) := blk_cell h.hd 0
  have c3 : w.cell? ⟨B, 3, none⟩ = some (.map (some M)) := blk_cell h.hd 3
  have hl := look h.mp (wf_key ⟨h1, h2⟩)
  rw [hf] at hl
  simp only [ptr] at hl
  clear hf
  have e1 : decide (k < 0) = false := decide_eq_false (by omega)
  have e2 : decide (5 ≤ k) = false := decide_eq_false (by omega)
  have e3 : (k == me) = false := by simpa using h3
  clear h3
  go_enter Try.func12, Try.ntmps12
  go_wp2
  go_ret
  exact ⟨rfl, rfl⟩
def zeroPe : Pe := ⟨false, false, 0, false, 0⟩
def addE (L : List En) (k : Int) (b n : Nat) : List En := L ++ [⟨k, b, n, zeroPe⟩]
theorem PrimAt.add {w : World} {S : Nat → Prop} {B M cl : Nat} {me tm rv : Int} {L : List En} (h : PrimAt w S B M cl me tm rv L) (hS : ∀ k, w.heap.size ≤ k → S k) {k : Int} (hk : 0 ≤ k ∧ k ≤ 4) (hf : find L k = none) :
    PrimAt (setBlock (w.alloc (.cells zeroPe.cs 62 (0, 0))) M (.map ((addE L k w.heap.size cl).map En.me).toArray (cl + 1))) S B M (cl + 1) me tm rv (addE L k w.heap.size cl) := by
  have old : ∀ j, j ≠ M → j < w.heap.size → (setBlock (w.alloc (.cells zeroPe.cs 62 (0, 0))) M (.map ((addE L k w.heap.size cl).map En.me).toArray (cl + 1))).heap[j]? = w.heap[j]? := fun j hj hlt => (heap_setBlock _ _ _ hj).trans (Below.heap_alloc w _ j hlt)
  have hM := blk_lt h.mp.blk
  refine ⟨(old B h.neBM (blk_lt h.hd)).trans h.hd, ⟨heap_setBlock_same _ _ _ (by simp; omega), ?_, ?_, ?_, ?_⟩, ?_, ?_, h.sB, h.sM, ?_, h.tw, ?_⟩
  · unfold addE; rw [List.map_append, List.nodup_append]
    refine ⟨h.mp.kd, by simp, ?_⟩
    intro a ha b hb e
    obtain ⟨y, hy, rfl⟩ := List.mem_map.1 ha
    simp at hb
    exact find_none hf y hy (by rw [e, hb])
  · intro z hz
    rcases List.mem_append.1 hz with hz | hz
    · exact h.mp.kw z hz
    · rw [List.mem_singleton.1 hz]; exact hk
  · unfold addE; rw [List.map_append, List.nodup_append]
    refine ⟨h.mp.bd, by simp, ?_⟩
    intro a ha b hb e
    obtain ⟨y, hy, rfl⟩ := List.mem_map.1 ha
    simp at hb
    have := h.mp.bl y hy
    omega
  · intro z hz
    rcases List.mem_append.1 hz with hz | hz
    · have := h.mp.bl z hz; omega
    · rw [List.mem_singleton.1 hz]; exact Nat.lt_succ_self _
  · intro z hz
    rcases List.mem_append.1 hz with hz | hz
    · exact (old z.b (h.neM hz) (blk_lt (h.pe z hz))).trans (h.pe z hz)
    · rw [List.mem_singleton.1 hz]
      exact (heap_setBlock _ _ _ (by show w.heap.size ≠ M; omega)).trans (heap_alloc_new w _)
  · unfold addE; rw [List.map_append, List.nodup_append]
    refine ⟨h.nd, by simp, ?_⟩
    intro a ha b hb e
    obtain ⟨y, hy, rfl⟩ := List.mem_map.1 ha
    simp at hb
    have := blk_lt (h.pe y hy)
    omega
  · intro z hz
    rcases List.mem_append.1 hz with hz | hz
    · exact h.sb z hz
    · rw [List.mem_singleton.1 hz]; exact hS _ (Nat.le_refl _)
  · intro z hz
    rcases List.mem_append.1 hz with hz | hz
    · exact h.hw z hz
    · rw [List.mem_singleton.1 hz]; show -9223372036854775808 ≤ (0 : Int) ∧ (0 : Int) ≤ 9223372036854775807; omega
theorem MapAt.alloc {w : World} {M : Nat} {L : List En} {cl : Nat} (h : MapAt w M L cl) (o : Obj) : MapAt (w.alloc o) M L cl := ⟨(Below.heap_alloc w o M (blk_lt h.blk)).trans h.blk, h.kd, h.kw, h.bd, h.bl⟩
theorem join_new {w : World} {S : Nat → Prop} {B M cl : Nat} {me tm rv : Int} {L : List En} (h : PrimAt w S B M cl me tm rv L) (hS : ∀ k, w.heap.size ≤ k → S k) (k : Int) (h1 : 0 ≤ k) (h2 : k ≤ 4) (h3 : k ≠ me) (hf : find L k = none) :
    Calls Try.prog 12 #[pt B, .int .i64 k] w fun e w' => e = .returned (.int .i64 0) ∧ PrimAt w' S B M (cl + 1) me tm rv (addE L k w.heap.size cl) ∧ Kp S w w' := by
  have c0 : w.cell? ⟨B, 0, none⟩ = some (.int .i64 me) := blk_cell h.hd 0
  have c3 : w.cell? ⟨B, 3, none⟩ = some (.map (some M)) := blk_cell h.hd 3
  have hl := look h.mp (wf_key ⟨h1, h2⟩)
  have hu := update (h.mp.alloc (.cells zeroPe.cs 62 (0, 0))) (wf_key ⟨h1, h2⟩) hf w.heap.size zeroPe
  have HA := Aside0.mk (h.add hS ⟨h1, h2⟩ hf)
  have hO : Obj.map ((L ++ ([⟨k, w.heap.size, cl, zeroPe⟩] : List En)).map En.me).toArray (cl + 1) = Obj.map ((addE L k w.heap.size cl).map En.me).toArray (cl + 1) := rfl
  rw [hO] at hu
  clear hO
  generalize Obj.map ((addE L k w.heap.size cl).map En.me).toArray (cl + 1) = O at hu HA
  simp only [zeroPe, Pe.cs] at hu HA
  rw [hf] at hl
  simp only [ptr] at hl
  clear hf
  have e1 : decide (k < 0) = false := decide_eq_false (by omega)
  have e2 : decide (5 ≤ k) = false := decide_eq_false (by omega)
  have e3 : (k == me) = false := by simpa using h3
  clear h3
  go_enter Try.func12, Try.ntmps12
  go_wp2
  go_ret
  exact ⟨rfl, HA.out, ((Kp.refl S w).alloc _).setBlock h.sM _⟩
end Go.Proofs.Ytfaipapaiobgcaa.M
