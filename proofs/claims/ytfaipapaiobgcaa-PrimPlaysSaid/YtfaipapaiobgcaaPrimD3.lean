/- One call of both: the walk of 'do', kind 3. -/
import Derived.Test.YtfaipapaiobgcaaPrimD1
namespace Go.Proofs.Ytfaipapaiobgcaa.M
open Go.RowKit Go.Maps Go.ChangeMaps Go.Proofs.YtfaipapaiobgcaaW.PrintWords Go.Proofs.YtfaipapaiobgcaaW.PrintLast Go.Proofs.YtfaipapaiobgcaaW.PrintMore Go.Proofs.Ytfaipapaiobgcaa.PPrimPlays
set_option linter.unusedVariables false
set_option linter.unusedSimpArgs false
set_option maxRecDepth 100000 in
set_option maxHeartbeats 8000000 in
theorem do3 {E : Nat → Prop} {w0 w : World} {B X Y : Nat} {me tm rv : Int} {f : PF} (h : JS E w0 w B X Y me tm rv f) (kd rev nd m : Int) (A : Option Addr) (c : Nat) (xs : List Int)
    (hkd : 0 ≤ kd ∧ kd ≤ 255) (hnd : -9223372036854775808 ≤ nd ∧ nd ≤ 9223372036854775807) (hm : -9223372036854775808 ≤ m ∧ m ≤ 9223372036854775807) (hk : kd % 5 = 3) :
    Calls Try.prog 19 #[pt B, pt X, .agg #[.int .u8 kd, .int .u64 rev, .slice A xs.length c, .int .i64 nd, .int .i64 m]] w fun e w' => e = .returned (.bool true) ∧ ∃ rv' f', JS E w0 w' B X Y me tm rv' f' ∧ Fr E X Y w w' := by
  have HJ := Aside0.mk h
  have HKF : Aside0 ((kd % 5 == 0) = false ∧ (kd % 5 == 1) = false ∧ (kd % 5 == 2) = false ∧ (kd % 5 == 3) = true) := ⟨by simp [hk], by simp [hk], by simp [hk], by simp [hk]⟩
  have HXA := Aside0.mk (h.xa.alloc (.cells #[.int .u8 kd, .int .u64 rev, .slice A xs.length c, .int .i64 nd, .int .i64 m] 42))
  have c2 : (w.alloc (.cells #[.int .u8 kd, .int .u64 rev, .slice A xs.length c, .int .i64 nd, .int .i64 m] 42)).cell? ⟨X, 2, none⟩ = some (.slice (some ⟨Y, 0, none⟩) 5 5) := blk_cell HXA.out.hd 2
  have hwf : (Lit.int .i64 nd).wf = true := by simp [Lit.wf, IntKind.min, IntKind.max, IntKind.signed, IntKind.bits]; omega
  have HWF := Aside0.mk hwf
  clear h hk hwf
  rcases where_any w X Y me rv f nd with e1 | ⟨e1, e2⟩ | ⟨k, hk, hk5, hfn⟩ | ⟨k, hk, hk5, p, hfn⟩
  · -- low
    have hh := of_decide_eq_false e1
    have HNO := Aside0.mk (HJ.out.out nd (by omega))
    clear hh
    go_enter Try.func19, Try.ntmps19
    go_wp2
    go_quiet (fail)
    have hk0 := HKF.out
    have HJ1 := Aside0.mk (HJ.out.boxed (.cells #[.int .u8 kd, .int .u64 rev, .slice A xs.length c, .int .i64 nd, .int .i64 m] 42) nq)
    have HPB := Aside0.mk (HJ.out.ps.box (.cells #[.int .u8 kd, .int .u64 rev, .slice A xs.length c, .int .i64 nd, .int .i64 m] 42) nq)
    have HFB := Aside0.mk (Fr.box (w := w) (E := E) (X := X) (Y := Y) (.cells #[.int .u8 kd, .int .u64 rev, .slice A xs.length c, .int .i64 nd, .int .i64 m] 42) nq)
    have hbox : ((w.alloc (.cells #[.int .u8 kd, .int .u64 rev, .slice A xs.length c, .int .i64 nd, .int .i64 m] 42)).drewN nq).heap[w.heap.size]? = _ := heap_alloc_new w _
    clear c2
    generalize (w.alloc (.cells #[.int .u8 kd, .int .u64 rev, .slice A xs.length c, .int .i64 nd, .int .i64 m] 42)).drewN nq = W at *
    have b0 : W.cell? ⟨w.heap.size, 0, none⟩ = some (.int .u8 kd) := blk_cell hbox 0
    have b3 : W.cell? ⟨w.heap.size, 3, none⟩ = some (.int .i64 nd) := blk_cell hbox 3
    have b4 : W.cell? ⟨w.heap.size, 4, none⟩ = some (.int .i64 m) := blk_cell hbox 4
    have z0 : W.cell? ⟨X, 0, none⟩ = some (.int .i64 me) := blk_cell HJ1.out.xa.hd 0
    have z2 : W.cell? ⟨X, 2, none⟩ = some (.slice (some ⟨Y, 0, none⟩) 5 5) := blk_cell HJ1.out.xa.hd 2
    have HBOX := Aside0.mk hbox
    clear hbox
    go_wp2_with fail
    refine (ps_lost_no HPB.out HWF.out HNO.out).mono ?_
    rintro e w1 ⟨rfl, rfl⟩
    go_wp2
    go_ret
    exact ⟨rfl, rv, f, HJ1.out, HFB.out.eq rfl⟩
  · -- high
    have hh := of_decide_eq_false e2
    have HNO := Aside0.mk (HJ.out.out nd (by omega))
    clear hh
    go_enter Try.func19, Try.ntmps19
    go_wp2
    go_quiet (fail)
    have hk0 := HKF.out
    have HJ1 := Aside0.mk (HJ.out.boxed (.cells #[.int .u8 kd, .int .u64 rev, .slice A xs.length c, .int .i64 nd, .int .i64 m] 42) nq)
    have HPB := Aside0.mk (HJ.out.ps.box (.cells #[.int .u8 kd, .int .u64 rev, .slice A xs.length c, .int .i64 nd, .int .i64 m] 42) nq)
    have HFB := Aside0.mk (Fr.box (w := w) (E := E) (X := X) (Y := Y) (.cells #[.int .u8 kd, .int .u64 rev, .slice A xs.length c, .int .i64 nd, .int .i64 m] 42) nq)
    have hbox : ((w.alloc (.cells #[.int .u8 kd, .int .u64 rev, .slice A xs.length c, .int .i64 nd, .int .i64 m] 42)).drewN nq).heap[w.heap.size]? = _ := heap_alloc_new w _
    clear c2
    generalize (w.alloc (.cells #[.int .u8 kd, .int .u64 rev, .slice A xs.length c, .int .i64 nd, .int .i64 m] 42)).drewN nq = W at *
    have b0 : W.cell? ⟨w.heap.size, 0, none⟩ = some (.int .u8 kd) := blk_cell hbox 0
    have b3 : W.cell? ⟨w.heap.size, 3, none⟩ = some (.int .i64 nd) := blk_cell hbox 3
    have b4 : W.cell? ⟨w.heap.size, 4, none⟩ = some (.int .i64 m) := blk_cell hbox 4
    have z0 : W.cell? ⟨X, 0, none⟩ = some (.int .i64 me) := blk_cell HJ1.out.xa.hd 0
    have z2 : W.cell? ⟨X, 2, none⟩ = some (.slice (some ⟨Y, 0, none⟩) 5 5) := blk_cell HJ1.out.xa.hd 2
    have HBOX := Aside0.mk hbox
    clear hbox
    go_wp2_with fail
    refine (ps_lost_no HPB.out HWF.out HNO.out).mono ?_
    rintro e w1 ⟨rfl, rfl⟩
    go_wp2
    go_ret
    exact ⟨rfl, rv, f, HJ1.out, HFB.out.eq rfl⟩
  · -- free
    subst hk
    have e1 : decide (0 ≤ (k : Int)) = true := decide_eq_true (by omega)
    have e2 : decide ((k : Int) < 5) = true := decide_eq_true (by omega)
    have hkI : (k : Int) < 5 := by omega
    have x0 := (HXA.out.cell k 0 hk5 (by omega)).1
    rw [hfn] at x0
    simp [encC] at x0
    have HFN := Aside0.mk hfn
    clear hfn
    go_enter Try.func19, Try.ntmps19
    go_wp2
    go_quiet (fail)
    have hk0 := HKF.out
    have HJ1 := Aside0.mk (HJ.out.boxed (.cells #[.int .u8 kd, .int .u64 rev, .slice A xs.length c, .int .i64 (k : Int), .int .i64 m] 42) nq)
    have HPB := Aside0.mk (HJ.out.ps.box (.cells #[.int .u8 kd, .int .u64 rev, .slice A xs.length c, .int .i64 (k : Int), .int .i64 m] 42) nq)
    have HFB := Aside0.mk (Fr.box (w := w) (E := E) (X := X) (Y := Y) (.cells #[.int .u8 kd, .int .u64 rev, .slice A xs.length c, .int .i64 (k : Int), .int .i64 m] 42) nq)
    have hbox : ((w.alloc (.cells #[.int .u8 kd, .int .u64 rev, .slice A xs.length c, .int .i64 (k : Int), .int .i64 m] 42)).drewN nq).heap[w.heap.size]? = _ := heap_alloc_new w _
    clear c2
    generalize (w.alloc (.cells #[.int .u8 kd, .int .u64 rev, .slice A xs.length c, .int .i64 (k : Int), .int .i64 m] 42)).drewN nq = W at *
    have b0 : W.cell? ⟨w.heap.size, 0, none⟩ = some (.int .u8 kd) := blk_cell hbox 0
    have b3 : W.cell? ⟨w.heap.size, 3, none⟩ = some (.int .i64 (k : Int)) := blk_cell hbox 3
    have b4 : W.cell? ⟨w.heap.size, 4, none⟩ = some (.int .i64 m) := blk_cell hbox 4
    have z0 : W.cell? ⟨X, 0, none⟩ = some (.int .i64 me) := blk_cell HJ1.out.xa.hd 0
    have z2 : W.cell? ⟨X, 2, none⟩ = some (.slice (some ⟨Y, 0, none⟩) 5 5) := blk_cell HJ1.out.xa.hd 2
    have HBOX := Aside0.mk hbox
    clear hbox
    go_wp2_with fail
    refine (ps_lost_no HPB.out HWF.out HFN.out).mono ?_
    rintro e w1 ⟨rfl, rfl⟩
    go_wp2
    go_ret
    exact ⟨rfl, rv, f, HJ1.out, HFB.out.eq rfl⟩
  · -- peer
    subst hk
    have e1 : decide (0 ≤ (k : Int)) = true := decide_eq_true (by omega)
    have e2 : decide ((k : Int) < 5) = true := decide_eq_true (by omega)
    have hkI : (k : Int) < 5 := by omega
    have x0 := (HXA.out.cell k 0 hk5 (by omega)).1
    rw [hfn] at x0
    simp [encC] at x0
    have HFN := Aside0.mk hfn
    clear hfn
    have hme : (k : Int) ≠ me := fun e => by have := HFN.out; rw [e, HJ.out.no] at this; cases this
    have HM := Aside0.mk hme
    clear hme
    go_enter Try.func19, Try.ntmps19
    go_wp2
    go_quiet (fail)
    have hk0 := HKF.out
    have HJ1 := Aside0.mk (HJ.out.boxed (.cells #[.int .u8 kd, .int .u64 rev, .slice A xs.length c, .int .i64 (k : Int), .int .i64 m] 42) nq)
    have HPB := Aside0.mk (HJ.out.ps.box (.cells #[.int .u8 kd, .int .u64 rev, .slice A xs.length c, .int .i64 (k : Int), .int .i64 m] 42) nq)
    have HFB := Aside0.mk (Fr.box (w := w) (E := E) (X := X) (Y := Y) (.cells #[.int .u8 kd, .int .u64 rev, .slice A xs.length c, .int .i64 (k : Int), .int .i64 m] 42) nq)
    have hbox : ((w.alloc (.cells #[.int .u8 kd, .int .u64 rev, .slice A xs.length c, .int .i64 (k : Int), .int .i64 m] 42)).drewN nq).heap[w.heap.size]? = _ := heap_alloc_new w _
    clear c2
    generalize (w.alloc (.cells #[.int .u8 kd, .int .u64 rev, .slice A xs.length c, .int .i64 (k : Int), .int .i64 m] 42)).drewN nq = W at *
    have b0 : W.cell? ⟨w.heap.size, 0, none⟩ = some (.int .u8 kd) := blk_cell hbox 0
    have b3 : W.cell? ⟨w.heap.size, 3, none⟩ = some (.int .i64 (k : Int)) := blk_cell hbox 3
    have b4 : W.cell? ⟨w.heap.size, 4, none⟩ = some (.int .i64 m) := blk_cell hbox 4
    have z0 : W.cell? ⟨X, 0, none⟩ = some (.int .i64 me) := blk_cell HJ1.out.xa.hd 0
    have z2 : W.cell? ⟨X, 2, none⟩ = some (.slice (some ⟨Y, 0, none⟩) 5 5) := blk_cell HJ1.out.xa.hd 2
    have HBOX := Aside0.mk hbox
    clear hbox
    go_wp2_with fail
    clear x0
    refine (ps_lost HPB.out HFN.out).mono ?_
    rintro e w1 ⟨rfl, hP1, hS1⟩
    have HXA1 := Aside0.mk (HJ1.out.xa.same ⟨hS1.1, fun k hk hlt => hS1.2 k (.inl (.inl hk)) hlt⟩)
    have hbox : w1.heap[w.heap.size]? = _ := (hS1.2 w.heap.size (.inr rfl) (blk_lt HBOX.out)).trans HBOX.out
    have hbl : w.heap.size < w1.heap.size := blk_lt hbox
    have b3' := blk_cell hbox 3
    have b4' := blk_cell hbox 4
    simp at b3' b4'
    have HP1 := Aside0.mk hP1
    have HFS := Aside0.mk (HFB.out.trans (Fr.same hS1))
    clear z0 z2 b3 b4
    have z0 : w1.cell? ⟨X, 0, none⟩ = some (.int .i64 me) := blk_cell HXA1.out.hd 0
    have z2 : w1.cell? ⟨X, 2, none⟩ = some (.slice (some ⟨Y, 0, none⟩) 5 5) := blk_cell HXA1.out.hd 2
    have hXl : X < w1.heap.size := blk_lt HXA1.out.hd
    have hYl : Y < w1.heap.size := by obtain ⟨_, h, _⟩ := HXA1.out.bl; exact blk_lt h
    have HBOX1 := Aside0.mk hbox
    clear hP1 hS1 hbox
    clear b3' b4' z0 z2 hXl hYl hbl
    have z0 : w1.cell? ⟨X, 0, none⟩ = some (.int .i64 me) := blk_cell HXA1.out.hd 0
    have z2 : w1.cell? ⟨X, 2, none⟩ = some (.slice (some ⟨Y, 0, none⟩) 5 5) := blk_cell HXA1.out.hd 2
    have hXl : X < w1.heap.size := blk_lt HXA1.out.hd
    have hYl : Y < w1.heap.size := by obtain ⟨_, h, _⟩ := HXA1.out.bl; exact blk_lt h
    have hbl : w.heap.size < w1.heap.size := blk_lt HBOX1.out
    have b3 : w1.cell? ⟨w.heap.size, 3, none⟩ = some (.int .i64 (k : Int)) := blk_cell HBOX1.out 3
    have b4 : w1.cell? ⟨w.heap.size, 4, none⟩ = some (.int .i64 m) := blk_cell HBOX1.out 4
    have hcells := fun c hc => HXA1.out.cell k c hk5 hc
    rw [HFN.out] at hcells
    have x0 := (hcells 0 (by omega)).1
    have x1 := (hcells 1 (by omega)).1
    have x2 := (hcells 2 (by omega)).1
    have x3 := (hcells 3 (by omega)).1
    have x4 := (hcells 4 (by omega)).1
    have x5 := (hcells 5 (by omega)).1
    have y0 : w1.frozen? ⟨Y, k * 6, none⟩ = false := (hcells 0 (by omega)).2
    have y1 := (hcells 1 (by omega)).2
    have y2 := (hcells 2 (by omega)).2
    have y3 := (hcells 3 (by omega)).2
    have y4 := (hcells 4 (by omega)).2
    have y5 := (hcells 5 (by omega)).2
    clear hcells
    simp [encC] at x0 x1 x2 x3 x4 x5
    go_wp2
    go_region
    go_wp2
    go_ret
    refine ⟨rfl, rv, setF f (k : Int) { p with a := false }, HJ1.out.set k hk5 HM.out _ (show 0 ≤ p.h from HJ.out.nn _ _ HFN.out) HP1.out (fun j h => .inl h) HFS.out (Kp.drew (KX.put (Kp.refl _ w1) _ _)) ?_⟩
    exact (HXA1.out.set3 hk5 HFN.out false).drew
end Go.Proofs.Ytfaipapaiobgcaa.M
