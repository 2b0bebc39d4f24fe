/- One call of both: the walk of 'do', kind 4. -/
import Derived.Deep.RegionHeld3
import Derived.Test.YtfaipapaiobgcaaPrimD3
namespace Go.Proofs.Ytfaipapaiobgcaa.M
open Go.RowKit Go.Maps Go.ChangeMaps Go.Proofs.YtfaipapaiobgcaaW.PrintWords Go.Proofs.YtfaipapaiobgcaaW.PrintLast Go.Proofs.YtfaipapaiobgcaaW.PrintMore Go.Proofs.Ytfaipapaiobgcaa.PPrimPlays
set_option linter.unusedVariables false
set_option linter.unusedSimpArgs false
/-- both Offers, in one world -/
theorem heap_of_same {E : Nat → Prop} {w w1 : World} (h : Same E w w1) (k : Nat) (hk : E k) {o : Obj} (hb : w.heap[k]? = some o) : w1.heap[k]? = some o := (h.2 k hk (blk_lt hb)).trans hb
theorem PS.drew {w0 w : World} {E : Nat → Prop} {B : Nat} {me tm rv : Int} {f : PF} (h : PS w0 E w B me tm rv f) : PS w0 E w.drew B me tm rv f := h.below ⟨rfl, rfl, rfl, Nat.le_refl _, fun _ _ => rfl⟩
theorem offF_nn {rv len : Int} {f : PF} (h : ∀ k p, f k = some p → 0 ≤ p.h) : ∀ k p, offF rv len f k = some p → 0 ≤ p.h := by
  intro k p hp
  unfold offF at hp
  cases hf : f k with
  | none => rw [hf] at hp; cases hp
  | some q =>
    rw [hf] at hp
    simp only [Option.map_some, Option.some.injEq] at hp
    have := h k q hf
    subst hp
    unfold offP
    split <;> exact this
theorem ks_offs (f : PF) (len : Int) : (ksF f).filter (offK f len) = nodes.filter (offK f len) := ks_off f len
set_option maxRecDepth 100000 in
set_option maxHeartbeats 8000000 in
theorem do4 {E : Nat → Prop} {w0 w : World} {B X Y : Nat} {me tm rv : Int} {f : PF} (h : JS E w0 w B X Y me tm rv f) (kd rev nd m : Int) (A : Option Addr) (c : Nat) (xs : List Int)
    (hkd : 0 ≤ kd ∧ kd ≤ 255) (hnd : -9223372036854775808 ≤ nd ∧ nd ≤ 9223372036854775807) (hm : -9223372036854775808 ≤ m ∧ m ≤ 9223372036854775807) (hk : kd % 5 = 4) :
    Calls Try.prog 19 #[pt B, pt X, .agg #[.int .u8 kd, .int .u64 rev, .slice A xs.length c, .int .i64 nd, .int .i64 m]] w fun e w' => e = .returned (.bool true) ∧ ∃ rv' f', JS E w0 w' B X Y me tm rv' f' ∧ Fr E X Y w w' := by
  have HJ := Aside0.mk h
  have HKF : Aside0 ((kd % 5 == 0) = false ∧ (kd % 5 == 1) = false ∧ (kd % 5 == 2) = false ∧ (kd % 5 == 3) = false) := ⟨by simp [hk], by simp [hk], by simp [hk], by simp [hk]⟩
  have HXA := Aside0.mk (h.xa.alloc (.cells #[.int .u8 kd, .int .u64 rev, .slice A xs.length c, .int .i64 nd, .int .i64 m] 42))
  have c2 : (w.alloc (.cells #[.int .u8 kd, .int .u64 rev, .slice A xs.length c, .int .i64 nd, .int .i64 m] 42)).cell? ⟨X, 2, none⟩ = some (.slice (some ⟨Y, 0, none⟩) 5 5) := blk_cell HXA.out.hd 2
  have hwf : (Lit.int .i64 nd).wf = true := by simp [Lit.wf, IntKind.min, IntKind.max, IntKind.signed, IntKind.bits]; omega
  have HWF := Aside0.mk hwf
  clear h hk hwf
  rcases where_any w X Y me rv f nd with e1 | ⟨e1, e2⟩ | ⟨k, hk, hk5, hfn⟩ | ⟨k, hk, hk5, p, hfn⟩
  · -- low
    go_enter Try.func19, Try.ntmps19
    go_wp2
    go_quiet (fail)
    have hk0 := HKF.out
    have HJ1 := Aside0.mk (HJ.out.boxed (.cells #[.int .u8 kd, .int .u64 rev, .slice A xs.length c, .int .i64 nd, .int .i64 m] 42) nq)
    have HPB := Aside0.mk (HJ.out.ps.box (.cells #[.int .u8 kd, .int .u64 rev, .slice A xs.length c, .int .i64 nd, .int .i64 m] 42) nq)
    have HFB := Aside0.mk (Fr.box (w := w) (E := E) (X := X) (Y := Y) (.cells #[.int .u8 kd, .int .u64 rev, .slice A xs.length c, .int .i64 nd, .int .i64 m] 42) nq)
    have hbox : ((w.alloc (.cells #[.int .u8 kd, .int .u64 rev, .slice A xs.length c, .int .i64 nd, .int .i64 m] 42)).drewN nq).heap[w.heap.size]? = _ := heap_alloc_new w _
    clear c2
    generalize (w.alloc (.cells #[.int .u8 kd, .int .u64 rev, .slice A xs.length c, .int .i64 nd, .int .i64 m] 42)).drewN nq = W at *
    have b0 : W.cell? ⟨w.heap.size, 0, none⟩ = some (.int .u8 kd) := blk_cell hbox 0
    have b3 : W.cell? ⟨w.heap.size, 3, none⟩ = some (.int .i64 nd) := blk_cell hbox 3
    have b4 : W.cell? ⟨w.heap.size, 4, none⟩ = some (.int .i64 m) := blk_cell hbox 4
    have z0 : W.cell? ⟨X, 0, none⟩ = some (.int .i64 me) := blk_cell HJ1.out.xa.hd 0
    have z2 : W.cell? ⟨X, 2, none⟩ = some (.slice (some ⟨Y, 0, none⟩) 5 5) := blk_cell HJ1.out.xa.hd 2
    have HBOX := Aside0.mk hbox
    clear hbox
    go_wp2_with fail
    have HNE : Aside0 (¬ (w.heap.size = X ∨ w.heap.size = Y)) := ⟨fun h => by
      have h1 := blk_lt HJ.out.xa.hd
      obtain ⟨_, h2, _⟩ := HJ.out.xa.bl
      have h3 := blk_lt h2
      omega⟩
    have HLT : Aside0 (∀ k, (k = X ∨ k = Y) → ¬ (W.drew.heap.size ≤ k)) := ⟨fun k h hk => by
      have h1 := blk_lt HJ1.out.xa.hd
      obtain ⟨_, h2, _⟩ := HJ1.out.xa.bl
      have h3 := blk_lt h2
      have hk2 : W.heap.size ≤ k := hk
      omega⟩
    have hxl : (nodes.filter (offK f m)).length ≤ 5 := List.length_filter_le _ nodes
    generalize hxs : nodes.filter (offK f m) = zs at hxl
    have HXL := Aside0.mk hxl
    have HXS := Aside0.mk hxs
    clear hxl hxs
    generalize hCS : w.heap.size = bx at *
    have HFD : Aside0 (Fr E X Y w W.drew) := ⟨HFB.out.eq rfl⟩
    have HPd := Aside0.mk HPB.out.drew
    have HXd := Aside0.mk (HJ1.out.xa.drew)
    go_region_held3 (fun W' => W'.cell? ⟨bx, 4, none⟩ = some (.int .i64 m)) (first | assumption | exact b4) (first
      | (go_at_call 15
         refine (ps_offer HPd.out m).mono ?_
         rintro e w1 ⟨v, rfl, hR, hP1, hS1⟩
         rw [ks_off, HXS.out] at hR
         obtain ⟨A1, c1, rfl⟩ := Kd.R_slice hR
         have hbox := heap_of_same hS1 bx (.inr rfl) HBOX.out
         have HXA1 := Aside0.mk (HXd.out.same ⟨hS1.1, fun k hk hlt => hS1.2 k (.inl (.inl hk)) hlt⟩)
         have HR1 := Aside0.mk hR
         have HP1 := Aside0.mk hP1
         have b4 := blk_cell hbox 4
         simp at b4
         have HBOX1 := Aside0.mk hbox
         have HS1 := Aside0.mk hS1
         clear hR hP1 hS1 hbox)
      | (go_at_call 29
         refine (xoffer_any HXA1.out m).mono ?_
         rintro e w2 ⟨v, rfl, hR2, hX2, hK2⟩
         rw [HXS.out] at hR2
         obtain ⟨A2, c2, rfl⟩ := Kd.R_slice hR2
         have hbox2 := (hK2.block bx (blk_lt HBOX1.out) (fun h => HNE.out h)).trans HBOX1.out
         have b4 := blk_cell hbox2 4
         simp at b4
         have HRB := Aside0.mk (Kd.R_step HR1.out (fun k ho hlt => hK2.block k hlt (fun h => HLT.out k h ho)))
         have HX2 := Aside0.mk hX2
         have HK2 := Aside0.mk hK2
         have HR2 := Aside0.mk hR2
         clear hR2 hX2 hK2 hbox2)
      | (go_at_call 20
         refine (same_any (Kd.R_reads' HRB.out).2.2 (Kd.R_reads' HR2.out).2.2 (Nat.le_trans HXL.out (by decide))).mono ?_
         rintro e w3 ⟨rfl, nn, rfl⟩
         have b4 : (w2.drewN nn).cell? ⟨bx, 4, none⟩ = some (.int .i64 m) := b4))
    go_wp2
    go_ret
    refine ⟨rfl, rv, offF rv m f, ⟨((HP1.out.weaken (fun k h => .inl h)).kx HK2.out HJ.out.xy).drewN nn, ?_, ?_, ?_, HJ.out.xy⟩, ((HFD.out.trans (Fr.same HS1.out)).kx HK2.out).eq rfl⟩
    · have h := HX2.out
      rw [off_both HJ.out.out] at h
      exact h.drewN nn
    · unfold offF; rw [HJ.out.no]; rfl
    · exact offF_nn HJ.out.nn
  · -- high
    go_enter Try.func19, Try.ntmps19
    go_wp2
    go_quiet (fail)
    have hk0 := HKF.out
    have HJ1 := Aside0.mk (HJ.out.boxed (.cells #[.int .u8 kd, .int .u64 rev, .slice A xs.length c, .int .i64 nd, .int .i64 m] 42) nq)
    have HPB := Aside0.mk (HJ.out.ps.box (.cells #[.int .u8 kd, .int .u64 rev, .slice A xs.length c, .int .i64 nd, .int .i64 m] 42) nq)
    have HFB := Aside0.mk (Fr.box (w := w) (E := E) (X := X) (Y := Y) (.cells #[.int .u8 kd, .int .u64 rev, .slice A xs.length c, .int .i64 nd, .int .i64 m] 42) nq)
    have hbox : ((w.alloc (.cells #[.int .u8 kd, .int .u64 rev, .slice A xs.length c, .int .i64 nd, .int .i64 m] 42)).drewN nq).heap[w.heap.size]? = _ := heap_alloc_new w _
    clear c2
    generalize (w.alloc (.cells #[.int .u8 kd, .int .u64 rev, .slice A xs.length c, .int .i64 nd, .int .i64 m] 42)).drewN nq = W at *
    have b0 : W.cell? ⟨w.heap.size, 0, none⟩ = some (.int .u8 kd) := blk_cell hbox 0
    have b3 : W.cell? ⟨w.heap.size, 3, none⟩ = some (.int .i64 nd) := blk_cell hbox 3
    have b4 : W.cell? ⟨w.heap.size, 4, none⟩ = some (.int .i64 m) := blk_cell hbox 4
    have z0 : W.cell? ⟨X, 0, none⟩ = some (.int .i64 me) := blk_cell HJ1.out.xa.hd 0
    have z2 : W.cell? ⟨X, 2, none⟩ = some (.slice (some ⟨Y, 0, none⟩) 5 5) := blk_cell HJ1.out.xa.hd 2
    have HBOX := Aside0.mk hbox
    clear hbox
    go_wp2_with fail
    have HNE : Aside0 (¬ (w.heap.size = X ∨ w.heap.size = Y)) := ⟨fun h => by
      have h1 := blk_lt HJ.out.xa.hd
      obtain ⟨_, h2, _⟩ := HJ.out.xa.bl
      have h3 := blk_lt h2
      omega⟩
    have HLT : Aside0 (∀ k, (k = X ∨ k = Y) → ¬ (W.drew.heap.size ≤ k)) := ⟨fun k h hk => by
      have h1 := blk_lt HJ1.out.xa.hd
      obtain ⟨_, h2, _⟩ := HJ1.out.xa.bl
      have h3 := blk_lt h2
      have hk2 : W.heap.size ≤ k := hk
      omega⟩
    have hxl : (nodes.filter (offK f m)).length ≤ 5 := List.length_filter_le _ nodes
    generalize hxs : nodes.filter (offK f m) = zs at hxl
    have HXL := Aside0.mk hxl
    have HXS := Aside0.mk hxs
    clear hxl hxs
    generalize hCS : w.heap.size = bx at *
    have HFD : Aside0 (Fr E X Y w W.drew) := ⟨HFB.out.eq rfl⟩
    have HPd := Aside0.mk HPB.out.drew
    have HXd := Aside0.mk (HJ1.out.xa.drew)
    go_region_held3 (fun W' => W'.cell? ⟨bx, 4, none⟩ = some (.int .i64 m)) (first | assumption | exact b4) (first
      | (go_at_call 15
         refine (ps_offer HPd.out m).mono ?_
         rintro e w1 ⟨v, rfl, hR, hP1, hS1⟩
         rw [ks_off, HXS.out] at hR
         obtain ⟨A1, c1, rfl⟩ := Kd.R_slice hR
         have hbox := heap_of_same hS1 bx (.inr rfl) HBOX.out
         have HXA1 := Aside0.mk (HXd.out.same ⟨hS1.1, fun k hk hlt => hS1.2 k (.inl (.inl hk)) hlt⟩)
         have HR1 := Aside0.mk hR
         have HP1 := Aside0.mk hP1
         have b4 := blk_cell hbox 4
         simp at b4
         have HBOX1 := Aside0.mk hbox
         have HS1 := Aside0.mk hS1
         clear hR hP1 hS1 hbox)
      | (go_at_call 29
         refine (xoffer_any HXA1.out m).mono ?_
         rintro e w2 ⟨v, rfl, hR2, hX2, hK2⟩
         rw [HXS.out] at hR2
         obtain ⟨A2, c2, rfl⟩ := Kd.R_slice hR2
         have hbox2 := (hK2.block bx (blk_lt HBOX1.out) (fun h => HNE.out h)).trans HBOX1.out
         have b4 := blk_cell hbox2 4
         simp at b4
         have HRB := Aside0.mk (Kd.R_step HR1.out (fun k ho hlt => hK2.block k hlt (fun h => HLT.out k h ho)))
         have HX2 := Aside0.mk hX2
         have HK2 := Aside0.mk hK2
         have HR2 := Aside0.mk hR2
         clear hR2 hX2 hK2 hbox2)
      | (go_at_call 20
         refine (same_any (Kd.R_reads' HRB.out).2.2 (Kd.R_reads' HR2.out).2.2 (Nat.le_trans HXL.out (by decide))).mono ?_
         rintro e w3 ⟨rfl, nn, rfl⟩
         have b4 : (w2.drewN nn).cell? ⟨bx, 4, none⟩ = some (.int .i64 m) := b4))
    go_wp2
    go_ret
    refine ⟨rfl, rv, offF rv m f, ⟨((HP1.out.weaken (fun k h => .inl h)).kx HK2.out HJ.out.xy).drewN nn, ?_, ?_, ?_, HJ.out.xy⟩, ((HFD.out.trans (Fr.same HS1.out)).kx HK2.out).eq rfl⟩
    · have h := HX2.out
      rw [off_both HJ.out.out] at h
      exact h.drewN nn
    · unfold offF; rw [HJ.out.no]; rfl
    · exact offF_nn HJ.out.nn
  · -- free
    subst hk
    have e1 : decide (0 ≤ (k : Int)) = true := decide_eq_true (by omega)
    have e2 : decide ((k : Int) < 5) = true := decide_eq_true (by omega)
    have hkI : (k : Int) < 5 := by omega
    have x0 := (HXA.out.cell k 0 hk5 (by omega)).1
    rw [hfn] at x0
    simp [encC] at x0
    have HFN := Aside0.mk hfn
    clear hfn
    go_enter Try.func19, Try.ntmps19
    go_wp2
    go_quiet (fail)
    have hk0 := HKF.out
    have HJ1 := Aside0.mk (HJ.out.boxed (.cells #[.int .u8 kd, .int .u64 rev, .slice A xs.length c, .int .i64 (k : Int), .int .i64 m] 42) nq)
    have HPB := Aside0.mk (HJ.out.ps.box (.cells #[.int .u8 kd, .int .u64 rev, .slice A xs.length c, .int .i64 (k : Int), .int .i64 m] 42) nq)
    have HFB := Aside0.mk (Fr.box (w := w) (E := E) (X := X) (Y := Y) (.cells #[.int .u8 kd, .int .u64 rev, .slice A xs.length c, .int .i64 (k : Int), .int .i64 m] 42) nq)
    have hbox : ((w.alloc (.cells #[.int .u8 kd, .int .u64 rev, .slice A xs.length c, .int .i64 (k : Int), .int .i64 m] 42)).drewN nq).heap[w.heap.size]? = _ := heap_alloc_new w _
    clear c2
    generalize (w.alloc (.cells #[.int .u8 kd, .int .u64 rev, .slice A xs.length c, .int .i64 (k : Int), .int .i64 m] 42)).drewN nq = W at *
    have b0 : W.cell? ⟨w.heap.size, 0, none⟩ = some (.int .u8 kd) := blk_cell hbox 0
    have b3 : W.cell? ⟨w.heap.size, 3, none⟩ = some (.int .i64 (k : Int)) := blk_cell hbox 3
    have b4 : W.cell? ⟨w.heap.size, 4, none⟩ = some (.int .i64 m) := blk_cell hbox 4
    have z0 : W.cell? ⟨X, 0, none⟩ = some (.int .i64 me) := blk_cell HJ1.out.xa.hd 0
    have z2 : W.cell? ⟨X, 2, none⟩ = some (.slice (some ⟨Y, 0, none⟩) 5 5) := blk_cell HJ1.out.xa.hd 2
    have HBOX := Aside0.mk hbox
    clear hbox
    go_wp2_with fail
    clear x0
    have HNE : Aside0 (¬ (w.heap.size = X ∨ w.heap.size = Y)) := ⟨fun h => by
      have h1 := blk_lt HJ.out.xa.hd
      obtain ⟨_, h2, _⟩ := HJ.out.xa.bl
      have h3 := blk_lt h2
      omega⟩
    have HLT : Aside0 (∀ k, (k = X ∨ k = Y) → ¬ (W.drew.heap.size ≤ k)) := ⟨fun k h hk => by
      have h1 := blk_lt HJ1.out.xa.hd
      obtain ⟨_, h2, _⟩ := HJ1.out.xa.bl
      have h3 := blk_lt h2
      have hk2 : W.heap.size ≤ k := hk
      omega⟩
    have hxl : (nodes.filter (offK f m)).length ≤ 5 := List.length_filter_le _ nodes
    generalize hxs : nodes.filter (offK f m) = zs at hxl
    have HXL := Aside0.mk hxl
    have HXS := Aside0.mk hxs
    clear hxl hxs
    generalize hCS : w.heap.size = bx at *
    have HFD : Aside0 (Fr E X Y w W.drew) := ⟨HFB.out.eq rfl⟩
    have HPd := Aside0.mk HPB.out.drew
    have HXd := Aside0.mk (HJ1.out.xa.drew)
    go_region_held3 (fun W' => W'.cell? ⟨bx, 4, none⟩ = some (.int .i64 m)) (first | assumption | exact b4) (first
      | (go_at_call 15
         refine (ps_offer HPd.out m).mono ?_
         rintro e w1 ⟨v, rfl, hR, hP1, hS1⟩
         rw [ks_off, HXS.out] at hR
         obtain ⟨A1, c1, rfl⟩ := Kd.R_slice hR
         have hbox := heap_of_same hS1 bx (.inr rfl) HBOX.out
         have HXA1 := Aside0.mk (HXd.out.same ⟨hS1.1, fun k hk hlt => hS1.2 k (.inl (.inl hk)) hlt⟩)
         have HR1 := Aside0.mk hR
         have HP1 := Aside0.mk hP1
         have b4 := blk_cell hbox 4
         simp at b4
         have HBOX1 := Aside0.mk hbox
         have HS1 := Aside0.mk hS1
         clear hR hP1 hS1 hbox)
      | (go_at_call 29
         refine (xoffer_any HXA1.out m).mono ?_
         rintro e w2 ⟨v, rfl, hR2, hX2, hK2⟩
         rw [HXS.out] at hR2
         obtain ⟨A2, c2, rfl⟩ := Kd.R_slice hR2
         have hbox2 := (hK2.block bx (blk_lt HBOX1.out) (fun h => HNE.out h)).trans HBOX1.out
         have b4 := blk_cell hbox2 4
         simp at b4
         have HRB := Aside0.mk (Kd.R_step HR1.out (fun k ho hlt => hK2.block k hlt (fun h => HLT.out k h ho)))
         have HX2 := Aside0.mk hX2
         have HK2 := Aside0.mk hK2
         have HR2 := Aside0.mk hR2
         clear hR2 hX2 hK2 hbox2)
      | (go_at_call 20
         refine (same_any (Kd.R_reads' HRB.out).2.2 (Kd.R_reads' HR2.out).2.2 (Nat.le_trans HXL.out (by decide))).mono ?_
         rintro e w3 ⟨rfl, nn, rfl⟩
         have b4 : (w2.drewN nn).cell? ⟨bx, 4, none⟩ = some (.int .i64 m) := b4))
    go_wp2
    go_ret
    refine ⟨rfl, rv, offF rv m f, ⟨((HP1.out.weaken (fun k h => .inl h)).kx HK2.out HJ.out.xy).drewN nn, ?_, ?_, ?_, HJ.out.xy⟩, ((HFD.out.trans (Fr.same HS1.out)).kx HK2.out).eq rfl⟩
    · have h := HX2.out
      rw [off_both HJ.out.out] at h
      exact h.drewN nn
    · unfold offF; rw [HJ.out.no]; rfl
    · exact offF_nn HJ.out.nn
  · -- peer
    subst hk
    have e1 : decide (0 ≤ (k : Int)) = true := decide_eq_true (by omega)
    have e2 : decide ((k : Int) < 5) = true := decide_eq_true (by omega)
    have hkI : (k : Int) < 5 := by omega
    have x0 := (HXA.out.cell k 0 hk5 (by omega)).1
    rw [hfn] at x0
    simp [encC] at x0
    have HFN := Aside0.mk hfn
    clear hfn
    go_enter Try.func19, Try.ntmps19
    go_wp2
    go_quiet (fail)
    have hk0 := HKF.out
    have HJ1 := Aside0.mk (HJ.out.boxed (.cells #[.int .u8 kd, .int .u64 rev, .slice A xs.length c, .int .i64 (k : Int), .int .i64 m] 42) nq)
    have HPB := Aside0.mk (HJ.out.ps.box (.cells #[.int .u8 kd, .int .u64 rev, .slice A xs.length c, .int .i64 (k : Int), .int .i64 m] 42) nq)
    have HFB := Aside0.mk (Fr.box (w := w) (E := E) (X := X) (Y := Y) (.cells #[.int .u8 kd, .int .u64 rev, .slice A xs.length c, .int .i64 (k : Int), .int .i64 m] 42) nq)
    have hbox : ((w.alloc (.cells #[.int .u8 kd, .int .u64 rev, .slice A xs.length c, .int .i64 (k : Int), .int .i64 m] 42)).drewN nq).heap[w.heap.size]? = _ := heap_alloc_new w _
    clear c2
    generalize (w.alloc (.cells #[.int .u8 kd, .int .u64 rev, .slice A xs.length c, .int .i64 (k : Int), .int .i64 m] 42)).drewN nq = W at *
    have b0 : W.cell? ⟨w.heap.size, 0, none⟩ = some (.int .u8 kd) := blk_cell hbox 0
    have b3 : W.cell? ⟨w.heap.size, 3, none⟩ = some (.int .i64 (k : Int)) := blk_cell hbox 3
    have b4 : W.cell? ⟨w.heap.size, 4, none⟩ = some (.int .i64 m) := blk_cell hbox 4
    have z0 : W.cell? ⟨X, 0, none⟩ = some (.int .i64 me) := blk_cell HJ1.out.xa.hd 0
    have z2 : W.cell? ⟨X, 2, none⟩ = some (.slice (some ⟨Y, 0, none⟩) 5 5) := blk_cell HJ1.out.xa.hd 2
    have HBOX := Aside0.mk hbox
    clear hbox
    go_wp2_with fail
    clear x0
    have HNE : Aside0 (¬ (w.heap.size = X ∨ w.heap.size = Y)) := ⟨fun h => by
      have h1 := blk_lt HJ.out.xa.hd
      obtain ⟨_, h2, _⟩ := HJ.out.xa.bl
      have h3 := blk_lt h2
      omega⟩
    have HLT : Aside0 (∀ k, (k = X ∨ k = Y) → ¬ (W.drew.heap.size ≤ k)) := ⟨fun k h hk => by
      have h1 := blk_lt HJ1.out.xa.hd
      obtain ⟨_, h2, _⟩ := HJ1.out.xa.bl
      have h3 := blk_lt h2
      have hk2 : W.heap.size ≤ k := hk
      omega⟩
    have hxl : (nodes.filter (offK f m)).length ≤ 5 := List.length_filter_le _ nodes
    generalize hxs : nodes.filter (offK f m) = zs at hxl
    have HXL := Aside0.mk hxl
    have HXS := Aside0.mk hxs
    clear hxl hxs
    generalize hCS : w.heap.size = bx at *
    have HFD : Aside0 (Fr E X Y w W.drew) := ⟨HFB.out.eq rfl⟩
    have HPd := Aside0.mk HPB.out.drew
    have HXd := Aside0.mk (HJ1.out.xa.drew)
    go_region_held3 (fun W' => W'.cell? ⟨bx, 4, none⟩ = some (.int .i64 m)) (first | assumption | exact b4) (first
      | (go_at_call 15
         refine (ps_offer HPd.out m).mono ?_
         rintro e w1 ⟨v, rfl, hR, hP1, hS1⟩
         rw [ks_off, HXS.out] at hR
         obtain ⟨A1, c1, rfl⟩ := Kd.R_slice hR
         have hbox := heap_of_same hS1 bx (.inr rfl) HBOX.out
         have HXA1 := Aside0.mk (HXd.out.same ⟨hS1.1, fun k hk hlt => hS1.2 k (.inl (.inl hk)) hlt⟩)
         have HR1 := Aside0.mk hR
         have HP1 := Aside0.mk hP1
         have b4 := blk_cell hbox 4
         simp at b4
         have HBOX1 := Aside0.mk hbox
         have HS1 := Aside0.mk hS1
         clear hR hP1 hS1 hbox)
      | (go_at_call 29
         refine (xoffer_any HXA1.out m).mono ?_
         rintro e w2 ⟨v, rfl, hR2, hX2, hK2⟩
         rw [HXS.out] at hR2
         obtain ⟨A2, c2, rfl⟩ := Kd.R_slice hR2
         have hbox2 := (hK2.block bx (blk_lt HBOX1.out) (fun h => HNE.out h)).trans HBOX1.out
         have b4 := blk_cell hbox2 4
         simp at b4
         have HRB := Aside0.mk (Kd.R_step HR1.out (fun k ho hlt => hK2.block k hlt (fun h => HLT.out k h ho)))
         have HX2 := Aside0.mk hX2
         have HK2 := Aside0.mk hK2
         have HR2 := Aside0.mk hR2
         clear hR2 hX2 hK2 hbox2)
      | (go_at_call 20
         refine (same_any (Kd.R_reads' HRB.out).2.2 (Kd.R_reads' HR2.out).2.2 (Nat.le_trans HXL.out (by decide))).mono ?_
         rintro e w3 ⟨rfl, nn, rfl⟩
         have b4 : (w2.drewN nn).cell? ⟨bx, 4, none⟩ = some (.int .i64 m) := b4))
    go_wp2
    go_ret
    refine ⟨rfl, rv, offF rv m f, ⟨((HP1.out.weaken (fun k h => .inl h)).kx HK2.out HJ.out.xy).drewN nn, ?_, ?_, ?_, HJ.out.xy⟩, ((HFD.out.trans (Fr.same HS1.out)).kx HK2.out).eq rfl⟩
    · have h := HX2.out
      rw [off_both HJ.out.out] at h
      exact h.drewN nn
    · unfold offF; rw [HJ.out.no]; rfl
    · exact offF_nn HJ.out.nn
end Go.Proofs.Ytfaipapaiobgcaa.M
