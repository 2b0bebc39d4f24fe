/- The law of any commands: the walk. -/
import Derived.Deep.CutRange
import Derived.Test.YtkoaeiiaagipeaaMetaD
namespace Go.Proofs.Ytkoaeiiaagipeaa.M
open Go.RowKit Go.Proofs.YtkoaeiiaagipeaaW.PrintWords Go.Proofs.YtkoaeiiaagipeaaW.PrintLast Go.Proofs.YtkoaeiiaagipeaaW.PrintMore Go.Proofs.Ytkoaeiiaagipeaa.PMetaApplies Go.Proofs.Ytkoaeiiaagipeaa.Pure
set_option linter.unusedVariables false
set_option linter.unusedSimpArgs false
structure UAt (w wq : World) (b5 : Nat) (n : Int) (l : List S42) (A : Option Addr) (c : Nat) : Prop where
  hc : wq.heap[b5]? = some (.cells #[.int .i64 n, .slice A l.length c] 24 (0, 0))
  hl : l.length ≤ c
  hC : Kd.C k42 wq A l.length l
  hB : Below w.heap.size w wq
  sz : l.length * 48 ≤ 140737488351232
  hb : ∀ s ∈ l, RowB s
  hw : w.heap.size ≤ b5
theorem UAt.old {w wq w' : World} {b5 : Nat} {n : Int} {l : List S42} {A : Option Addr} {c : Nat} (h : UAt w wq b5 n l A c) (hb : Below wq.heap.size wq w') : UAt w w' b5 n l A c :=
  ⟨(hb.block _ (blk_lt h.hc)).trans h.hc, h.hl, Kd.C_below h.hC hb, h.hB.trans (hb.mono h.hB.size), h.sz, h.hb, h.hw⟩
def SixC (w : World) (b5 : Nat) (n : Int) (v : Value) (p : Addr) (x : S39) : Prop := (w.cell? ⟨b5, 0, none⟩ = some (.int .i64 n) ∧ w.cell? ⟨b5, 1, none⟩ = some v) ∧ (w.cell? p = some (.int .u8 x.f0) ∧ w.cell? ⟨p.block, p.off + 1, none⟩ = some (.int .i64 x.f1) ∧ w.cell? ⟨p.block, p.off + 2, none⟩ = some (.int .i64 x.f2) ∧ w.cell? ⟨p.block, p.off + 3, none⟩ = some (.int .u64 x.f3))
theorem SixC.below {w w' : World} {b5 : Nat} {n : Int} {v : Value} {p : Addr} {x : S39} (h : SixC w b5 n v p x) (hb : Below w.heap.size w w') : SixC w' b5 n v p x := by
  have e : ∀ {p : Addr} {v : Value}, w.cell? p = some v → w'.cell? p = some v := fun {p v} hp => (hb.cell (World.block_lt_of_cell? w p hp)).trans hp
  obtain ⟨⟨a, b⟩, c, d, f, g⟩ := h
  exact ⟨⟨e a, e b⟩, e c, e d, e f, e g⟩
def okT (x : S42) : Prop := (Lit.int .u64 x.f0).wf = true ∧ (Lit.int .u64 x.f1).wf = true ∧ (Lit.int .i64 x.f2).wf = true ∧ (x.f3.length * 8 ≤ 140737488351232 ∧ ∀ y ∈ x.f3, (Lit.int .i64 y).wf = true)
def okC (x : S39) : Prop := (Lit.int .u8 x.f0).wf = true ∧ (Lit.int .i64 x.f1).wf = true ∧ (Lit.int .i64 x.f2).wf = true ∧ (Lit.int .u64 x.f3).wf = true
/-- what Apply handed back lies in a box -/
structure AppAt (w5 wx : World) (b8 : Nat) (n : Int) (A : Option Addr) (c : Nat) (r : List S42) : Prop where
  h : wx.heap[b8]? = some (.cells #[.int .i64 n, .slice A r.length c] 24 (0, 0))
  l : r.length ≤ c
  R : Kd.R k42 42 wx w5.heap.size (fun _ => True) (.slice A r.length c) r
  b : Below w5.heap.size w5 wx
  g : w5.heap.size ≤ b8
/-- what the reference's Apply handed back lies in a box -/
structure RefAt (w5 wx : World) (b8 : Nat) (n : Int) (A : Option Addr) (c : Nat) (r : List S42) : Prop where
  h : wx.heap[b8]? = some (.cells #[.int .i64 n, .slice A r.length c] 24 (0, 0))
  l : r.length ≤ c
  C : Kd.C k42 wx A r.length r
  b : Below w5.heap.size w5 wx
theorem AppAt.old {w5 wx w' : World} {b8 : Nat} {n : Int} {A : Option Addr} {c : Nat} {r : List S42} (h : AppAt w5 wx b8 n A c r) (hb : Below wx.heap.size wx w') : AppAt w5 w' b8 n A c r :=
  ⟨(hb.block _ (blk_lt h.h)).trans h.h, h.l, Kd.R_below h.R hb, h.b.trans (hb.mono h.b.size), h.g⟩
theorem boxA {w5 w6 : World} {n : Int} {A : Option Addr} {c : Nat} {r : List S42} (hR : Kd.R k42 42 w6 w5.heap.size (fun _ => True) (.slice A r.length c) r) (hl : r.length ≤ c) (hb : Below w5.heap.size w5 w6) : AppAt w5 (w6.alloc (.cells #[.int .i64 n, .slice A r.length c] 24)) w6.heap.size n A c r :=
  ⟨heap_alloc_new _ _, hl, Kd.R_alloc hR _, hb.alloc hb.size _, hb.size⟩
theorem boxB {w5 w6 : World} {n : Int} {A : Option Addr} {c : Nat} {r : List S42} (hR : Kd.R k42 42 w6 (w5.heap.size + 1) (fun _ => True) (.slice A r.length c) r) (hl : r.length ≤ c) (hb : Below w5.heap.size w5 w6) (hz : w6.heap[w5.heap.size]? = some (.cells #[.int .i64 0, .slice none 0 0] 24 (0, 0))) :
    AppAt w5 ((w6.setCell ⟨w5.heap.size, 0, none⟩ (.int .i64 n)).setCell ⟨w5.heap.size, 1, none⟩ (.slice A r.length c)) w5.heap.size n A c r := by
  refine ⟨blk_put (blk_put hz 0 _ rfl) 1 _ rfl, hl, ?_, (hb.setCell (p := ⟨w5.heap.size, 0, none⟩) (Nat.le_refl _) _).setCell (p := ⟨w5.heap.size, 1, none⟩) (Nat.le_refl _) _, Nat.le_refl _⟩
  refine Kd.R_lower (base := w5.heap.size + 1) (Kd.R_mono (Kd.R_step (Kd.R_bound hR) (fun k hk hlt => ?_)) (fun _ _ => trivial)) (by omega)
  have h1 := hk.2.1
  exact (Below.heap_setCell _ ⟨w5.heap.size, 1, none⟩ _ k (by simp; omega)).trans (Below.heap_setCell _ ⟨w5.heap.size, 0, none⟩ _ k (by simp; omega))
theorem refA {w5 w6 : World} {n : Int} {A : Option Addr} {c : Nat} {r : List S42} (hC : ∀ W, Below w5.heap.size w5 W → (∀ k, w5.heap.size ≤ k → k < w6.heap.size → W.heap[k]? = w6.heap[k]?) → Kd.C k42 W A r.length r) (hl : r.length ≤ c) (hb : Below w5.heap.size w5 w6) :
    RefAt w5 (w6.alloc (.cells #[.int .i64 n, .slice A r.length c] 24)) w6.heap.size n A c r :=
  ⟨heap_alloc_new _ _, hl, hC _ (hb.alloc hb.size _) (fun k _ h => Below.heap_alloc _ _ k h), hb.alloc hb.size _⟩
theorem refB {w5 w6 : World} {n : Int} {A : Option Addr} {c : Nat} {r : List S42} (hC : ∀ W, Below w5.heap.size w5 W → (∀ k, w5.heap.size + 1 ≤ k → k < w6.heap.size → W.heap[k]? = w6.heap[k]?) → Kd.C k42 W A r.length r) (hl : r.length ≤ c) (hb : Below w5.heap.size w5 w6) (hz : w6.heap[w5.heap.size]? = some (.cells #[.int .i64 0, .slice none 0 0] 24 (0, 0))) :
    RefAt w5 ((w6.setCell ⟨w5.heap.size, 0, none⟩ (.int .i64 n)).setCell ⟨w5.heap.size, 1, none⟩ (.slice A r.length c)) w5.heap.size n A c r := by
  have hbb := (hb.setCell (p := ⟨w5.heap.size, 0, none⟩) (Nat.le_refl _) (.int .i64 n)).setCell (p := ⟨w5.heap.size, 1, none⟩) (Nat.le_refl _) (.slice A r.length c)
  exact ⟨blk_put (blk_put hz 0 _ rfl) 1 _ rfl, hl, hC _ hbb (fun k h1 _ => (Below.heap_setCell _ ⟨w5.heap.size, 1, none⟩ _ k (by simp; omega)).trans (Below.heap_setCell _ ⟨w5.heap.size, 0, none⟩ _ k (by simp; omega))), hbb⟩
def APost (w : World) (e : Ending) (w' : World) : Prop := e = .returned (.bool true) ∧ Below w.heap.size w w'
set_option maxHeartbeats 8000000 in
set_option maxRecDepth 100000 in
theorem applies_any {w : World} {n : Int} {A : Option Addr} {c : Nat} {l : List S42} {A2 : Option Addr} {c2 : Nat} {cs : List S39} (hr : Kd.C k42 w A l.length l) (hc : l.length ≤ c) (hr2 : Kd.C k39 w A2 cs.length cs) (hc2 : cs.length ≤ c2)
    (hl : l.length * 48 ≤ 140737488351232) (hb : ∀ s ∈ l, RowB s) (hk : ∀ x ∈ cs, 0 ≤ x.f0 ∧ x.f0 ≤ 255) :
    Calls Try.prog 4 #[tabV n A l.length c, .slice A2 cs.length c2] w (APost w) := by
  have HR := Aside0.mk hr
  have HC := Aside0.mk hc
  have HR2 := Aside0.mk hr2
  have HC2 := Aside0.mk hc2
  have HL := Aside0.mk hl
  have HBR := Aside0.mk hb
  have HK := Aside0.mk hk
  have HCM := Kd.C_max hr2
  clear hr hc hr2 hc2 hl hb hk
  go_enter Try.func4, Try.ntmps4
  go_upto_region 1 with (fail)
  have hb1 : Below w.heap.size w (w.alloc (.cells #[.int .i64 n, .slice A l.length c] 24)) := below_alloc (Below.refl _ _) _
  have h2 := heap_alloc_new w (.cells #[.int .i64 n, .slice A l.length c] 24)
  have HB1 := Aside0.mk hb1
  have H2 := Aside0.mk h2
  clear hb1 h2
  generalize (w.alloc (.cells #[.int .i64 n, .slice A l.length c] 24)) = w1 at *
  have HW := Aside0.mk (Nat.le_refl w.heap.size)
  generalize hwb : w.heap.size = b2 at HW H2 ⊢
  have HWB := Aside0.mk hwb
  clear hwb
  go_upto_region 3 with (first | (go_at_call 15; refine (awake_c _).mono ?_; rintro e w2 ⟨rfl, hb2⟩; have HB2 := Aside0.mk hb2; have H22 := Aside0.mk ((hb2.block b2 (blk_lt H2.out)).trans H2.out); clear hb2))
  have x0 : w2.cell? ⟨b2, 0, none⟩ = some (.int .i64 n) := blk_cell H22.out 0
  have x1 : w2.cell? ⟨b2, 1, none⟩ = some (.slice A l.length c) := blk_cell H22.out 1
  go_upto_region 4 with (fail)
  have hb3 : Below w2.heap.size w2 (w2.alloc (.cells #[.int .i64 n, .slice A l.length c] 24)) := below_alloc (Below.refl _ _) _
  have hbw := (HB1.out.trans (HB2.out.mono HB1.out.size))
  have HU : Aside0 (UAt w (w2.alloc (.cells #[.int .i64 n, .slice A l.length c] 24)) w2.heap.size n l A c) := ⟨⟨heap_alloc_new _ _, HC.out, Kd.C_below HR.out (hbw.trans (hb3.mono hbw.size)), hbw.trans (hb3.mono hbw.size), HL.out, HBR.out, hbw.size⟩⟩
  clear x0 x1 hb3 hbw
  generalize (w2.alloc (.cells #[.int .i64 n, .slice A l.length c] 24)) = w3 at *
  generalize w2.heap.size = b5 at *
  go_wp2
  go_loopw [6] (fun i wq => ∃ (k : Nat) (l' : List S42) (A' : Option Addr) (c' : Nat), i = .int .i64 (k : Int) ∧ k ≤ 50 ∧ Aside0 (UAt w wq b5 n l' A' c')) (fun i _ => 50 - (intOf i).toNat)
  case atStart => exact ⟨0, l, A, c, rfl, by omega, HU⟩
  case round =>
    clear HU
    obtain ⟨k, l', A', c', rfl, hk50, HU⟩ := hrel
    by_cases hkl : k < cs.length
    · by_cases hk5 : k < 50
      · have hkb0 : (0 : Int) ≤ (k : Int) := by omega
        have hkb1 : (k : Int) < (cs.length : Int) := by omega
        have hkb2 : (k : Int) < 50 := by omega
        obtain ⟨ad, rfl, p0, p1, p2, p3⟩ := cmd_at HR2.out k hkl
        have HX := Aside0.mk (HK.out _ (List.getElem_mem hkl))
        generalize cs[k] = x at *
        have HP0 := Aside0.mk p0
        have HP1 := Aside0.mk p1
        have HP2 := Aside0.mk p2
        have HP3 := Aside0.mk p3
        clear p0 p1 p2 p3
        have x0 : wr.cell? ⟨b5, 0, none⟩ = some (.int .i64 n) := blk_cell HU.out.hc 0
        have x1 : wr.cell? ⟨b5, 1, none⟩ = some (.slice A' l'.length c') := blk_cell HU.out.hc 1
        go_upto_region 8 with (first | (go_at_call 21; refine (copy_c HU.out.hC HU.out.hl HU.out.sz HU.out.hb).mono ?_; rintro e w4 ⟨v4, rfl, hS4, hb4⟩; obtain ⟨A4, c4, e4, hc4, hC4⟩ := Kd.S_reads hS4; subst e4; have HS4 := Aside0.mk hS4; have HL4 := Aside0.mk hc4; have HB4 := Aside0.mk hb4; clear hS4 hb4 hC4 hc4))
        have hb5 : Below w4.heap.size w4 (w4.alloc (.cells #[.int .i64 n, .slice A4 l'.length c4] 24)) := below_alloc (Below.refl _ _) _
        have h7 := heap_alloc_new w4 (.cells #[.int .i64 n, .slice A4 l'.length c4] 24)
        have HBA := Aside0.mk (HB4.out.trans (hb5.mono HB4.out.size))
        have HS5 := Aside0.mk (Kd.S_below HS4.out hb5)
        have HZ5 : Aside0 ((w4.alloc (.cells #[.int .i64 n, .slice A4 l'.length c4] 24)).heap.size = w4.heap.size + 1) := ⟨by simp⟩
        have H7 := Aside0.mk h7
        have HLH : Aside0 (wr.heap.size ≤ w4.heap.size) := ⟨HB4.out.size⟩
        have hwz := HU.out.hB.size
        have hu5 := blk_lt HU.out.hc
        have HWS : Aside0 (∃ lo, w.heap.size ≤ lo ∧ b5 < lo ∧ lo ≤ w4.heap.size ∧ ∀ g, A4 = some ⟨g, 0, none⟩ → Was (w4.alloc (.cells #[.int .i64 n, .slice A4 l'.length c4] 24)) lo w4.heap.size g l') := ⟨⟨wr.heap.size, hwz, hu5, HB4.out.size, fun g e => (Was.of (e ▸ HS4.out) (Nat.le_refl _)).old hb5⟩⟩
        clear x0 x1 hb5 h7
        clear HS4 HB4
        generalize (w4.alloc (.cells #[.int .i64 n, .slice A4 l'.length c4] 24)) = w5 at *
        generalize w4.heap.size = b7 at *
        have HU5 := Aside0.mk (HU.out.old HBA.out)
        have HSX : Aside0 (SixC w5.drew b5 n (.slice A' l'.length c') (ad.add (k * 4)) x) := ⟨⟨⟨blk_cell HU5.out.hc 0, blk_cell HU5.out.hc 1⟩, (HU5.out.hB.cell (World.block_lt_of_cell? w _ HP0.out)).trans HP0.out, (HU5.out.hB.cell (World.block_lt_of_cell? w _ HP1.out)).trans HP1.out, (HU5.out.hB.cell (World.block_lt_of_cell? w _ HP2.out)).trans HP2.out, (HU5.out.hB.cell (World.block_lt_of_cell? w _ HP3.out)).trans HP3.out⟩⟩
        have HBD : Aside0 (Below w5.heap.size w5 w5.drew) := ⟨below_drew (Below.refl _ _)⟩
        have HS0 : Aside0 (SixC w5 b5 n (.slice A' l'.length c') (ad.add (k * 4)) x) := ⟨HSX.out⟩
        have HBD2 : Aside0 (Below w5.heap.size w5 (w5.alloc (.cells #[.int .i64 0, .slice none 0 0] 24)).drew) := ⟨below_drew (below_alloc (Below.refl _ _) _)⟩
        go_cut [8, 9] from 17 to 88 (fun s8 s9 wx => ∃ (b8 : Nat) (A6 : Option Addr) (c6 : Nat), s8 = .pointer (some ⟨b8, 0, none⟩) ∧ s9 = .bool (applyV n l' x.f0 x.f1 x.f2 x.f3).2 ∧ Aside0 (AppAt w5 wx b8 n A6 c6 (applyV n l' x.f0 x.f1 x.f2 x.f3).1))
        case first =>
          go_region_held3 (fun W' => (W'.cell? ⟨b5, 0, none⟩ = some (.int .i64 n) ∧ W'.cell? ⟨b5, 1, none⟩ = some (.slice A' l'.length c')) ∧ (W'.cell? (ad.add (k * 4)) = some (.int .u8 x.f0) ∧ W'.cell? ⟨(ad.add (k * 4)).block, (ad.add (k * 4)).off + 1, none⟩ = some (.int .i64 x.f1) ∧ W'.cell? ⟨(ad.add (k * 4)).block, (ad.add (k * 4)).off + 2, none⟩ = some (.int .i64 x.f2) ∧ W'.cell? ⟨(ad.add (k * 4)).block, (ad.add (k * 4)).off + 3, none⟩ = some (.int .u64 x.f3))) ((refine HS0.out.below ?_; repeat (first | exact HBD6.out | exact HBD2.out | exact HBD.out | exact below_drew (below_alloc (Below.refl _ _) _) | (refine Below.setCell ?_ (by first | exact Nat.le_refl _ | omega | (simp; omega)) _) | (refine Below.alloc ?_ (by first | exact Nat.le_refl _ | omega | (simp; omega)) _)))) (first
            | (go_at_call 22
               refine (papply_c (w := w5.drew) (HU5.out.old HBD.out).hC HU5.out.hl HU5.out.sz HU5.out.hb _ _ _ _).mono ?_
               rintro e w6 ⟨v6, rfl, hR6, hb6⟩
               obtain ⟨A6, c6, e6, hc6, hC6⟩ := Kd.R_reads hR6
               subst e6
               have HR6 := Aside0.mk hR6
               have HL6 := Aside0.mk hc6
               have HBD6 := Aside0.mk (HBD.out.trans hb6)
               have hz6 := HBD6.out.size
               clear hR6 hc6 hC6 hb6)
            | (go_at_call 22
               refine (papply_c (w := (w5.alloc (.cells #[.int .i64 0, .slice none 0 0] 24)).drew) (HU5.out.old HBD2.out).hC HU5.out.hl HU5.out.sz HU5.out.hb _ _ _ _).mono ?_
               rintro e w6 ⟨v6, rfl, hR6, hb6⟩
               obtain ⟨A6, c6, e6, hc6, hC6⟩ := Kd.R_reads hR6
               subst e6
               rw [show (w5.alloc (.cells #[.int .i64 0, .slice none 0 0] 24)).drew.heap.size = w5.heap.size + 1 by simp] at hR6
               have HR6 := Aside0.mk hR6
               have HL6 := Aside0.mk hc6
               have HB6 := Aside0.mk hb6
               have HBD6 := Aside0.mk (HBD2.out.trans (hb6.mono (by simp)))
               have hz6 := HBD6.out.size
               have hz8 := (hb6.block w5.heap.size (by simp)).trans (show (w5.alloc (.cells #[.int .i64 0, .slice none 0 0] 24)).drew.heap[w5.heap.size]? = _ from heap_alloc_new w5 _)
               have HZ8 := Aside0.mk hz8
               have z0 := blk_cell hz8 0
               have z1 := blk_cell hz8 1
               have z2 : w6.frozen? ⟨w5.heap.size, 0, none⟩ = false := blk_frozen hz8 0
               have z3 : w6.frozen? ⟨w5.heap.size, 1, none⟩ = false := blk_frozen hz8 1
               clear hR6 hc6 hC6 hb6 hz8))
          all_goals (go_wp2_with fail; go_meet)
          · exact ⟨_, A6, c6, rfl, rfl, ⟨boxA HR6.out HL6.out HBD6.out⟩⟩
          · exact ⟨_, A6, c6, rfl, rfl, ⟨boxB HR6.out HL6.out HBD6.out HZ8.out⟩⟩
        case rest =>
        obtain ⟨b8, A6, c6, rfl, rfl, HA8⟩ := hcut
        obtain ⟨w8, hw8⟩ : ∃ w8, w8 = wc := ⟨_, rfl⟩
        subst hw8
        have HR8 := blk_lt HA8.out.h
        clear HBD HBD2 HS0 HSX
        have HU8 := Aside0.mk (HU5.out.old HA8.out.b)
        have HBD : Aside0 (Below w8.heap.size w8 w8.drew) := ⟨below_drew (Below.refl _ _)⟩
        have HS0 : Aside0 (SixC w8 b5 n (.slice A' l'.length c') (ad.add (k * 4)) x) := ⟨⟨blk_cell HU8.out.hc 0, blk_cell HU8.out.hc 1⟩, (HU8.out.hB.cell (World.block_lt_of_cell? w _ HP0.out)).trans HP0.out, (HU8.out.hB.cell (World.block_lt_of_cell? w _ HP1.out)).trans HP1.out, (HU8.out.hB.cell (World.block_lt_of_cell? w _ HP2.out)).trans HP2.out, (HU8.out.hB.cell (World.block_lt_of_cell? w _ HP3.out)).trans HP3.out⟩
        have HBD2 : Aside0 (Below w8.heap.size w8 (w8.alloc (.cells #[.int .i64 0, .slice none 0 0] 24)).drew) := ⟨below_drew (below_alloc (Below.refl _ _) _)⟩
        go_wp2
        go_cut [10, 11] from 17 to 88 (fun s8 s9 wx => ∃ (b10 : Nat) (A10 : Option Addr) (c10 : Nat), s8 = .pointer (some ⟨b10, 0, none⟩) ∧ s9 = .bool (applyV n l' x.f0 x.f1 x.f2 x.f3).2 ∧ Aside0 (RefAt w8 wx b10 n A10 c10 (applyV n l' x.f0 x.f1 x.f2 x.f3).1))
        case first =>
          go_region_held3 (fun W' => (W'.cell? ⟨b5, 0, none⟩ = some (.int .i64 n) ∧ W'.cell? ⟨b5, 1, none⟩ = some (.slice A' l'.length c')) ∧ (W'.cell? (ad.add (k * 4)) = some (.int .u8 x.f0) ∧ W'.cell? ⟨(ad.add (k * 4)).block, (ad.add (k * 4)).off + 1, none⟩ = some (.int .i64 x.f1) ∧ W'.cell? ⟨(ad.add (k * 4)).block, (ad.add (k * 4)).off + 2, none⟩ = some (.int .i64 x.f2) ∧ W'.cell? ⟨(ad.add (k * 4)).block, (ad.add (k * 4)).off + 3, none⟩ = some (.int .u64 x.f3))) ((refine HS0.out.below ?_; repeat (first | exact HBD9.out | exact HBD2.out | exact HBD.out | exact below_drew (below_alloc (Below.refl _ _) _) | (refine Below.setCell ?_ (by first | exact Nat.le_refl _ | omega | (simp; omega)) _) | (refine Below.alloc ?_ (by first | exact Nat.le_refl _ | omega | (simp; omega)) _)))) (first
            | (go_at_call 23
               refine (rapply_c (w0 := w8) (w := w8.drew) HU8.out.hC HBD.out HU8.out.hl HU8.out.hb HX.out).mono ?_
               rintro e w9 ⟨A9, c9, rfl, hl9, hC9, hb9⟩
               have HC9 := Aside0.mk hC9
               have HL9 := Aside0.mk hl9
               have HBD9 := Aside0.mk (HBD.out.trans hb9)
               have hz9 := HBD9.out.size
               clear hl9 hC9 hb9)
            | (go_at_call 23
               refine (rapply_c (w0 := w8) (w := (w8.alloc (.cells #[.int .i64 0, .slice none 0 0] 24)).drew) HU8.out.hC HBD2.out HU8.out.hl HU8.out.hb HX.out).mono ?_
               rintro e w9 ⟨A9, c9, rfl, hl9, hC9, hb9⟩
               have HBD9 := Aside0.mk (HBD2.out.trans (hb9.mono (by simp)))
               have hz9 := HBD9.out.size
               have hz8 := (hb9.block w8.heap.size (by simp)).trans (show (w8.alloc (.cells #[.int .i64 0, .slice none 0 0] 24)).drew.heap[w8.heap.size]? = _ from heap_alloc_new w8 _)
               rw [show (w8.alloc (.cells #[.int .i64 0, .slice none 0 0] 24)).drew.heap.size = w8.heap.size + 1 by simp] at hC9
               have HC9 := Aside0.mk hC9
               have HL9 := Aside0.mk hl9
               have HZ8 := Aside0.mk hz8
               have z0 := blk_cell hz8 0
               have z1 := blk_cell hz8 1
               have z2 : w9.frozen? ⟨w8.heap.size, 0, none⟩ = false := blk_frozen hz8 0
               have z3 : w9.frozen? ⟨w8.heap.size, 1, none⟩ = false := blk_frozen hz8 1
               clear hl9 hC9 hb9 hz8))
          all_goals (go_wp2_with fail; go_meet)
          · exact ⟨_, A9, c9, rfl, rfl, ⟨refA HC9.out HL9.out HBD9.out⟩⟩
          · exact ⟨_, A9, c9, rfl, rfl, ⟨refB HC9.out HL9.out HBD9.out HZ8.out⟩⟩
        case rest =>
        obtain ⟨b10, A10, c10, rfl, rfl, HA10⟩ := hcut
        have hok := applyV_ok (n := n) HU.out.sz HU.out.hb x.f0 x.f1 x.f2 x.f3
        have HOK := Aside0.mk hok
        have HU10 := Aside0.mk (HU8.out.old HA10.out.b)
        have HA8c := Aside0.mk (HA8.out.old HA10.out.b)
        have hbc := HA8.out.b.trans (HA10.out.b.mono HA8.out.b.size)
        have H7c := Aside0.mk ((hbc.block b7 (blk_lt H7.out)).trans H7.out)
        have HSc := Aside0.mk (Kd.S_below HS5.out hbc)
        have HBC := Aside0.mk hbc
        clear hok hbc HBD HBD2 HS0
        have a0 : wc.cell? ⟨b8, 0, none⟩ = some (.int .i64 n) := blk_cell HA8c.out.h 0
        have a1 : wc.cell? ⟨b8, 1, none⟩ = some (.slice A6 (applyV n l' x.f0 x.f1 x.f2 x.f3).1.length c6) := blk_cell HA8c.out.h 1
        have b0 : wc.cell? ⟨b10, 0, none⟩ = some (.int .i64 n) := blk_cell HA10.out.h 0
        have b1 : wc.cell? ⟨b10, 1, none⟩ = some (.slice A10 (applyV n l' x.f0 x.f1 x.f2 x.f3).1.length c10) := blk_cell HA10.out.h 1
        generalize hap : applyV n l' x.f0 x.f1 x.f2 x.f3 = ap at *
        have HAP := Aside0.mk hap
        clear hap
        go_upto_region 12 with (first
          | (go_at_call 17
             (with_reducible refine (same_c (l := ap.1) (Kd.R_reads' HA8c.out.R).2.2 HA8c.out.l HA10.out.C HA10.out.l HOK.out.1 HOK.out.2).mono ?_)
             rintro e w11 ⟨rfl, hb11⟩
             have HB11 := Aside0.mk hb11
             have HU11 := Aside0.mk (HU10.out.old hb11)
             have H711 := Aside0.mk ((hb11.block b7 (blk_lt H7c.out)).trans H7c.out)
             have u0 : w11.cell? ⟨b5, 0, none⟩ = some (.int .i64 n) := blk_cell HU11.out.hc 0
             have u1 : w11.cell? ⟨b5, 1, none⟩ = some (.slice A' l'.length c') := blk_cell HU11.out.hc 1
             have v0 : w11.cell? ⟨b7, 0, none⟩ = some (.int .i64 n) := blk_cell H711.out 0
             have v1 : w11.cell? ⟨b7, 1, none⟩ = some (.slice A4 l'.length c4) := blk_cell H711.out 1
             clear hb11)
          | (go_at_call 17
             (with_reducible refine (same_c (l := l') HU11.out.hC HU11.out.hl (Kd.S_reads' (Kd.S_below HSc.out HB11.out)).2.2 HL4.out HU11.out.sz HU11.out.hb).mono ?_)
             rintro e w12 ⟨rfl, hb12⟩
             have HB12 := Aside0.mk (HB11.out.trans (hb12.mono HB11.out.size))
             clear hb12))
        obtain ⟨lo, hlo1, hlo2, hlo3, hwas⟩ := HWS.out
        have HWA : Aside0 (∀ g, A4 = some ⟨g, 0, none⟩ → Was w12 lo b7 g l') := ⟨fun g e => ((hwas g e).old HBC.out).old HB12.out⟩
        have HA8d := Aside0.mk (HA8c.out.old HB12.out)
        have HU12 := Aside0.mk (HU10.out.old HB12.out)
        have H712 := Aside0.mk ((HB12.out.block b7 (blk_lt H7c.out)).trans H7c.out)
        have hb57 : w5.heap.size = b7 + 1 := HZ5.out
        have hb8g : w5.heap.size ≤ b8 := HA8.out.g
        have hll : l'.length * 48 ≤ 140737488351232 := HU.out.sz
        clear hwas u0 u1 v0 v1 a0 a1 b0 b1
        go_wp2
        go_loopw [12] (fun i wq => ∃ (q : Nat), i = .int .i64 (q : Int) ∧ q ≤ l'.length ∧ Aside0 (Kw lo b7 w12 wq) ∧ Aside0 (∀ g, A4 = some ⟨g, 0, none⟩ → Was wq lo b7 g l')) (fun i _ => l'.length - (intOf i).toNat)
        case atStart => exact ⟨0, rfl, by omega, ⟨Kw.refl _ _ _⟩, HWA⟩
        case round =>
          clear HWA
          obtain ⟨q, rfl, hq, HKQ, HWQ⟩ := hrel
          rename World => wo
          have h7o := (HKQ.out.block b7 (by omega)).trans H712.out
          have v0 : wo.cell? ⟨b7, 0, none⟩ = some (.int .i64 n) := blk_cell h7o 0
          have v1 : wo.cell? ⟨b7, 1, none⟩ = some (.slice A4 l'.length c4) := blk_cell h7o 1
          clear h7o
          by_cases hql : q < l'.length
          · obtain ⟨g, cap4, e4, _⟩ := Kd.S_form HS5.out (by omega)
            obtain rfl : A4 = some ⟨g, 0, none⟩ := by simp only [Value.slice.injEq] at e4; exact e4.1
            have hqb0 : (0 : Int) ≤ (q : Int) := by omega
            have hqb1 : (q : Int) < (l'.length : Int) := by omega
            clear e4
            go_wp2
            go_loopw [13] (fun i wq => ∃ (j : Nat), i = .int .i64 (j : Int) ∧ j ≤ l'[q].f3.length ∧ Aside0 (Kw lo b7 w12 wq) ∧ Aside0 (Was wq lo b7 g l')) (fun i _ => l'[q].f3.length - (intOf i).toNat)
            case atStart => exact ⟨0, rfl, by omega, HKQ, ⟨HWQ.out g rfl⟩⟩
            case round =>
              clear HKQ HWQ
              obtain ⟨j, rfl, hj, HKQ, HWQ⟩ := hrel
              have h7o := (HKQ.out.block b7 (by omega)).trans H712.out
              have v0 : wr.cell? ⟨b7, 0, none⟩ = some (.int .i64 n) := blk_cell h7o 0
              have v1 : wr.cell? ⟨b7, 1, none⟩ = some (.slice (some ⟨g, 0, none⟩) l'.length c4) := blk_cell h7o 1
              clear h7o
              have hsm : l'[q].f3.length ≤ 17592186043904 := (HU.out.hb _ (List.getElem_mem hql)).1.2
              obtain ⟨vi, hvi, hcase⟩ := HWQ.out.hd q hql
              rcases hcase with ⟨hz0, Az, cz, rfl⟩ | ⟨gi, cap, rfl, hg1, hg2, hg3, hg4, cells, hg5, hg6⟩
              · have hj0 : j = 0 := by omega
                subst hj0
                go_wp2
                go_roundw
                case rel => exact ⟨q + 1, by go_num, by omega, HKQ, ⟨fun g' e => by cases e; exact HWQ.out⟩⟩
                case measure => simp [intOf]; omega
              · by_cases hjl : j < l'[q].f3.length
                · obtain ⟨cv, hc0⟩ : ∃ cv, wr.cell? ⟨gi, j, none⟩ = some cv := ⟨cells[j]'(by omega), (blk_cell hg5 j).trans (Array.getElem?_eq_getElem _)⟩
                  have hf0 : wr.frozen? ⟨gi, j, none⟩ = false := blk_frozen hg5 j
                  have hjb0 : (0 : Int) ≤ (j : Int) := by omega
                  have hjb1 : (j : Int) < (l'[q].f3.length : Int) := by omega
                  have HG1 := Aside0.mk hg1
                  have HG2 := Aside0.mk hg2
                  have HG3 := Aside0.mk hg3
                  clear hg5 hg6 hg1 hg2 hg3
                  go_wp2
                  go_roundw
                  case rel => exact ⟨j + 1, by go_num, by omega, ⟨HKQ.out.set HG1.out HG2.out _⟩, ⟨HWQ.out.set HG3.out _⟩⟩
                  case measure => simp [intOf]; omega
                · clear hg5 hg6
                  go_wp2
                  go_roundw
                  case rel => exact ⟨q + 1, by go_num, by omega, HKQ, ⟨fun g' e => by cases e; exact HWQ.out⟩⟩
                  case measure => simp [intOf]; omega
          · have h8o := (HKQ.out.block b8 (by omega)).trans HA8d.out.h
            have h5o := (HKQ.out.block b5 (by omega)).trans HU12.out.hc
            have H5O := Aside0.mk h5o
            have a0 : wo.cell? ⟨b8, 0, none⟩ = some (.int .i64 n) := blk_cell h8o 0
            have a1 : wo.cell? ⟨b8, 1, none⟩ = some (.slice A6 ap.1.length c6) := blk_cell h8o 1
            have u0 : wo.cell? ⟨b5, 0, none⟩ = some (.int .i64 n) := blk_cell h5o 0
            have u1 : wo.cell? ⟨b5, 1, none⟩ = some (.slice A' l'.length c') := blk_cell h5o 1
            have u2 : wo.frozen? ⟨b5, 0, none⟩ = false := blk_frozen h5o 0
            have u3 : wo.frozen? ⟨b5, 1, none⟩ = false := blk_frozen h5o 1
            have HUN : Aside0 (UAt w ((wo.setCell ⟨b5, 0, none⟩ (.int .i64 n)).setCell ⟨b5, 1, none⟩ (.slice A6 ap.1.length c6)) b5 n ap.1 A6 c6) := ⟨by
              have hRn : Kd.R k42 42 ((wo.setCell ⟨b5, 0, none⟩ (.int .i64 n)).setCell ⟨b5, 1, none⟩ (.slice A6 ap.1.length c6)) w5.heap.size (fun _ => True) (.slice A6 ap.1.length c6) ap.1 := by
                refine Kd.R_mono (Kd.R_step (Kd.R_bound HA8d.out.R) (fun k hk hlt => ?_)) (fun _ _ => trivial)
                have h1 := hk.2.1
                exact (Below.heap_setCell _ ⟨b5, 1, none⟩ _ k (by simp; omega)).trans ((Below.heap_setCell _ ⟨b5, 0, none⟩ _ k (by simp; omega)).trans (HKQ.out.block k (by omega)))
              exact ⟨blk_put (blk_put H5O.out 0 _ rfl) 1 _ rfl, HA8d.out.l, (Kd.R_reads' hRn).2.2, ((HKQ.out.below HU12.out.hB hlo1).setCell (p := ⟨b5, 0, none⟩) HU.out.hw _).setCell (p := ⟨b5, 1, none⟩) HU.out.hw _, HOK.out.1, HOK.out.2, HU.out.hw⟩⟩
            clear h8o h5o
            go_wp2
            go_roundw
            case rel => first | exact ⟨k + 1, ap.1, A6, c6, by go_num, by omega, HUN⟩ | ((repeat apply Exists.intro); exact ⟨⟨k + 1, ap.1, A6, c6, by go_num, by omega, HUN⟩, rfl⟩)
            case measure => simp [intOf]; omega
      · have hk5' : ¬ (k : Int) < 50 := by omega
        have hkl' : (k : Int) < (cs.length : Int) := by omega
        go_wp2
        go_ret
        exact ⟨rfl, HU.out.hB⟩
    · go_wp2
      go_ret
      exact ⟨rfl, HU.out.hB⟩
theorem metaApplies_law (n : Int) (A : Option Addr) (c : Nat) (l : List S42) (A2 : Option Addr) (c2 : Nat) (cs : List S39) (W : World) (hC : Kd.C k42 W A l.length l) (hc : l.length ≤ c) (hC2 : Kd.C k39 W A2 cs.length cs) (hc2 : cs.length ≤ c2)
    {P Q : Prop} (h1 : P) (h2 : l.length * 48 ≤ 140737488351232 ∧ ∀ y ∈ l, okT y) (h3 : Q ∧ ∀ y ∈ cs, okC y) :
    Calls Try.prog 4 #[tabV n A l.length c, .slice A2 cs.length c2] W fun e w' => e = .returned (.bool true) ∧ Below W.heap.size W w' := by
  refine applies_any hC hc hC2 hc2 h2.1 (fun s hs => ?_) (fun x hx => ?_)
  · have h := h2.2 s hs
    have a : 0 ≤ s.f0 ∧ s.f0 ≤ 18446744073709551615 := wf_u64 h.1
    have b : 0 ≤ s.f1 ∧ s.f1 ≤ 18446744073709551615 := wf_u64 h.2.1
    exact ⟨⟨b.1, by have := h.2.2.2.1; omega⟩, a.1⟩
  · have h := (h3.2 x hx).1
    simpa [Lit.wf, IntKind.min, IntKind.max, IntKind.signed, IntKind.bits] using h
end Go.Proofs.Ytkoaeiiaagipeaa.M
