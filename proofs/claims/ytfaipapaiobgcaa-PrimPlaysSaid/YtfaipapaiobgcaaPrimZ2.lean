/- The reference's peers: Sure, Offer. -/
import Derived.Test.YtfaipapaiobgcaaPrimZ
import Derived.Deep.RegionLaw
import Derived.RegionTactic
import Derived.Laws.NewBlocks
namespace Go.Proofs.Ytfaipapaiobgcaa.M
open Go.RowKit Go.Maps Go.ChangeMaps Go.Proofs.YtfaipapaiobgcaaW.PrintWords Go.Proofs.YtfaipapaiobgcaaW.PrintLast Go.Proofs.YtfaipapaiobgcaaW.PrintMore Go.Proofs.Ytfaipapaiobgcaa.PPrimPlays
set_option linter.unusedVariables false
set_option linter.unusedSimpArgs false
theorem pk_needs (f : PF) : pkF f true = needsF f := by
  unfold pkF needsF ksF
  rw [List.filter_filter]
  apply List.filter_congr
  intro k _
  unfold pickB needB
  cases f k <;> simp
theorem pk_ks (f : PF) : pkF f false = ksF f := by
  unfold pkF ksF
  apply List.filter_congr
  intro k _
  unfold pickB
  cases f k <;> simp
theorem add_0 (g j : Nat) : (⟨g, 0, none⟩ : Addr).add j = ⟨g, j, none⟩ := by
  simp only [Addr.add, Nat.zero_add]
  split
  · rename_i h0; rw [h0]
  · rfl
/-- an owned row of whole numbers lies at the front of a block -/
theorem own_front {e : Nat} {w : World} {base : Nat} {ok : Nat → Prop} {A : Option Addr} {c : Nat} {xs : List Int} (h : Kd.R (Kd.int .i64) e w base ok (.slice A xs.length c) xs) (hn : 0 < xs.length) : ∃ g, A = some ⟨g, 0, none⟩ ∧ g < w.heap.size := by
  have ho := Kd.own_of_R h
  rcases ho.2 with ⟨h1, h2⟩ | ⟨g, cap, cur, h1, hg, hh, _⟩
  · omega
  · injection h1 with h1 h2 h3
    exact ⟨g, h1, blk_lt hh⟩
set_option maxHeartbeats 8000000 in
theorem xsure_any {w : World} {X Y : Nat} {me rv : Int} {f : PF} (h : XA w X Y me rv f) (n : Int) :
    Calls Try.prog 22 #[pt X, .int .i64 n] w fun e w' => e = .returned (.int .i64 (sureV f n)) ∧ Below w.heap.size w w' := by
  have hsv : sureV f n = sureF f (pkF f true) n := by unfold sureV; rw [pk_needs]
  rw [hsv]
  clear hsv
  have hall : ∀ k ∈ pkF f true, ∃ (m : Nat) (p : Pe), m < 5 ∧ k = (m : Int) ∧ f k = some p := fun k hk => by
    obtain ⟨h1, h2⟩ := List.mem_filter.1 hk
    have := (mem_nodes k).1 h1
    cases hf : f k with
    | none => rw [hf] at h2; cases h2
    | some p => exact ⟨k.toNat, p, by omega, by omega, rfl⟩
  have hpl : (pkF f true).length ≤ 5 := List.length_filter_le _ nodes
  have HX := Aside0.mk h
  have HALL := Aside0.mk hall
  clear h hall
  go_enter Try.func22, Try.ntmps22
  go_wp2_with fail
  refine (xpeers_any HX.out true).mono ?_
  rintro e w1 ⟨v, rfl, hR, hB⟩
  generalize hnl : pkF f true = nl at hpl HALL hR
  have HNL := Aside0.mk hnl
  clear hnl
  obtain ⟨A, c, rfl⟩ := Kd.R_slice hR
  have HR := Aside0.mk hR
  have HB := Aside0.mk hB
  clear hR hB
  go_wp2
  go_loopw [1, 6] (fun nv i wq => ∃ (j : Nat) (m : Int), nv = .int .i64 m ∧ i = .int .i64 j ∧ j ≤ nl.length ∧ Aside0 (sureF f nl n = sureF f (nl.drop j) m) ∧ Aside0 (Below w1.heap.size w1 wq)) (fun _ i _ => nl.length - (intOf i).toNat)
  case atStart => exact ⟨0, n, rfl, rfl, Nat.zero_le _, ⟨by simp⟩, ⟨Below.refl _ _⟩⟩
  case round =>
    obtain ⟨j, m, rfl, rfl, hj, HE, HBq⟩ := hrel
    have hXq : XA wr X Y me rv f := HX.out.below (HB.out.trans (HBq.out.mono HB.out.size))
    by_cases hlt : j < nl.length
    · have hC : Kd.C (Kd.int .i64) wr A nl.length nl := Kd.C_below (Kd.R_reads' HR.out).2.2 HBq.out
      obtain ⟨g, rfl, hg1⟩ := own_front HR.out (by omega)
      obtain ⟨ad, ead, hc⟩ := ints_cell hC j hlt
      obtain rfl : ad = ⟨g, 0, none⟩ := (Option.some.inj ead).symm
      clear ead
      rw [add_0] at hc
      have hgl : g < wr.heap.size := Nat.lt_of_lt_of_le hg1 HBq.out.size
      have hXl : X < wr.heap.size := blk_lt hXq.hd
      have hYl : Y < wr.heap.size := by obtain ⟨_, h, _⟩ := hXq.bl; exact blk_lt h
      have HT := Aside0.mk (List.drop_eq_getElem_cons hlt)
      obtain ⟨k, p, hk5, hky, hf⟩ := HALL.out nl[j] (List.getElem_mem hlt)
      generalize nl[j] = y at hc HT hky hf
      subst hky
      have HF := Aside0.mk hf
      have hcells := fun c hc => (hXq.cell k c hk5 hc).1
      have c2 : wr.cell? ⟨X, 2, none⟩ = some (.slice (some ⟨Y, 0, none⟩) 5 5) := blk_cell hXq.hd 2
      have x0 := hcells 0 (by omega)
      have x1 := hcells 1 (by omega)
      have x2 := hcells 2 (by omega)
      have x3 := hcells 3 (by omega)
      have x4 := hcells 4 (by omega)
      have x5 := hcells 5 (by omega)
      rw [hf] at x0 x1 x2 x3 x4 x5
      clear hcells hXq hC hf
      simp [encC] at x0 x1 x2 x3 x4 x5
      have hkI : (k : Int) < 5 := by omega
      have HSF : ∀ b : Bool, p.a = b → Aside0 (sureF f (nl.drop j) m = if b = true then sureF f (nl.drop (j + 1)) (min m p.h) else 0) := fun b hb => ⟨by
        rw [HT.out]
        show (match f (k : Int) with | some p => if p.a = true then sureF f (nl.drop (j + 1)) (min m p.h) else 0 | none => 0) = _
        rw [HF.out]
        dsimp only
        rw [hb]⟩
      cases ha : p.a
      · rw [ha] at x3
        have HSF2 := HSF false ha
        clear HSF ha
        go_wp2
        go_region
        go_wp2
        go_ret
        refine ⟨?_, HB.out.trans ((HBq.out.mono HB.out.size).trans ((Below.drew ((Below.refl _ _).alloc (Nat.le_trans HB.out.size HBq.out.size) _))))⟩
        show Ending.returned (.int .i64 0) = _
        rw [HNL.out, HE.out, HSF2.out]; rfl
      · rw [ha] at x3
        have HSF2 := HSF true ha
        clear HSF ha
        have HBn : Aside0 (∀ o, Below w1.heap.size w1 (wr.alloc o).drew) := ⟨fun o => (HBq.out.alloc HBq.out.size o).drew⟩
        by_cases hlt2 : p.h < m
        all_goals
          go_wp2
          go_region
          go_wp2
          go_roundw
          case rel =>
            refine ⟨j + 1, min m p.h, by first | rfl | (congr 1; omega), by go_num, by omega, ⟨?_⟩, ⟨HBn.out _⟩⟩
            rw [HE.out, HSF2.out]; rfl
          case measure => simp [intOf]; omega
    · have HD := Aside0.mk (show nl.drop j = [] from List.drop_of_length_le (by omega))
      clear hXq
      by_cases hm0 : m < 0
      · go_wp2
        go_ret
        refine ⟨?_, HB.out.trans (HBq.out.mono HB.out.size)⟩
        show Ending.returned (.int .i64 0) = _
        rw [HNL.out, HE.out, HD.out]
        show _ = Ending.returned (.int .i64 (max 0 m))
        congr 2; omega
      · go_wp2
        go_ret
        refine ⟨?_, HB.out.trans (HBq.out.mono HB.out.size)⟩
        show Ending.returned (.int .i64 m) = _
        rw [HNL.out, HE.out, HD.out]
        show _ = Ending.returned (.int .i64 (max 0 m))
        congr 2; omega
end Go.Proofs.Ytfaipapaiobgcaa.M
