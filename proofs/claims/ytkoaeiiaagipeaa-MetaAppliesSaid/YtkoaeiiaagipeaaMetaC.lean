/- The reference's Apply: a command that fits. -/
import Derived.Test.YtkoaeiiaagipeaaMetaBb
namespace Go.Proofs.Ytkoaeiiaagipeaa.M
open Go.RowKit Go.Proofs.YtkoaeiiaagipeaaW.PrintWords Go.Proofs.YtkoaeiiaagipeaaW.PrintLast Go.Proofs.YtkoaeiiaagipeaaW.PrintMore Go.Proofs.Ytkoaeiiaagipeaa.PMetaApplies Go.Proofs.Ytkoaeiiaagipeaa.Pure
set_option linter.unusedVariables false
set_option linter.unusedSimpArgs false
theorem refList_succ (k : Nat) (s : S42) (kd nd : Int) : refList (k + 1) s kd nd = refList k s kd nd ++ (if (if (k : Int) = nd then decide (kd ≠ 3) else decide ((k : Int) ∈ s.f3)) = true then [(k : Int)] else []) := by
  unfold refList
  rw [List.range_succ, List.map_append, List.filter_append]
  congr 1
  rw [List.map_cons, List.map_nil, List.filter_cons, List.filter_nil]
theorem refList_le (k : Nat) (s : S42) (kd nd : Int) : (refList k s kd nd).length ≤ k := by
  unfold refList
  exact Nat.le_trans (List.length_filter_le _ _) (by simp)
/-- the row at hand, in a box of its own -/
structure SBx (w : World) (b6 : Nat) (f0 f1 f2 : Int) (A : Option Addr) (m c : Nat) : Prop where
  h : w.heap[b6]? = some (.cells #[.int .u64 f0, .int .u64 f1, .int .i64 f2, .slice A m c] 42 (0, 0))
set_option maxHeartbeats 8000000 in
set_option maxRecDepth 100000 in
theorem rapply_yes {w0 w : World} {n : Int} {A : Option Addr} {c : Nat} {l : List S42} {kd sd nd rv : Int} (hr0 : Kd.C k42 w0 A l.length l) (hw0 : Below w0.heap.size w0 w) (hc : l.length ≤ c) (hs : ∀ s ∈ l, RowB s)
    (ht : tabOk n l = true) (h0 : 0 ≤ sd) (h1 : sd < (l.length : Int)) (h2 : 0 ≤ nd) (h3 : nd < n) (hkd : 0 ≤ kd ∧ kd ≤ 255) : Calls Try.prog 23 #[tabV n A l.length c, cmdV kd sd nd rv] w (RPost w0 w n (applyIn l (rd_T42 l sd) kd sd nd rv).1 (applyIn l (rd_T42 l sd) kd sd nd rv).2) := by
  have hr := Kd.C_below hr0 hw0
  have HR := Aside0.mk hr
  have HC := Aside0.mk hc
  have HS := Aside0.mk hs
  have HT := Aside0.mk ht
  have HK := Aside0.mk (tabOk_iff.1 ht)
  have hn1 : 1 ≤ n := HK.out.1.1
  have hn5 : n ≤ 5 := HK.out.1.2.1
  obtain ⟨ad, A3, c3, rfl, r0, r1, r2, r3, hl3, hC30⟩ := at_T42 hr0 sd h0 h1
  have HRW0 := Aside0.mk hr0
  have HC30 := Aside0.mk hC30
  have HW0 := Aside0.mk hw0
  have hC3 := Kd.C_below hC30 hw0
  replace r0 := (hw0.cell (World.block_lt_of_cell? w0 _ r0)).trans r0
  replace r1 := (hw0.cell (World.block_lt_of_cell? w0 _ r1)).trans r1
  replace r2 := (hw0.cell (World.block_lt_of_cell? w0 _ r2)).trans r2
  replace r3 := (hw0.cell (World.block_lt_of_cell? w0 _ r3)).trans r3
  have HM := Aside0.mk (rdT_mem h0 h1)
  have HRW := Aside0.mk (HK.out.2 _ HM.out)
  have HL5 := Aside0.mk (row_len hn5 hn1 HRW.out)
  have HRO := Aside0.mk (rowOk_iff.1 HRW.out)
  have HRB := Aside0.mk (hs _ HM.out)
  clear hr hr0 hw0 hC30 hc hs ht
  generalize hsd : rd_T42 l sd = s at *
  have HSD := Aside0.mk hsd
  have HC3 := Aside0.mk hC3
  have HL3 := Aside0.mk hl3
  have HR0 := Aside0.mk r0
  have HR1 := Aside0.mk r1
  have HR2 := Aside0.mk r2
  have HR3 := Aside0.mk r3
  clear hsd hC3 hl3 r0 r1 r2 r3
  go_enter Try.func23, Try.ntmps23
  go_upto_region 1 with (fail)
  have HB := Aside0.mk (Bx.start w n (some ad) l.length c kd sd nd rv)
  generalize (((w.alloc (.cells #[.int .i64 n, .slice (some ad) l.length c] 24)).alloc (.cells #[.int .u8 kd, .int .i64 sd, .int .i64 nd, .int .u64 rv] 39)).alloc (.cells #[.int .i64 0, .slice none 0 0] 24)) = w1 at *
  generalize w.heap.size = b at *
  have hwb : Aside0 (∀ {W}, Below b w W → Below w.heap.size w W) := ⟨fun h => by rw [HB.out.hw]; exact h⟩
  have x0 : w1.cell? ⟨b, 0, none⟩ = some (.int .i64 n) := blk_cell HB.out.h2 0
  have x1 : w1.cell? ⟨b, 1, none⟩ = some (.slice (some ad) l.length c) := blk_cell HB.out.h2 1
  have HCB : Aside0 (Kd.C k42 w1 (some ad) l.length l) := ⟨Kd.C_below HR.out (hwb.out HB.out.hb)⟩
  go_wp2_with fail
  refine (rform_c HCB.out HC.out HS.out).mono ?_
  rw [HT.out]
  rintro e w2 ⟨rfl, hb2⟩
  have HB := Aside0.mk (HB.out.old hb2)
  clear x0 x1 hb2 HCB
  have x0 : w2.cell? ⟨b, 0, none⟩ = some (.int .i64 n) := blk_cell HB.out.h2 0
  have x1 : w2.cell? ⟨b, 1, none⟩ = some (.slice (some ad) l.length c) := blk_cell HB.out.h2 1
  have y1 : w2.cell? ⟨b + 1, 1, none⟩ = some (.int .i64 sd) := blk_cell HB.out.h3 1
  have y2 : w2.cell? ⟨b + 1, 2, none⟩ = some (.int .i64 nd) := blk_cell HB.out.h3 2
  have HBw := Aside0.mk (hwb.out HB.out.hb)
  have r0 := (HBw.out.cell (World.block_lt_of_cell? w _ HR0.out)).trans HR0.out
  have r1 := (HBw.out.cell (World.block_lt_of_cell? w _ HR1.out)).trans HR1.out
  have r2 := (HBw.out.cell (World.block_lt_of_cell? w _ HR2.out)).trans HR2.out
  have r3 := (HBw.out.cell (World.block_lt_of_cell? w _ HR3.out)).trans HR3.out
  go_upto_region 4 with (fail)
  have hlt6 : b + 1 + 1 < w2.heap.size := blk_lt HB.out.h4
  have hb3 : Below w2.heap.size w2 (w2.alloc (.cells #[.int .u64 s.f0, .int .u64 s.f1, .int .i64 s.f2, .slice A3 s.f3.length c3] 42)) := below_alloc (Below.refl _ _) _
  have HB := Aside0.mk (HB.out.old hb3)
  have h6 := heap_alloc_new w2 (.cells #[.int .u64 s.f0, .int .u64 s.f1, .int .i64 s.f2, .slice A3 s.f3.length c3] 42)
  clear x0 x1 y1 y2 r0 r1 r2 r3 HBw hb3
  generalize (w2.alloc (.cells #[.int .u64 s.f0, .int .u64 s.f1, .int .i64 s.f2, .slice A3 s.f3.length c3] 42)) = w3 at *
  generalize w2.heap.size = b6 at *
  have H6 := Aside0.mk h6
  clear h6
  have x0 : w3.cell? ⟨b, 0, none⟩ = some (.int .i64 n) := blk_cell HB.out.h2 0
  have x1 : w3.cell? ⟨b, 1, none⟩ = some (.slice (some ad) l.length c) := blk_cell HB.out.h2 1
  have y0 : w3.cell? ⟨b + 1, 0, none⟩ = some (.int .u8 kd) := blk_cell HB.out.h3 0
  have y1 : w3.cell? ⟨b + 1, 1, none⟩ = some (.int .i64 sd) := blk_cell HB.out.h3 1
  have y2 : w3.cell? ⟨b + 1, 2, none⟩ = some (.int .i64 nd) := blk_cell HB.out.h3 2
  have y3 : w3.cell? ⟨b + 1, 3, none⟩ = some (.int .u64 rv) := blk_cell HB.out.h3 3
  have z0 : w3.cell? ⟨b + 1 + 1, 0, none⟩ = some (.int .i64 0) := blk_cell HB.out.h4 0
  have z1 : w3.cell? ⟨b + 1 + 1, 1, none⟩ = some (.slice none 0 0) := blk_cell HB.out.h4 1
  have z2 : w3.frozen? ⟨b + 1 + 1, 0, none⟩ = false := blk_frozen HB.out.h4 0
  have z3 : w3.frozen? ⟨b + 1 + 1, 1, none⟩ = false := blk_frozen HB.out.h4 1
  have s0 : w3.cell? ⟨b6, 0, none⟩ = some (.int .u64 s.f0) := blk_cell H6.out 0
  have s1 : w3.cell? ⟨b6, 1, none⟩ = some (.int .u64 s.f1) := blk_cell H6.out 1
  have s2 : w3.cell? ⟨b6, 2, none⟩ = some (.int .i64 s.f2) := blk_cell H6.out 2
  have s3 : w3.cell? ⟨b6, 3, none⟩ = some (.slice A3 s.f3.length c3) := blk_cell H6.out 3
  have REF : Aside0 (∀ {W : World}, Aside0 (Bx w W b n (some ad) l.length c kd sd nd rv) → Aside0 (RPost w0 w n l false (.returned (.tuple #[tabV n (some ad) l.length c, .bool false])) ((W.setCell ⟨b + 1 + 1, 0, none⟩ (.int .i64 n)).setCell ⟨b + 1 + 1, 1, none⟩ (.slice (some ad) l.length c)))) := ⟨fun {W} HB => ⟨by
    have hbb : Below b w ((W.setCell ⟨b + 1 + 1, 0, none⟩ (.int .i64 n)).setCell ⟨b + 1 + 1, 1, none⟩ (.slice (some ad) l.length c)) := (HB.out.hb.setCell (p := ⟨b + 1 + 1, 0, none⟩) (by simp; omega) _).setCell (p := ⟨b + 1 + 1, 1, none⟩) (by simp; omega) _
    have hbb := hwb.out hbb
    exact ⟨some ad, c, rfl, HC.out, fun W hW _ => Kd.C_below HRW0.out hW, hbb⟩⟩⟩
  by_cases c1 : rv ≠ s.f0
  · have e1 : applyIn l s kd sd nd rv = (l, false) := by unfold applyIn; rw [if_pos (.inl c1)]
    have c1' : ¬ s.f0 = rv := fun e => c1 e.symm
    have FIN := REF.out HB
    have E1 := Aside0.mk e1
    clear REF c1 e1
    go_wp2
    exact bodyPost_ret (v := .tuple #[tabV n (some ad) l.length c, .bool false]) (by simp [results, Try.results23, go_sem, z0, z1, z2, z3]) rfl (by rw [E1.out]; exact FIN.out)
  · have c1' : rv = s.f0 := Decidable.of_not_not c1
    by_cases c2 : 1152921504606846976 ≤ s.f0
    · have e1 : applyIn l s kd sd nd rv = (l, false) := by unfold applyIn; rw [if_pos (.inr (.inl c2))]
      have FIN := REF.out HB
      have E1 := Aside0.mk e1
      clear REF c1 e1
      subst c1'
      go_wp2
      exact bodyPost_ret (v := .tuple #[tabV n (some ad) l.length c, .bool false]) (by simp [results, Try.results23, go_sem, z0, z1, z2, z3]) rfl (by rw [E1.out]; exact FIN.out)
    · by_cases c3' : 1152921504606846976 ≤ s.f1
      · have e1 : applyIn l s kd sd nd rv = (l, false) := by unfold applyIn; rw [if_pos (.inr (.inr c3'))]
        have FIN := REF.out HB
        have E1 := Aside0.mk e1
        clear REF c1 e1
        subst c1'
        go_wp2
        exact bodyPost_ret (v := .tuple #[tabV n (some ad) l.length c, .bool false]) (by simp [results, Try.results23, go_sem, z0, z1, z2, z3]) rfl (by rw [E1.out]; exact FIN.out)
      · have e0 : applyIn l s kd sd nd rv = (if kd = 1 ∧ nd ∈ s.f3 then (l.set sd.toNat ⟨s.f0 + 1, s.f1 + 1, nd, s.f3⟩, true)
            else if kd = 2 ∧ nd ∉ s.f3 then (l.set sd.toNat ⟨s.f0 + 1, s.f1, s.f2, refList n.toNat s 2 nd⟩, true)
            else if kd = 3 ∧ nd ∈ s.f3 ∧ nd ≠ s.f2 then (l.set sd.toNat ⟨s.f0 + 1, s.f1, s.f2, refList n.toNat s 3 nd⟩, true)
            else (l, false)) := by
          have cc : ¬ (rv ≠ s.f0 ∨ 1152921504606846976 ≤ s.f0 ∨ 1152921504606846976 ≤ s.f1) := fun h => h.elim c1 fun h => h.elim c2 c3'
          unfold applyIn
          rw [if_neg cc]
          split
          · rfl
          · split
            · rename_i h; rw [refList_add HRW.out h2 h3 h.2]
            · rw [refList_rem HRW.out]
        have E0 := Aside0.mk e0
        clear e0 c1
        subst c1'
        have hCS : Kd.C (Kd.int .i64) w3 A3 s.f3.length s.f3 := Kd.C_below HC3.out (hwb.out HB.out.hb)
        have HCS := Aside0.mk hCS
        have hb0 := HRB.out.2
        have hb1 := HRB.out.1.1
        clear hCS
        go_upto_region 8 with (first | (go_at_call 49; refine (in_c HCS.out HL3.out (by have := HL5.out; omega)).mono ?_; rintro e w4 ⟨rfl, hb4⟩; have HB4 := Aside0.mk (HB.out.old hb4); have H64 := Aside0.mk ((hb4.block b6 (blk_lt H6.out)).trans H6.out); have HCS4 := Aside0.mk (Kd.C_below HCS.out hb4); clear hb4))
        clear x0 x1 y0 y1 y2 y3 z0 z1 z2 z3 s0 s1 s2 s3
        go_wp2
        go_loopw [9, 10] (fun v i wq => ∃ (k : Nat), i = .int .i64 (k : Int) ∧ k ≤ n.toNat ∧ Aside0 (Kd.R (Kd.int .i64) 3 wq w4.heap.size (fun _ => True) v (refList k s kd nd)) ∧ Aside0 (Below w4.heap.size w4 wq)) (fun _ i _ => n.toNat - (intOf i).toNat)
        case atStart => exact ⟨0, rfl, by omega, ⟨Kd.R_nil _ _ _ _ _⟩, ⟨Below.refl _ _⟩⟩
        case round =>
          obtain ⟨k, rfl, hk, HA, HBQ⟩ := hrel
          have HLE := Aside0.mk (refList_le k s kd nd)
          have HBx := Aside0.mk (HB4.out.old HBQ.out)
          have h6q := (HBQ.out.block b6 (blk_lt H64.out)).trans H64.out
          have HCq := Aside0.mk (Kd.C_below HCS4.out HBQ.out)
          have x0 : wr.cell? ⟨b, 0, none⟩ = some (.int .i64 n) := blk_cell HBx.out.h2 0
          have y0 : wr.cell? ⟨b + 1, 0, none⟩ = some (.int .u8 kd) := blk_cell HBx.out.h3 0
          have y2 : wr.cell? ⟨b + 1, 2, none⟩ = some (.int .i64 nd) := blk_cell HBx.out.h3 2
          have s0 : wr.cell? ⟨b6, 0, none⟩ = some (.int .u64 s.f0) := blk_cell h6q 0
          have s1 : wr.cell? ⟨b6, 1, none⟩ = some (.int .u64 s.f1) := blk_cell h6q 1
          have s2 : wr.cell? ⟨b6, 2, none⟩ = some (.int .i64 s.f2) := blk_cell h6q 2
          have s3 : wr.cell? ⟨b6, 3, none⟩ = some (.slice A3 s.f3.length c3) := blk_cell h6q 3
          clear h6q
          by_cases hkn : (k : Int) < n
          · by_cases hkd3 : (k : Int) = nd
            · have HKD := Aside0.mk hkd3
              have q1 : ((k : Int) == nd) = true := by simpa using hkd3
              have q2 : decide ((k : Int) = nd) = true := decide_eq_true hkd3
              clear hkd3
              by_cases hk3 : kd = 3
              · have HQ : Aside0 ((if (if (k : Int) = nd then decide (kd ≠ 3) else decide ((k : Int) ∈ s.f3)) = true then [(k : Int)] else []) = []) := ⟨by rw [if_pos HKD.out, if_neg (by simp [hk3])]⟩
                have q3 : (kd != 3) = false := by simp [hk3]
                have q4 : decide (kd = 3) = true := decide_eq_true hk3
                clear hk3
                go_wp2_with (first | (go_at_call 49; refine (in_c HCq.out HL3.out (by have := HL5.out; omega)).mono ?_; rintro e w5 ⟨rfl, hb5⟩; have HA := Aside0.mk (Kd.R_below HA.out hb5); have HBQ := Aside0.mk (HBQ.out.trans (hb5.mono HBQ.out.size)); clear x0 y0 y2 s0 s1 s2 s3; have y0 := blk_cell (HB4.out.old HBQ.out).h3 0; have y2 := blk_cell (HB4.out.old HBQ.out).h3 2; have x0 := blk_cell (HB4.out.old HBQ.out).h2 0; clear hb5) | ((with_reducible refine gate_builtin (b := .append) (xs := #[.tmp 87, .tmp 89]) rfl ?_); at_builtin; refine Kd.R_append (Kd.int .i64) (w0 := w4) w4.heap.size rfl (.tmp 87) (.tmp 89) 40 3 (.int .i64 0) 8 rfl Try.underlying40 info3 rfl (by decide) (by omega) _ (refList k s kd nd) (k : Int) [.int .i64 (k : Int)] (fun _ => True) (fun _ => False) rfl (by first | (go_simp; done) | (go_simp; rfl)) rfl (fun _ hk => hk.elim) (fun _ _ => trivial) HA.out HBQ.out HBQ.out.size (by have := HLE.out; omega) ?_; intro v6 w6 ho hb hg hat; have HA := Aside0.mk ho; have HBQ := Aside0.mk hb; clear ho hb hg hat))
                go_roundw
                case rel => exact ⟨k + 1, by go_num, by omega, ⟨by rw [refList_succ, HQ.out]; first | exact HA.out | (rw [List.append_nil]; exact HA.out)⟩, HBQ⟩
                case measure => simp [intOf]; omega
              · have HQ : Aside0 ((if (if (k : Int) = nd then decide (kd ≠ 3) else decide ((k : Int) ∈ s.f3)) = true then [(k : Int)] else []) = [(k : Int)]) := ⟨by rw [if_pos HKD.out, if_pos (by simp [hk3])]⟩
                have q3 : (kd != 3) = true := by simp [hk3]
                go_wp2_with (first | (go_at_call 49; refine (in_c HCq.out HL3.out (by have := HL5.out; omega)).mono ?_; rintro e w5 ⟨rfl, hb5⟩; have HA := Aside0.mk (Kd.R_below HA.out hb5); have HBQ := Aside0.mk (HBQ.out.trans (hb5.mono HBQ.out.size)); clear x0 y0 y2 s0 s1 s2 s3; have y0 := blk_cell (HB4.out.old HBQ.out).h3 0; have y2 := blk_cell (HB4.out.old HBQ.out).h3 2; have x0 := blk_cell (HB4.out.old HBQ.out).h2 0; clear hb5) | ((with_reducible refine gate_builtin (b := .append) (xs := #[.tmp 87, .tmp 89]) rfl ?_); at_builtin; refine Kd.R_append (Kd.int .i64) (w0 := w4) w4.heap.size rfl (.tmp 87) (.tmp 89) 40 3 (.int .i64 0) 8 rfl Try.underlying40 info3 rfl (by decide) (by omega) _ (refList k s kd nd) (k : Int) [.int .i64 (k : Int)] (fun _ => True) (fun _ => False) rfl (by first | (go_simp; done) | (go_simp; rfl)) rfl (fun _ hk => hk.elim) (fun _ _ => trivial) HA.out HBQ.out HBQ.out.size (by have := HLE.out; omega) ?_; intro v6 w6 ho hb hg hat; have HA := Aside0.mk ho; have HBQ := Aside0.mk hb; clear ho hb hg hat))
                go_roundw
                case rel => exact ⟨k + 1, by go_num, by omega, ⟨by rw [refList_succ, HQ.out]; first | exact HA.out | (rw [List.append_nil]; exact HA.out)⟩, HBQ⟩
                case measure => simp [intOf]; omega
            · cases hin : decide ((k : Int) ∈ s.f3) with
                | false =>
                  have HQ : Aside0 ((if (if (k : Int) = nd then decide (kd ≠ 3) else decide ((k : Int) ∈ s.f3)) = true then [(k : Int)] else []) = []) := ⟨by rw [if_neg hkd3, hin, if_neg (by decide)]⟩
                  go_wp2_with (first | (go_at_call 49; refine (in_c HCq.out HL3.out (by have := HL5.out; omega)).mono ?_; rintro e w5 ⟨rfl, hb5⟩; have HA := Aside0.mk (Kd.R_below HA.out hb5); have HBQ := Aside0.mk (HBQ.out.trans (hb5.mono HBQ.out.size)); clear x0 y0 y2 s0 s1 s2 s3; have y0 := blk_cell (HB4.out.old HBQ.out).h3 0; have y2 := blk_cell (HB4.out.old HBQ.out).h3 2; have x0 := blk_cell (HB4.out.old HBQ.out).h2 0; clear hb5) | ((with_reducible refine gate_builtin (b := .append) (xs := #[.tmp 87, .tmp 89]) rfl ?_); at_builtin; refine Kd.R_append (Kd.int .i64) (w0 := w4) w4.heap.size rfl (.tmp 87) (.tmp 89) 40 3 (.int .i64 0) 8 rfl Try.underlying40 info3 rfl (by decide) (by omega) _ (refList k s kd nd) (k : Int) [.int .i64 (k : Int)] (fun _ => True) (fun _ => False) rfl (by first | (go_simp; done) | (go_simp; rfl)) rfl (fun _ hk => hk.elim) (fun _ _ => trivial) HA.out HBQ.out HBQ.out.size (by have := HLE.out; omega) ?_; intro v6 w6 ho hb hg hat; have HA := Aside0.mk ho; have HBQ := Aside0.mk hb; clear ho hb hg hat))
                  go_roundw
                  case rel => exact ⟨k + 1, by go_num, by omega, ⟨by rw [refList_succ, HQ.out]; first | exact HA.out | (rw [List.append_nil]; exact HA.out)⟩, HBQ⟩
                  case measure => simp [intOf]; omega
                | true =>
                  have HQ : Aside0 ((if (if (k : Int) = nd then decide (kd ≠ 3) else decide ((k : Int) ∈ s.f3)) = true then [(k : Int)] else []) = [(k : Int)]) := ⟨by rw [if_neg hkd3, hin, if_pos rfl]⟩
                  go_wp2_with (first | (go_at_call 49; refine (in_c HCq.out HL3.out (by have := HL5.out; omega)).mono ?_; rintro e w5 ⟨rfl, hb5⟩; have HA := Aside0.mk (Kd.R_below HA.out hb5); have HBQ := Aside0.mk (HBQ.out.trans (hb5.mono HBQ.out.size)); clear x0 y0 y2 s0 s1 s2 s3; have y0 := blk_cell (HB4.out.old HBQ.out).h3 0; have y2 := blk_cell (HB4.out.old HBQ.out).h3 2; have x0 := blk_cell (HB4.out.old HBQ.out).h2 0; clear hb5) | ((with_reducible refine gate_builtin (b := .append) (xs := #[.tmp 87, .tmp 89]) rfl ?_); at_builtin; refine Kd.R_append (Kd.int .i64) (w0 := w4) w4.heap.size rfl (.tmp 87) (.tmp 89) 40 3 (.int .i64 0) 8 rfl Try.underlying40 info3 rfl (by decide) (by omega) _ (refList k s kd nd) (k : Int) [.int .i64 (k : Int)] (fun _ => True) (fun _ => False) rfl (by first | (go_simp; done) | (go_simp; rfl)) rfl (fun _ hk => hk.elim) (fun _ _ => trivial) HA.out HBQ.out HBQ.out.size (by have := HLE.out; omega) ?_; intro v6 w6 ho hb hg hat; have HA := Aside0.mk ho; have HBQ := Aside0.mk hb; clear ho hb hg hat))
                  go_roundw
                  case rel => exact ⟨k + 1, by go_num, by omega, ⟨by rw [refList_succ, HQ.out]; first | exact HA.out | (rw [List.append_nil]; exact HA.out)⟩, HBQ⟩
                  case measure => simp [intOf]; omega
          · have hkn' : k = n.toNat := by omega
            subst hkn'
            obtain ⟨A9, c9, e9⟩ := Kd.R_slice HA.out
            subst e9
            obtain ⟨i0, hi0, hz0, hz1, hz2⟩ := info_parts info42
            have HI := Aside0.mk hi0
            have HZ := Aside0.mk hz0
            have HZ1 := Aside0.mk hz1
            have HZ2 := Aside0.mk hz2
            obtain ⟨news, hnews0⟩ := C_cells HRW0.out (by omega)
            have HCL0 := Aside0.mk hnews0
            have hnews := hnews0.below HW0.out
            clear hnews0
            have HCL := Aside0.mk hnews
            have hl8 : l.length ≤ 8 := HK.out.1.2.2.2
            have h6q := (HBQ.out.block b6 (blk_lt H64.out)).trans H64.out
            have H6Q := Aside0.mk h6q
            have u0 : wr.frozen? ⟨b6, 0, none⟩ = false := blk_frozen h6q 0
            have u1 : wr.frozen? ⟨b6, 1, none⟩ = false := blk_frozen h6q 1
            have u2 : wr.frozen? ⟨b6, 2, none⟩ = false := blk_frozen h6q 2
            have u3 : wr.frozen? ⟨b6, 3, none⟩ = false := blk_frozen h6q 3
            have hb60 : b6 < wr.heap.size := blk_lt h6q
            have e64 : IntKind.u64.wrap (s.f0 + 1) = s.f0 + 1 := u64s (by omega) (by omega)
            have e65 : IntKind.u64.wrap (s.f1 + 1) = s.f1 + 1 := u64s (by omega) (by omega)
            clear h6q hi0 hz0 hz1 hz2 hnews
            by_cases k1 : kd = 1 ∧ nd ∈ s.f3
            · have q1 : (kd == 1) = true := by simp [k1.1]
              have q2 : decide (kd = 1) = true := decide_eq_true k1.1
              have q3 : decide (nd ∈ s.f3) = true := decide_eq_true k1.2
              have K1 := Aside0.mk k1
              clear k1
              go_upto_region 24 with (fail)
              have h6n : (((wr.setCell ⟨b6, 1, none⟩ (.int .u64 (s.f1 + 1))).setCell ⟨b6, 2, none⟩ (.int .i64 nd))).heap[b6]? = some (.cells #[.int .u64 s.f0, .int .u64 (s.f1 + 1), .int .i64 nd, .slice A3 s.f3.length c3] 42 (0, 0)) := blk_put (blk_put H6Q.out 1 _ rfl) 2 _ rfl
              have H6n := Aside0.mk h6n
              have HKn : Aside0 (Below b6 wr (((wr.setCell ⟨b6, 1, none⟩ (.int .u64 (s.f1 + 1))).setCell ⟨b6, 2, none⟩ (.int .i64 nd)))) := ⟨((Below.refl b6 wr).setCell (p := ⟨b6, 1, none⟩) (Nat.le_refl _) _).setCell (p := ⟨b6, 2, none⟩) (Nat.le_refl _) _⟩
              have HF7 : Aside0 (∀ k, b6 < k → k < wr.heap.size → (((wr.setCell ⟨b6, 1, none⟩ (.int .u64 (s.f1 + 1))).setCell ⟨b6, 2, none⟩ (.int .i64 nd))).heap[k]? = wr.heap[k]?) := ⟨fun k h1 h2 => (Below.heap_setCell _ ⟨b6, 2, none⟩ _ k (by simp; omega)).trans (Below.heap_setCell _ ⟨b6, 1, none⟩ _ k (by simp; omega))⟩
              have HZ7 : Aside0 (wr.heap.size ≤ (((wr.setCell ⟨b6, 1, none⟩ (.int .u64 (s.f1 + 1))).setCell ⟨b6, 2, none⟩ (.int .i64 nd))).heap.size) := ⟨HKn.out.size⟩
              clear h6n x0 y0 y2 s0 s1 s2 s3 u0 u1 u2 u3
              generalize (((wr.setCell ⟨b6, 1, none⟩ (.int .u64 (s.f1 + 1))).setCell ⟨b6, 2, none⟩ (.int .i64 nd))) = w7 at *
              have B2 := Aside0.mk ((HKn.out.block b (by omega)).trans HBx.out.h2)
              have B3 := Aside0.mk ((HKn.out.block (b + 1) (by omega)).trans HBx.out.h3)
              have B4 := Aside0.mk ((HKn.out.block (b + 1 + 1) (by omega)).trans HBx.out.h4)
              have hz7 : b6 < w7.heap.size := blk_lt H6n.out
              have x0 : w7.cell? ⟨b, 0, none⟩ = some (.int .i64 n) := blk_cell B2.out 0
              have x1 : w7.cell? ⟨b, 1, none⟩ = some (.slice (some ad) l.length c) := blk_cell B2.out 1
              have s0 : w7.cell? ⟨b6, 0, none⟩ = some (.int .u64 s.f0) := blk_cell H6n.out 0
              have u0 : w7.frozen? ⟨b6, 0, none⟩ = false := blk_frozen H6n.out 0
              go_upto_region 26 with (fail)
              have h6o : (w7.setCell ⟨b6, 0, none⟩ (.int .u64 (s.f0 + 1))).heap[b6]? = some (.cells #[.int .u64 (s.f0 + 1), .int .u64 (s.f1 + 1), .int .i64 nd, .slice A3 s.f3.length c3] 42 (0, 0)) := blk_put H6n.out 0 _ rfl
              have hbk : Below b6 wr ((w7.setCell ⟨b6, 0, none⟩ (.int .u64 (s.f0 + 1))).alloc (.cells #[.int .i64 n, .slice none 0 0] 24)) := (HKn.out.setCell (p := ⟨b6, 0, none⟩) (Nat.le_refl _) _).alloc (by simp; omega) _
              have h12 := heap_alloc_new (w7.setCell ⟨b6, 0, none⟩ (.int .u64 (s.f0 + 1))) (.cells #[.int .i64 n, .slice none 0 0] 24)
              have HF8 : Aside0 (∀ k, b6 < k → k < wr.heap.size → ((w7.setCell ⟨b6, 0, none⟩ (.int .u64 (s.f0 + 1))).alloc (.cells #[.int .i64 n, .slice none 0 0] 24)).heap[k]? = wr.heap[k]?) := ⟨fun k h1 h2 => (Below.heap_alloc _ _ k (by simp; have := HZ7.out; omega)).trans ((Below.heap_setCell _ ⟨b6, 0, none⟩ _ k (by simp; omega)).trans (HF7.out k h1 h2))⟩
              have HZ8 : Aside0 (wr.heap.size ≤ w7.heap.size) := HZ7
              have hsz12 : (w7.setCell ⟨b6, 0, none⟩ (.int .u64 (s.f0 + 1))).heap.size = w7.heap.size := by simp
              rw [hsz12] at h12
              have h6p : ((w7.setCell ⟨b6, 0, none⟩ (.int .u64 (s.f0 + 1))).alloc (.cells #[.int .i64 n, .slice none 0 0] 24)).heap[b6]? = _ := (Below.heap_alloc _ _ _ (by simp; omega)).trans h6o
              have H6p := Aside0.mk h6p
              have H12 := Aside0.mk h12
              have HBK := Aside0.mk hbk
              clear h6o hbk h12 h6p x0 x1 s0 u0 hsz12
              generalize ((w7.setCell ⟨b6, 0, none⟩ (.int .u64 (s.f0 + 1))).alloc (.cells #[.int .i64 n, .slice none 0 0] 24)) = w8 at *
              generalize w7.heap.size = b12 at *
              have C2 := Aside0.mk ((HBK.out.block b (by omega)).trans HBx.out.h2)
              have C3 := Aside0.mk ((HBK.out.block (b + 1) (by omega)).trans HBx.out.h3)
              have C4 := Aside0.mk ((HBK.out.block (b + 1 + 1) (by omega)).trans HBx.out.h4)
              have HBW8 : Aside0 (Below b w w8) := ⟨HBx.out.hb.trans (HBK.out.mono (by omega))⟩
              have HCE : Aside0 (Cells42 w8 ad l news) := ⟨HCL.out.below (hwb.out HBW8.out)⟩
              have x1 : w8.cell? ⟨b, 1, none⟩ = some (.slice (some ad) l.length c) := blk_cell C2.out 1
              have v0 : w8.cell? ⟨b12, 0, none⟩ = some (.int .i64 n) := blk_cell H12.out 0
              have v1 : w8.cell? ⟨b12, 1, none⟩ = some (.slice none 0 0) := blk_cell H12.out 1
              have v2 : w8.frozen? ⟨b12, 1, none⟩ = false := blk_frozen H12.out 1
              have hz8 : b12 < w8.heap.size := blk_lt H12.out
              have HBS : Aside0 (b ≤ w8.heap.size) := ⟨by omega⟩
              go_upto_region 27 with (first | (at_builtin; refine wpList_append_own_at _ rfl (.tmp 137) (.tmp 139) 22 rfl b 42 i0 _ 4 48 Try.underlying22 HI.out HZ.out HZ1.out HZ2.out rfl (by omega) (.slice none 0 0) 0 [] rfl (World.ownsRow_nil _ _ _ _) ad l.length c news rfl HCE.out.len HCE.out.cell HCE.out.one (by unfold maxLen; omega) (by omega) HBS.out ?_; intro v9 w9 hown9 hg9 hn9 hat9; obtain ⟨g, cap, e9, hg0, hlt9⟩ := hown9.form (by omega); rw [Nat.zero_add] at e9 hown9; subst e9; have HO9 := Aside0.mk hown9; have HAT9 := Aside0.mk hat9; have HBE : Aside0 (Below w8.heap.size w8 w9) := ⟨hg9.os, hg9.tape, hg9.output, hg9.size, fun k hk => hg9.block k hk (by simp [Value.ownBlock])⟩; have H12q := Aside0.mk ((HBE.out.block b12 (blk_lt H12.out)).trans H12.out); have v1 : w9.cell? ⟨b12, 1, none⟩ = some (.slice none 0 0) := blk_cell H12q.out 1; have v2 : w9.frozen? ⟨b12, 1, none⟩ = false := blk_frozen H12q.out 1; clear hown9 hg9 hn9 hat9))
              have hgb : w8.heap.size ≤ g := by rcases HAT9.out with h | h <;> simp [Value.ownBlock] at h; omega
              have H12r : Aside0 ((w9.setCell ⟨b12, 1, none⟩ (.slice (some ⟨g, 0, none⟩) l.length cap)).heap[b12]? = some (.cells #[.int .i64 n, .slice (some ⟨g, 0, none⟩) l.length cap] 24 (0, 0))) := ⟨blk_put H12q.out 1 _ rfl⟩
              have HBF : Aside0 (Below b12 w8 (w9.setCell ⟨b12, 1, none⟩ (.slice (some ⟨g, 0, none⟩) l.length cap))) := ⟨(HBE.out.mono (show b12 ≤ w8.heap.size by omega)).setCell (p := ⟨b12, 1, none⟩) (Nat.le_refl _) _⟩
              have HO10 : Aside0 ((w9.setCell ⟨b12, 1, none⟩ (.slice (some ⟨g, 0, none⟩) l.length cap)).ownsRow b 42 4 (.slice (some ⟨g, 0, none⟩) l.length cap) l.length news) := ⟨own_move HO9.out (fun k hk => Below.heap_setCell _ ⟨b12, 1, none⟩ _ k (by simp [Value.ownBlock] at hk; subst hk; show g ≠ b12; omega))⟩
              clear v0 v1 v2 x1
              generalize (w9.setCell ⟨b12, 1, none⟩ (.slice (some ⟨g, 0, none⟩) l.length cap)) = w10 at *
              have v1 : w10.cell? ⟨b12, 1, none⟩ = some (.slice (some ⟨g, 0, none⟩) l.length cap) := blk_cell H12r.out 1
              have v0 : w10.cell? ⟨b12, 0, none⟩ = some (.int .i64 n) := blk_cell H12r.out 0
              have D3 := (HBF.out.block (b + 1) (by omega)).trans C3.out
              have D4 := (HBF.out.block (b + 1 + 1) (by omega)).trans C4.out
              have D6 := (HBF.out.block b6 (by omega)).trans H6p.out
              have y1 : w10.cell? ⟨b + 1, 1, none⟩ = some (.int .i64 sd) := blk_cell D3 1
              have z0 : w10.cell? ⟨b + 1 + 1, 0, none⟩ = some (.int .i64 0) := blk_cell D4 0
              have z1 : w10.cell? ⟨b + 1 + 1, 1, none⟩ = some (.slice none 0 0) := blk_cell D4 1
              have z2 : w10.frozen? ⟨b + 1 + 1, 0, none⟩ = false := blk_frozen D4 0
              have z3 : w10.frozen? ⟨b + 1 + 1, 1, none⟩ = false := blk_frozen D4 1
              have s0 : w10.cell? ⟨b6, 0, none⟩ = some (.int .u64 (s.f0 + 1)) := blk_cell D6 0
              have s1 : w10.cell? ⟨b6, 1, none⟩ = some (.int .u64 (s.f1 + 1)) := blk_cell D6 1
              have s2 : w10.cell? ⟨b6, 2, none⟩ = some (.int .i64 nd) := blk_cell D6 2
              have s3 : w10.cell? ⟨b6, 3, none⟩ = some (.slice A3 s.f3.length c3) := blk_cell D6 3
              clear D3 D4 D6
              have hso : sd.toNat < l.length := by omega
              have t0 : w10.cell? ⟨g, sd.toNat * 4, none⟩ = some (news[sd.toNat * 4]'(by rw [HCL.out.len]; omega)) := (HO10.out.cellAt _ (by omega)).trans (List.getElem?_eq_getElem _)
              have t1 : w10.cell? ⟨g, sd.toNat * 4 + 1, none⟩ = some (news[sd.toNat * 4 + 1]'(by rw [HCL.out.len]; omega)) := (HO10.out.cellAt _ (by omega)).trans (List.getElem?_eq_getElem _)
              have t2 : w10.cell? ⟨g, sd.toNat * 4 + 2, none⟩ = some (news[sd.toNat * 4 + 2]'(by rw [HCL.out.len]; omega)) := (HO10.out.cellAt _ (by omega)).trans (List.getElem?_eq_getElem _)
              have t3 : w10.cell? ⟨g, sd.toNat * 4 + 3, none⟩ = some (news[sd.toNat * 4 + 3]'(by rw [HCL.out.len]; omega)) := (HO10.out.cellAt _ (by omega)).trans (List.getElem?_eq_getElem _)
              have t4 : w10.frozen? ⟨g, sd.toNat * 4, none⟩ = false := HO10.out.frozenAt _
              have t5 : w10.frozen? ⟨g, sd.toNat * 4 + 1, none⟩ = false := HO10.out.frozenAt _
              have t6 : w10.frozen? ⟨g, sd.toNat * 4 + 2, none⟩ = false := HO10.out.frozenAt _
              have t7 : w10.frozen? ⟨g, sd.toNat * 4 + 3, none⟩ = false := HO10.out.frozenAt _
              go_upto_region 28 with (fail)
              have HF11 : Aside0 (∀ k, k < b12 → (four w10 g (sd.toNat * 4) (.int .u64 (s.f0 + 1)) (.int .u64 (s.f1 + 1)) (.int .i64 nd) (.slice A3 s.f3.length c3)).heap[k]? = w8.heap[k]?) := ⟨fun k hk => (four_far _ _ _ _ _ (by omega)).trans (HBF.out.block k hk)⟩
              have F12 : (four w10 g (sd.toNat * 4) (.int .u64 (s.f0 + 1)) (.int .u64 (s.f1 + 1)) (.int .i64 nd) (.slice A3 s.f3.length c3)).heap[b12]? = _ := (four_far _ _ _ _ _ (by omega)).trans H12r.out
              have F4 := (HF11.out (b + 1 + 1) (by omega)).trans C4.out
              have HBL : Aside0 (Below b w (four w10 g (sd.toNat * 4) (.int .u64 (s.f0 + 1)) (.int .u64 (s.f1 + 1)) (.int .i64 nd) (.slice A3 s.f3.length c3))) := ⟨four_below (HBW8.out.trans (HBF.out.mono (by omega))) (by omega) _ _ _ _⟩
              have HG11 : Aside0 ((four w10 g (sd.toNat * 4) (.int .u64 (s.f0 + 1)) (.int .u64 (s.f1 + 1)) (.int .i64 nd) (.slice A3 s.f3.length c3)).heap[g]? = (four w10 g (sd.toNat * 4) (.int .u64 (s.f0 + 1)) (.int .u64 (s.f1 + 1)) (.int .i64 nd) (.slice A3 s.f3.length c3)).heap[g]?) := ⟨rfl⟩
              have HCAP : Aside0 (l.length ≤ cap) := ⟨by
                rcases HO10.out.2 with ⟨h0, _⟩ | ⟨g', cap', cur, he, _, _, hle, _⟩
                · cases h0
                · simp only [Value.slice.injEq] at he; omega⟩
              clear v0 v1 y1 z0 z1 z2 z3 s0 s1 s2 s3 t0 t1 t2 t3 t4 t5 t6 t7
              have HG12 := HG11
              generalize hw11 : (four w10 g (sd.toNat * 4) (.int .u64 (s.f0 + 1)) (.int .u64 (s.f1 + 1)) (.int .i64 nd) (.slice A3 s.f3.length c3)) = w11 at F12 F4 HF11 HBL
              have HW11 := Aside0.mk hw11
              show Code.wp _ _ _ _ _
              rw [show ((((w10.setCell ⟨g, sd.toNat * 4, none⟩ (.int .u64 (s.f0 + 1))).setCell ⟨g, sd.toNat * 4 + 1, none⟩ (.int .u64 (s.f1 + 1))).setCell ⟨g, sd.toNat * 4 + 2, none⟩ (.int .i64 nd)).setCell ⟨g, sd.toNat * 4 + 3, none⟩ (.slice A3 s.f3.length c3)) = w11 from hw11]
              clear hw11 HG11 HG12
              have v0 : w11.cell? ⟨b12, 0, none⟩ = some (.int .i64 n) := blk_cell F12 0
              have v1 : w11.cell? ⟨b12, 1, none⟩ = some (.slice (some ⟨g, 0, none⟩) l.length cap) := blk_cell F12 1
              have z0 : w11.cell? ⟨b + 1 + 1, 0, none⟩ = some (.int .i64 0) := blk_cell F4 0
              have z1 : w11.cell? ⟨b + 1 + 1, 1, none⟩ = some (.slice none 0 0) := blk_cell F4 1
              have z2 : w11.frozen? ⟨b + 1 + 1, 0, none⟩ = false := blk_frozen F4 0
              have z3 : w11.frozen? ⟨b + 1 + 1, 1, none⟩ = false := blk_frozen F4 1
              clear F12 F4
              have FIN : Aside0 (RPost w0 w n (l.set sd.toNat ⟨s.f0 + 1, (s.f1 + 1), nd, s.f3⟩) true (.returned (.tuple #[tabV n (some ⟨g, 0, none⟩) l.length cap, .bool true])) ((w11.setCell ⟨b + 1 + 1, 0, none⟩ (.int .i64 n)).setCell ⟨b + 1 + 1, 1, none⟩ (.slice (some ⟨g, 0, none⟩) l.length cap))) := ⟨by
                have hbb : Below b w ((w11.setCell ⟨b + 1 + 1, 0, none⟩ (.int .i64 n)).setCell ⟨b + 1 + 1, 1, none⟩ (.slice (some ⟨g, 0, none⟩) l.length cap)) := (HBL.out.setCell (p := ⟨b + 1 + 1, 0, none⟩) (by simp; omega) _).setCell (p := ⟨b + 1 + 1, 1, none⟩) (by simp; omega) _
                have hbw := hwb.out hbb
                have hfar : ∀ k, k ≠ b + 1 + 1 → ((w11.setCell ⟨b + 1 + 1, 0, none⟩ (.int .i64 n)).setCell ⟨b + 1 + 1, 1, none⟩ (.slice (some ⟨g, 0, none⟩) l.length cap)).heap[k]? = w11.heap[k]? := fun k hk => (Below.heap_setCell _ ⟨b + 1 + 1, 1, none⟩ _ k (by simpa using hk)).trans (Below.heap_setCell _ ⟨b + 1 + 1, 0, none⟩ _ k (by simpa using hk))
                have hold : ∀ k, b6 < k → k < wr.heap.size → ((w11.setCell ⟨b + 1 + 1, 0, none⟩ (.int .i64 n)).setCell ⟨b + 1 + 1, 1, none⟩ (.slice (some ⟨g, 0, none⟩) l.length cap)).heap[k]? = wr.heap[k]? := fun k h1 h2 => (hfar k (by omega)).trans ((HF11.out k (by have := HZ8.out; omega)).trans (HF8.out k h1 h2))
                have hfs : ((w11.setCell ⟨b + 1 + 1, 0, none⟩ (.int .i64 n)).setCell ⟨b + 1 + 1, 1, none⟩ (.slice (some ⟨g, 0, none⟩) l.length cap)).heap.size = w10.heap.size := by rw [← HW11.out]; simp
                have hg10 := (HO10.out.lt g rfl).2
                refine ⟨some ⟨g, 0, none⟩, cap, by rw [List.length_set], by rw [List.length_set]; exact HCAP.out, fun W hW0 hWk => ?_, hbw⟩
                have hold : ∀ k, b6 < k → k < wr.heap.size → W.heap[k]? = wr.heap[k]? := fun k h1 h2 => (hWk k (by rw [HB.out.hw]; omega) (lt_of_same (hold k h1 h2) h2)).trans (hold k h1 h2)
                refine four_C (W' := W) (s' := ⟨s.f0 + 1, (s.f1 + 1), nd, s.f3⟩) (A' := A3) (c' := c3) HO10.out rfl HCL.out.len hso (fun j p hj => k42.K_below hW0 (HCL0.out.k j p hj)) ?_ ?_ (by omega) ?_
                · exact HL3.out
                · exact Kd.C_below HC30.out hW0
                · exact (hWk g (by rw [HB.out.hw]; omega) (by rw [hfs]; exact hg10)).trans ((hfar g (by omega)).trans (by rw [← HW11.out]))⟩
              go_wp2
              exact bodyPost_ret (v := .tuple #[tabV n (some ⟨g, 0, none⟩) l.length cap, .bool true]) (by simp [results, Try.results23, go_sem, z0, z1, z2, z3]) rfl (by rw [E0.out, if_pos K1.out]; exact FIN.out)
            · have K1 := Aside0.mk k1
              have hb64 : b6 < w4.heap.size := blk_lt H64.out
              by_cases k2 : kd = 2 ∧ nd ∉ s.f3
              · have q1 : (kd == 1) = false := by simp [k2.1]
                have q2 : (kd == 2) = true := by simp [k2.1]
                have q3 : decide (nd ∈ s.f3) = false := decide_eq_false k2.2
                have K2 := Aside0.mk k2
                have EK : Aside0 (refList n.toNat s 2 nd = refList n.toNat s kd nd) := ⟨by rw [k2.1]⟩
                clear k1 k2
                go_upto_region 24 with (fail)
                have h6n : ((wr.setCell ⟨b6, 3, none⟩ (.slice A9 (refList n.toNat s kd nd).length c9))).heap[b6]? = some (.cells #[.int .u64 s.f0, .int .u64 s.f1, .int .i64 s.f2, .slice A9 (refList n.toNat s kd nd).length c9] 42 (0, 0)) := blk_put H6Q.out 3 _ rfl
                have H6n := Aside0.mk h6n
                have HKn : Aside0 (Below b6 wr ((wr.setCell ⟨b6, 3, none⟩ (.slice A9 (refList n.toNat s kd nd).length c9)))) := ⟨(Below.refl b6 wr).setCell (p := ⟨b6, 3, none⟩) (Nat.le_refl _) _⟩
                have HF7 : Aside0 (∀ k, b6 < k → k < wr.heap.size → ((wr.setCell ⟨b6, 3, none⟩ (.slice A9 (refList n.toNat s kd nd).length c9))).heap[k]? = wr.heap[k]?) := ⟨fun k h1 h2 => Below.heap_setCell _ ⟨b6, 3, none⟩ _ k (by simp; omega)⟩
                have HZ7 : Aside0 (wr.heap.size ≤ ((wr.setCell ⟨b6, 3, none⟩ (.slice A9 (refList n.toNat s kd nd).length c9))).heap.size) := ⟨HKn.out.size⟩
                clear h6n x0 y0 y2 s0 s1 s2 s3 u0 u1 u2 u3
                generalize ((wr.setCell ⟨b6, 3, none⟩ (.slice A9 (refList n.toNat s kd nd).length c9))) = w7 at *
                have B2 := Aside0.mk ((HKn.out.block b (by omega)).trans HBx.out.h2)
                have B3 := Aside0.mk ((HKn.out.block (b + 1) (by omega)).trans HBx.out.h3)
                have B4 := Aside0.mk ((HKn.out.block (b + 1 + 1) (by omega)).trans HBx.out.h4)
                have hz7 : b6 < w7.heap.size := blk_lt H6n.out
                have x0 : w7.cell? ⟨b, 0, none⟩ = some (.int .i64 n) := blk_cell B2.out 0
                have x1 : w7.cell? ⟨b, 1, none⟩ = some (.slice (some ad) l.length c) := blk_cell B2.out 1
                have s0 : w7.cell? ⟨b6, 0, none⟩ = some (.int .u64 s.f0) := blk_cell H6n.out 0
                have u0 : w7.frozen? ⟨b6, 0, none⟩ = false := blk_frozen H6n.out 0
                go_upto_region 26 with (fail)
                have h6o : (w7.setCell ⟨b6, 0, none⟩ (.int .u64 (s.f0 + 1))).heap[b6]? = some (.cells #[.int .u64 (s.f0 + 1), .int .u64 s.f1, .int .i64 s.f2, .slice A9 (refList n.toNat s kd nd).length c9] 42 (0, 0)) := blk_put H6n.out 0 _ rfl
                have hbk : Below b6 wr ((w7.setCell ⟨b6, 0, none⟩ (.int .u64 (s.f0 + 1))).alloc (.cells #[.int .i64 n, .slice none 0 0] 24)) := (HKn.out.setCell (p := ⟨b6, 0, none⟩) (Nat.le_refl _) _).alloc (by simp; omega) _
                have h12 := heap_alloc_new (w7.setCell ⟨b6, 0, none⟩ (.int .u64 (s.f0 + 1))) (.cells #[.int .i64 n, .slice none 0 0] 24)
                have HF8 : Aside0 (∀ k, b6 < k → k < wr.heap.size → ((w7.setCell ⟨b6, 0, none⟩ (.int .u64 (s.f0 + 1))).alloc (.cells #[.int .i64 n, .slice none 0 0] 24)).heap[k]? = wr.heap[k]?) := ⟨fun k h1 h2 => (Below.heap_alloc _ _ k (by simp; have := HZ7.out; omega)).trans ((Below.heap_setCell _ ⟨b6, 0, none⟩ _ k (by simp; omega)).trans (HF7.out k h1 h2))⟩
                have HZ8 : Aside0 (wr.heap.size ≤ w7.heap.size) := HZ7
                have hsz12 : (w7.setCell ⟨b6, 0, none⟩ (.int .u64 (s.f0 + 1))).heap.size = w7.heap.size := by simp
                rw [hsz12] at h12
                have h6p : ((w7.setCell ⟨b6, 0, none⟩ (.int .u64 (s.f0 + 1))).alloc (.cells #[.int .i64 n, .slice none 0 0] 24)).heap[b6]? = _ := (Below.heap_alloc _ _ _ (by simp; omega)).trans h6o
                have H6p := Aside0.mk h6p
                have H12 := Aside0.mk h12
                have HBK := Aside0.mk hbk
                clear h6o hbk h12 h6p x0 x1 s0 u0 hsz12
                generalize ((w7.setCell ⟨b6, 0, none⟩ (.int .u64 (s.f0 + 1))).alloc (.cells #[.int .i64 n, .slice none 0 0] 24)) = w8 at *
                generalize w7.heap.size = b12 at *
                have C2 := Aside0.mk ((HBK.out.block b (by omega)).trans HBx.out.h2)
                have C3 := Aside0.mk ((HBK.out.block (b + 1) (by omega)).trans HBx.out.h3)
                have C4 := Aside0.mk ((HBK.out.block (b + 1 + 1) (by omega)).trans HBx.out.h4)
                have HBW8 : Aside0 (Below b w w8) := ⟨HBx.out.hb.trans (HBK.out.mono (by omega))⟩
                have HCE : Aside0 (Cells42 w8 ad l news) := ⟨HCL.out.below (hwb.out HBW8.out)⟩
                have x1 : w8.cell? ⟨b, 1, none⟩ = some (.slice (some ad) l.length c) := blk_cell C2.out 1
                have v0 : w8.cell? ⟨b12, 0, none⟩ = some (.int .i64 n) := blk_cell H12.out 0
                have v1 : w8.cell? ⟨b12, 1, none⟩ = some (.slice none 0 0) := blk_cell H12.out 1
                have v2 : w8.frozen? ⟨b12, 1, none⟩ = false := blk_frozen H12.out 1
                have hz8 : b12 < w8.heap.size := blk_lt H12.out
                have HBS : Aside0 (b ≤ w8.heap.size) := ⟨by omega⟩
                go_upto_region 27 with (first | (at_builtin; refine wpList_append_own_at _ rfl (.tmp 137) (.tmp 139) 22 rfl b 42 i0 _ 4 48 Try.underlying22 HI.out HZ.out HZ1.out HZ2.out rfl (by omega) (.slice none 0 0) 0 [] rfl (World.ownsRow_nil _ _ _ _) ad l.length c news rfl HCE.out.len HCE.out.cell HCE.out.one (by unfold maxLen; omega) (by omega) HBS.out ?_; intro v9 w9 hown9 hg9 hn9 hat9; obtain ⟨g, cap, e9, hg0, hlt9⟩ := hown9.form (by omega); rw [Nat.zero_add] at e9 hown9; subst e9; have HO9 := Aside0.mk hown9; have HAT9 := Aside0.mk hat9; have HBE : Aside0 (Below w8.heap.size w8 w9) := ⟨hg9.os, hg9.tape, hg9.output, hg9.size, fun k hk => hg9.block k hk (by simp [Value.ownBlock])⟩; have H12q := Aside0.mk ((HBE.out.block b12 (blk_lt H12.out)).trans H12.out); have v1 : w9.cell? ⟨b12, 1, none⟩ = some (.slice none 0 0) := blk_cell H12q.out 1; have v2 : w9.frozen? ⟨b12, 1, none⟩ = false := blk_frozen H12q.out 1; clear hown9 hg9 hn9 hat9))
                have hgb : w8.heap.size ≤ g := by rcases HAT9.out with h | h <;> simp [Value.ownBlock] at h; omega
                have H12r : Aside0 ((w9.setCell ⟨b12, 1, none⟩ (.slice (some ⟨g, 0, none⟩) l.length cap)).heap[b12]? = some (.cells #[.int .i64 n, .slice (some ⟨g, 0, none⟩) l.length cap] 24 (0, 0))) := ⟨blk_put H12q.out 1 _ rfl⟩
                have HBF : Aside0 (Below b12 w8 (w9.setCell ⟨b12, 1, none⟩ (.slice (some ⟨g, 0, none⟩) l.length cap))) := ⟨(HBE.out.mono (show b12 ≤ w8.heap.size by omega)).setCell (p := ⟨b12, 1, none⟩) (Nat.le_refl _) _⟩
                have HO10 : Aside0 ((w9.setCell ⟨b12, 1, none⟩ (.slice (some ⟨g, 0, none⟩) l.length cap)).ownsRow b 42 4 (.slice (some ⟨g, 0, none⟩) l.length cap) l.length news) := ⟨own_move HO9.out (fun k hk => Below.heap_setCell _ ⟨b12, 1, none⟩ _ k (by simp [Value.ownBlock] at hk; subst hk; show g ≠ b12; omega))⟩
                clear v0 v1 v2 x1
                generalize (w9.setCell ⟨b12, 1, none⟩ (.slice (some ⟨g, 0, none⟩) l.length cap)) = w10 at *
                have v1 : w10.cell? ⟨b12, 1, none⟩ = some (.slice (some ⟨g, 0, none⟩) l.length cap) := blk_cell H12r.out 1
                have v0 : w10.cell? ⟨b12, 0, none⟩ = some (.int .i64 n) := blk_cell H12r.out 0
                have D3 := (HBF.out.block (b + 1) (by omega)).trans C3.out
                have D4 := (HBF.out.block (b + 1 + 1) (by omega)).trans C4.out
                have D6 := (HBF.out.block b6 (by omega)).trans H6p.out
                have y1 : w10.cell? ⟨b + 1, 1, none⟩ = some (.int .i64 sd) := blk_cell D3 1
                have z0 : w10.cell? ⟨b + 1 + 1, 0, none⟩ = some (.int .i64 0) := blk_cell D4 0
                have z1 : w10.cell? ⟨b + 1 + 1, 1, none⟩ = some (.slice none 0 0) := blk_cell D4 1
                have z2 : w10.frozen? ⟨b + 1 + 1, 0, none⟩ = false := blk_frozen D4 0
                have z3 : w10.frozen? ⟨b + 1 + 1, 1, none⟩ = false := blk_frozen D4 1
                have s0 : w10.cell? ⟨b6, 0, none⟩ = some (.int .u64 (s.f0 + 1)) := blk_cell D6 0
                have s1 : w10.cell? ⟨b6, 1, none⟩ = some (.int .u64 s.f1) := blk_cell D6 1
                have s2 : w10.cell? ⟨b6, 2, none⟩ = some (.int .i64 s.f2) := blk_cell D6 2
                have s3 : w10.cell? ⟨b6, 3, none⟩ = some (.slice A9 (refList n.toNat s kd nd).length c9) := blk_cell D6 3
                clear D3 D4 D6
                have hso : sd.toNat < l.length := by omega
                have t0 : w10.cell? ⟨g, sd.toNat * 4, none⟩ = some (news[sd.toNat * 4]'(by rw [HCL.out.len]; omega)) := (HO10.out.cellAt _ (by omega)).trans (List.getElem?_eq_getElem _)
                have t1 : w10.cell? ⟨g, sd.toNat * 4 + 1, none⟩ = some (news[sd.toNat * 4 + 1]'(by rw [HCL.out.len]; omega)) := (HO10.out.cellAt _ (by omega)).trans (List.getElem?_eq_getElem _)
                have t2 : w10.cell? ⟨g, sd.toNat * 4 + 2, none⟩ = some (news[sd.toNat * 4 + 2]'(by rw [HCL.out.len]; omega)) := (HO10.out.cellAt _ (by omega)).trans (List.getElem?_eq_getElem _)
                have t3 : w10.cell? ⟨g, sd.toNat * 4 + 3, none⟩ = some (news[sd.toNat * 4 + 3]'(by rw [HCL.out.len]; omega)) := (HO10.out.cellAt _ (by omega)).trans (List.getElem?_eq_getElem _)
                have t4 : w10.frozen? ⟨g, sd.toNat * 4, none⟩ = false := HO10.out.frozenAt _
                have t5 : w10.frozen? ⟨g, sd.toNat * 4 + 1, none⟩ = false := HO10.out.frozenAt _
                have t6 : w10.frozen? ⟨g, sd.toNat * 4 + 2, none⟩ = false := HO10.out.frozenAt _
                have t7 : w10.frozen? ⟨g, sd.toNat * 4 + 3, none⟩ = false := HO10.out.frozenAt _
                go_upto_region 28 with (fail)
                have HF11 : Aside0 (∀ k, k < b12 → (four w10 g (sd.toNat * 4) (.int .u64 (s.f0 + 1)) (.int .u64 s.f1) (.int .i64 s.f2) (.slice A9 (refList n.toNat s kd nd).length c9)).heap[k]? = w8.heap[k]?) := ⟨fun k hk => (four_far _ _ _ _ _ (by omega)).trans (HBF.out.block k hk)⟩
                have F12 : (four w10 g (sd.toNat * 4) (.int .u64 (s.f0 + 1)) (.int .u64 s.f1) (.int .i64 s.f2) (.slice A9 (refList n.toNat s kd nd).length c9)).heap[b12]? = _ := (four_far _ _ _ _ _ (by omega)).trans H12r.out
                have F4 := (HF11.out (b + 1 + 1) (by omega)).trans C4.out
                have HBL : Aside0 (Below b w (four w10 g (sd.toNat * 4) (.int .u64 (s.f0 + 1)) (.int .u64 s.f1) (.int .i64 s.f2) (.slice A9 (refList n.toNat s kd nd).length c9))) := ⟨four_below (HBW8.out.trans (HBF.out.mono (by omega))) (by omega) _ _ _ _⟩
                have HG11 : Aside0 ((four w10 g (sd.toNat * 4) (.int .u64 (s.f0 + 1)) (.int .u64 s.f1) (.int .i64 s.f2) (.slice A9 (refList n.toNat s kd nd).length c9)).heap[g]? = (four w10 g (sd.toNat * 4) (.int .u64 (s.f0 + 1)) (.int .u64 s.f1) (.int .i64 s.f2) (.slice A9 (refList n.toNat s kd nd).length c9)).heap[g]?) := ⟨rfl⟩
                have HCAP : Aside0 (l.length ≤ cap) := ⟨by
                  rcases HO10.out.2 with ⟨h0, _⟩ | ⟨g', cap', cur, he, _, _, hle, _⟩
                  · cases h0
                  · simp only [Value.slice.injEq] at he; omega⟩
                clear v0 v1 y1 z0 z1 z2 z3 s0 s1 s2 s3 t0 t1 t2 t3 t4 t5 t6 t7
                have HG12 := HG11
                generalize hw11 : (four w10 g (sd.toNat * 4) (.int .u64 (s.f0 + 1)) (.int .u64 s.f1) (.int .i64 s.f2) (.slice A9 (refList n.toNat s kd nd).length c9)) = w11 at F12 F4 HF11 HBL
                have HW11 := Aside0.mk hw11
                show Code.wp _ _ _ _ _
                rw [show ((((w10.setCell ⟨g, sd.toNat * 4, none⟩ (.int .u64 (s.f0 + 1))).setCell ⟨g, sd.toNat * 4 + 1, none⟩ (.int .u64 s.f1)).setCell ⟨g, sd.toNat * 4 + 2, none⟩ (.int .i64 s.f2)).setCell ⟨g, sd.toNat * 4 + 3, none⟩ (.slice A9 (refList n.toNat s kd nd).length c9)) = w11 from hw11]
                clear hw11 HG11 HG12
                have v0 : w11.cell? ⟨b12, 0, none⟩ = some (.int .i64 n) := blk_cell F12 0
                have v1 : w11.cell? ⟨b12, 1, none⟩ = some (.slice (some ⟨g, 0, none⟩) l.length cap) := blk_cell F12 1
                have z0 : w11.cell? ⟨b + 1 + 1, 0, none⟩ = some (.int .i64 0) := blk_cell F4 0
                have z1 : w11.cell? ⟨b + 1 + 1, 1, none⟩ = some (.slice none 0 0) := blk_cell F4 1
                have z2 : w11.frozen? ⟨b + 1 + 1, 0, none⟩ = false := blk_frozen F4 0
                have z3 : w11.frozen? ⟨b + 1 + 1, 1, none⟩ = false := blk_frozen F4 1
                clear F12 F4
                have FIN : Aside0 (RPost w0 w n (l.set sd.toNat ⟨s.f0 + 1, s.f1, s.f2, (refList n.toNat s kd nd)⟩) true (.returned (.tuple #[tabV n (some ⟨g, 0, none⟩) l.length cap, .bool true])) ((w11.setCell ⟨b + 1 + 1, 0, none⟩ (.int .i64 n)).setCell ⟨b + 1 + 1, 1, none⟩ (.slice (some ⟨g, 0, none⟩) l.length cap))) := ⟨by
                  have hbb : Below b w ((w11.setCell ⟨b + 1 + 1, 0, none⟩ (.int .i64 n)).setCell ⟨b + 1 + 1, 1, none⟩ (.slice (some ⟨g, 0, none⟩) l.length cap)) := (HBL.out.setCell (p := ⟨b + 1 + 1, 0, none⟩) (by simp; omega) _).setCell (p := ⟨b + 1 + 1, 1, none⟩) (by simp; omega) _
                  have hbw := hwb.out hbb
                  have hfar : ∀ k, k ≠ b + 1 + 1 → ((w11.setCell ⟨b + 1 + 1, 0, none⟩ (.int .i64 n)).setCell ⟨b + 1 + 1, 1, none⟩ (.slice (some ⟨g, 0, none⟩) l.length cap)).heap[k]? = w11.heap[k]? := fun k hk => (Below.heap_setCell _ ⟨b + 1 + 1, 1, none⟩ _ k (by simpa using hk)).trans (Below.heap_setCell _ ⟨b + 1 + 1, 0, none⟩ _ k (by simpa using hk))
                  have hold : ∀ k, b6 < k → k < wr.heap.size → ((w11.setCell ⟨b + 1 + 1, 0, none⟩ (.int .i64 n)).setCell ⟨b + 1 + 1, 1, none⟩ (.slice (some ⟨g, 0, none⟩) l.length cap)).heap[k]? = wr.heap[k]? := fun k h1 h2 => (hfar k (by omega)).trans ((HF11.out k (by have := HZ8.out; omega)).trans (HF8.out k h1 h2))
                  have hfs : ((w11.setCell ⟨b + 1 + 1, 0, none⟩ (.int .i64 n)).setCell ⟨b + 1 + 1, 1, none⟩ (.slice (some ⟨g, 0, none⟩) l.length cap)).heap.size = w10.heap.size := by rw [← HW11.out]; simp
                  have hg10 := (HO10.out.lt g rfl).2
                  refine ⟨some ⟨g, 0, none⟩, cap, by rw [List.length_set], by rw [List.length_set]; exact HCAP.out, fun W hW0 hWk => ?_, hbw⟩
                  have hold : ∀ k, b6 < k → k < wr.heap.size → W.heap[k]? = wr.heap[k]? := fun k h1 h2 => (hWk k (by rw [HB.out.hw]; omega) (lt_of_same (hold k h1 h2) h2)).trans (hold k h1 h2)
                  refine four_C (W' := W) (s' := ⟨s.f0 + 1, s.f1, s.f2, (refList n.toNat s kd nd)⟩) (A' := A9) (c' := c9) HO10.out rfl HCL.out.len hso (fun j p hj => k42.K_below hW0 (HCL0.out.k j p hj)) ?_ ?_ (by omega) ?_
                  · exact (Kd.R_reads' HA.out).2.1
                  · exact (Kd.R_reads' (Kd.R_step (Kd.R_bound HA.out) (fun k hk hlt => hold k (by have := hk.2.1; omega) hlt))).2.2
                  · exact (hWk g (by rw [HB.out.hw]; omega) (by rw [hfs]; exact hg10)).trans ((hfar g (by omega)).trans (by rw [← HW11.out]))⟩
                go_wp2
                exact bodyPost_ret (v := .tuple #[tabV n (some ⟨g, 0, none⟩) l.length cap, .bool true]) (by simp [results, Try.results23, go_sem, z0, z1, z2, z3]) rfl (by rw [E0.out, if_neg K1.out, if_pos K2.out, EK.out]; exact FIN.out)
              · have K2 := Aside0.mk k2
                by_cases k3 : kd = 3 ∧ nd ∈ s.f3 ∧ nd ≠ s.f2
                · have q1 : (kd == 1) = false := by simp [k3.1]
                  have q2 : (kd == 2) = false := by simp [k3.1]
                  have q3 : (kd == 3) = true := by simp [k3.1]
                  have q4 : decide (nd ∈ s.f3) = true := decide_eq_true k3.2.1
                  have q5 : (nd != s.f2) = true := by simp [k3.2.2]
                  have q6 : ¬ nd = s.f2 := k3.2.2
                  have K3 := Aside0.mk k3
                  have EK : Aside0 (refList n.toNat s 3 nd = refList n.toNat s kd nd) := ⟨by rw [k3.1]⟩
                  clear k1 k2 k3
                  go_upto_region 24 with (fail)
                  have h6n : ((wr.setCell ⟨b6, 3, none⟩ (.slice A9 (refList n.toNat s kd nd).length c9))).heap[b6]? = some (.cells #[.int .u64 s.f0, .int .u64 s.f1, .int .i64 s.f2, .slice A9 (refList n.toNat s kd nd).length c9] 42 (0, 0)) := blk_put H6Q.out 3 _ rfl
                  have H6n := Aside0.mk h6n
                  have HKn : Aside0 (Below b6 wr ((wr.setCell ⟨b6, 3, none⟩ (.slice A9 (refList n.toNat s kd nd).length c9)))) := ⟨(Below.refl b6 wr).setCell (p := ⟨b6, 3, none⟩) (Nat.le_refl _) _⟩
                  have HF7 : Aside0 (∀ k, b6 < k → k < wr.heap.size → ((wr.setCell ⟨b6, 3, none⟩ (.slice A9 (refList n.toNat s kd nd).length c9))).heap[k]? = wr.heap[k]?) := ⟨fun k h1 h2 => Below.heap_setCell _ ⟨b6, 3, none⟩ _ k (by simp; omega)⟩
                  have HZ7 : Aside0 (wr.heap.size ≤ ((wr.setCell ⟨b6, 3, none⟩ (.slice A9 (refList n.toNat s kd nd).length c9))).heap.size) := ⟨HKn.out.size⟩
                  clear h6n x0 y0 y2 s0 s1 s2 s3 u0 u1 u2 u3
                  generalize ((wr.setCell ⟨b6, 3, none⟩ (.slice A9 (refList n.toNat s kd nd).length c9))) = w7 at *
                  have B2 := Aside0.mk ((HKn.out.block b (by omega)).trans HBx.out.h2)
                  have B3 := Aside0.mk ((HKn.out.block (b + 1) (by omega)).trans HBx.out.h3)
                  have B4 := Aside0.mk ((HKn.out.block (b + 1 + 1) (by omega)).trans HBx.out.h4)
                  have hz7 : b6 < w7.heap.size := blk_lt H6n.out
                  have x0 : w7.cell? ⟨b, 0, none⟩ = some (.int .i64 n) := blk_cell B2.out 0
                  have x1 : w7.cell? ⟨b, 1, none⟩ = some (.slice (some ad) l.length c) := blk_cell B2.out 1
                  have s0 : w7.cell? ⟨b6, 0, none⟩ = some (.int .u64 s.f0) := blk_cell H6n.out 0
                  have u0 : w7.frozen? ⟨b6, 0, none⟩ = false := blk_frozen H6n.out 0
                  go_upto_region 26 with (fail)
                  have h6o : (w7.setCell ⟨b6, 0, none⟩ (.int .u64 (s.f0 + 1))).heap[b6]? = some (.cells #[.int .u64 (s.f0 + 1), .int .u64 s.f1, .int .i64 s.f2, .slice A9 (refList n.toNat s kd nd).length c9] 42 (0, 0)) := blk_put H6n.out 0 _ rfl
                  have hbk : Below b6 wr ((w7.setCell ⟨b6, 0, none⟩ (.int .u64 (s.f0 + 1))).alloc (.cells #[.int .i64 n, .slice none 0 0] 24)) := (HKn.out.setCell (p := ⟨b6, 0, none⟩) (Nat.le_refl _) _).alloc (by simp; omega) _
                  have h12 := heap_alloc_new (w7.setCell ⟨b6, 0, none⟩ (.int .u64 (s.f0 + 1))) (.cells #[.int .i64 n, .slice none 0 0] 24)
                  have HF8 : Aside0 (∀ k, b6 < k → k < wr.heap.size → ((w7.setCell ⟨b6, 0, none⟩ (.int .u64 (s.f0 + 1))).alloc (.cells #[.int .i64 n, .slice none 0 0] 24)).heap[k]? = wr.heap[k]?) := ⟨fun k h1 h2 => (Below.heap_alloc _ _ k (by simp; have := HZ7.out; omega)).trans ((Below.heap_setCell _ ⟨b6, 0, none⟩ _ k (by simp; omega)).trans (HF7.out k h1 h2))⟩
                  have HZ8 : Aside0 (wr.heap.size ≤ w7.heap.size) := HZ7
                  have hsz12 : (w7.setCell ⟨b6, 0, none⟩ (.int .u64 (s.f0 + 1))).heap.size = w7.heap.size := by simp
                  rw [hsz12] at h12
                  have h6p : ((w7.setCell ⟨b6, 0, none⟩ (.int .u64 (s.f0 + 1))).alloc (.cells #[.int .i64 n, .slice none 0 0] 24)).heap[b6]? = _ := (Below.heap_alloc _ _ _ (by simp; omega)).trans h6o
                  have H6p := Aside0.mk h6p
                  have H12 := Aside0.mk h12
                  have HBK := Aside0.mk hbk
                  clear h6o hbk h12 h6p x0 x1 s0 u0 hsz12
                  generalize ((w7.setCell ⟨b6, 0, none⟩ (.int .u64 (s.f0 + 1))).alloc (.cells #[.int .i64 n, .slice none 0 0] 24)) = w8 at *
                  generalize w7.heap.size = b12 at *
                  have C2 := Aside0.mk ((HBK.out.block b (by omega)).trans HBx.out.h2)
                  have C3 := Aside0.mk ((HBK.out.block (b + 1) (by omega)).trans HBx.out.h3)
                  have C4 := Aside0.mk ((HBK.out.block (b + 1 + 1) (by omega)).trans HBx.out.h4)
                  have HBW8 : Aside0 (Below b w w8) := ⟨HBx.out.hb.trans (HBK.out.mono (by omega))⟩
                  have HCE : Aside0 (Cells42 w8 ad l news) := ⟨HCL.out.below (hwb.out HBW8.out)⟩
                  have x1 : w8.cell? ⟨b, 1, none⟩ = some (.slice (some ad) l.length c) := blk_cell C2.out 1
                  have v0 : w8.cell? ⟨b12, 0, none⟩ = some (.int .i64 n) := blk_cell H12.out 0
                  have v1 : w8.cell? ⟨b12, 1, none⟩ = some (.slice none 0 0) := blk_cell H12.out 1
                  have v2 : w8.frozen? ⟨b12, 1, none⟩ = false := blk_frozen H12.out 1
                  have hz8 : b12 < w8.heap.size := blk_lt H12.out
                  have HBS : Aside0 (b ≤ w8.heap.size) := ⟨by omega⟩
                  go_upto_region 27 with (first | (at_builtin; refine wpList_append_own_at _ rfl (.tmp 137) (.tmp 139) 22 rfl b 42 i0 _ 4 48 Try.underlying22 HI.out HZ.out HZ1.out HZ2.out rfl (by omega) (.slice none 0 0) 0 [] rfl (World.ownsRow_nil _ _ _ _) ad l.length c news rfl HCE.out.len HCE.out.cell HCE.out.one (by unfold maxLen; omega) (by omega) HBS.out ?_; intro v9 w9 hown9 hg9 hn9 hat9; obtain ⟨g, cap, e9, hg0, hlt9⟩ := hown9.form (by omega); rw [Nat.zero_add] at e9 hown9; subst e9; have HO9 := Aside0.mk hown9; have HAT9 := Aside0.mk hat9; have HBE : Aside0 (Below w8.heap.size w8 w9) := ⟨hg9.os, hg9.tape, hg9.output, hg9.size, fun k hk => hg9.block k hk (by simp [Value.ownBlock])⟩; have H12q := Aside0.mk ((HBE.out.block b12 (blk_lt H12.out)).trans H12.out); have v1 : w9.cell? ⟨b12, 1, none⟩ = some (.slice none 0 0) := blk_cell H12q.out 1; have v2 : w9.frozen? ⟨b12, 1, none⟩ = false := blk_frozen H12q.out 1; clear hown9 hg9 hn9 hat9))
                  have hgb : w8.heap.size ≤ g := by rcases HAT9.out with h | h <;> simp [Value.ownBlock] at h; omega
                  have H12r : Aside0 ((w9.setCell ⟨b12, 1, none⟩ (.slice (some ⟨g, 0, none⟩) l.length cap)).heap[b12]? = some (.cells #[.int .i64 n, .slice (some ⟨g, 0, none⟩) l.length cap] 24 (0, 0))) := ⟨blk_put H12q.out 1 _ rfl⟩
                  have HBF : Aside0 (Below b12 w8 (w9.setCell ⟨b12, 1, none⟩ (.slice (some ⟨g, 0, none⟩) l.length cap))) := ⟨(HBE.out.mono (show b12 ≤ w8.heap.size by omega)).setCell (p := ⟨b12, 1, none⟩) (Nat.le_refl _) _⟩
                  have HO10 : Aside0 ((w9.setCell ⟨b12, 1, none⟩ (.slice (some ⟨g, 0, none⟩) l.length cap)).ownsRow b 42 4 (.slice (some ⟨g, 0, none⟩) l.length cap) l.length news) := ⟨own_move HO9.out (fun k hk => Below.heap_setCell _ ⟨b12, 1, none⟩ _ k (by simp [Value.ownBlock] at hk; subst hk; show g ≠ b12; omega))⟩
                  clear v0 v1 v2 x1
                  generalize (w9.setCell ⟨b12, 1, none⟩ (.slice (some ⟨g, 0, none⟩) l.length cap)) = w10 at *
                  have v1 : w10.cell? ⟨b12, 1, none⟩ = some (.slice (some ⟨g, 0, none⟩) l.length cap) := blk_cell H12r.out 1
                  have v0 : w10.cell? ⟨b12, 0, none⟩ = some (.int .i64 n) := blk_cell H12r.out 0
                  have D3 := (HBF.out.block (b + 1) (by omega)).trans C3.out
                  have D4 := (HBF.out.block (b + 1 + 1) (by omega)).trans C4.out
                  have D6 := (HBF.out.block b6 (by omega)).trans H6p.out
                  have y1 : w10.cell? ⟨b + 1, 1, none⟩ = some (.int .i64 sd) := blk_cell D3 1
                  have z0 : w10.cell? ⟨b + 1 + 1, 0, none⟩ = some (.int .i64 0) := blk_cell D4 0
                  have z1 : w10.cell? ⟨b + 1 + 1, 1, none⟩ = some (.slice none 0 0) := blk_cell D4 1
                  have z2 : w10.frozen? ⟨b + 1 + 1, 0, none⟩ = false := blk_frozen D4 0
                  have z3 : w10.frozen? ⟨b + 1 + 1, 1, none⟩ = false := blk_frozen D4 1
                  have s0 : w10.cell? ⟨b6, 0, none⟩ = some (.int .u64 (s.f0 + 1)) := blk_cell D6 0
                  have s1 : w10.cell? ⟨b6, 1, none⟩ = some (.int .u64 s.f1) := blk_cell D6 1
                  have s2 : w10.cell? ⟨b6, 2, none⟩ = some (.int .i64 s.f2) := blk_cell D6 2
                  have s3 : w10.cell? ⟨b6, 3, none⟩ = some (.slice A9 (refList n.toNat s kd nd).length c9) := blk_cell D6 3
                  clear D3 D4 D6
                  have hso : sd.toNat < l.length := by omega
                  have t0 : w10.cell? ⟨g, sd.toNat * 4, none⟩ = some (news[sd.toNat * 4]'(by rw [HCL.out.len]; omega)) := (HO10.out.cellAt _ (by omega)).trans (List.getElem?_eq_getElem _)
                  have t1 : w10.cell? ⟨g, sd.toNat * 4 + 1, none⟩ = some (news[sd.toNat * 4 + 1]'(by rw [HCL.out.len]; omega)) := (HO10.out.cellAt _ (by omega)).trans (List.getElem?_eq_getElem _)
                  have t2 : w10.cell? ⟨g, sd.toNat * 4 + 2, none⟩ = some (news[sd.toNat * 4 + 2]'(by rw [HCL.out.len]; omega)) := (HO10.out.cellAt _ (by omega)).trans (List.getElem?_eq_getElem _)
                  have t3 : w10.cell? ⟨g, sd.toNat * 4 + 3, none⟩ = some (news[sd.toNat * 4 + 3]'(by rw [HCL.out.len]; omega)) := (HO10.out.cellAt _ (by omega)).trans (List.getElem?_eq_getElem _)
                  have t4 : w10.frozen? ⟨g, sd.toNat * 4, none⟩ = false := HO10.out.frozenAt _
                  have t5 : w10.frozen? ⟨g, sd.toNat * 4 + 1, none⟩ = false := HO10.out.frozenAt _
                  have t6 : w10.frozen? ⟨g, sd.toNat * 4 + 2, none⟩ = false := HO10.out.frozenAt _
                  have t7 : w10.frozen? ⟨g, sd.toNat * 4 + 3, none⟩ = false := HO10.out.frozenAt _
                  go_upto_region 28 with (fail)
                  have HF11 : Aside0 (∀ k, k < b12 → (four w10 g (sd.toNat * 4) (.int .u64 (s.f0 + 1)) (.int .u64 s.f1) (.int .i64 s.f2) (.slice A9 (refList n.toNat s kd nd).length c9)).heap[k]? = w8.heap[k]?) := ⟨fun k hk => (four_far _ _ _ _ _ (by omega)).trans (HBF.out.block k hk)⟩
                  have F12 : (four w10 g (sd.toNat * 4) (.int .u64 (s.f0 + 1)) (.int .u64 s.f1) (.int .i64 s.f2) (.slice A9 (refList n.toNat s kd nd).length c9)).heap[b12]? = _ := (four_far _ _ _ _ _ (by omega)).trans H12r.out
                  have F4 := (HF11.out (b + 1 + 1) (by omega)).trans C4.out
                  have HBL : Aside0 (Below b w (four w10 g (sd.toNat * 4) (.int .u64 (s.f0 + 1)) (.int .u64 s.f1) (.int .i64 s.f2) (.slice A9 (refList n.toNat s kd nd).length c9))) := ⟨four_below (HBW8.out.trans (HBF.out.mono (by omega))) (by omega) _ _ _ _⟩
                  have HG11 : Aside0 ((four w10 g (sd.toNat * 4) (.int .u64 (s.f0 + 1)) (.int .u64 s.f1) (.int .i64 s.f2) (.slice A9 (refList n.toNat s kd nd).length c9)).heap[g]? = (four w10 g (sd.toNat * 4) (.int .u64 (s.f0 + 1)) (.int .u64 s.f1) (.int .i64 s.f2) (.slice A9 (refList n.toNat s kd nd).length c9)).heap[g]?) := ⟨rfl⟩
                  have HCAP : Aside0 (l.length ≤ cap) := ⟨by
                    rcases HO10.out.2 with ⟨h0, _⟩ | ⟨g', cap', cur, he, _, _, hle, _⟩
                    · cases h0
                    · simp only [Value.slice.injEq] at he; omega⟩
                  clear v0 v1 y1 z0 z1 z2 z3 s0 s1 s2 s3 t0 t1 t2 t3 t4 t5 t6 t7
                  have HG12 := HG11
                  generalize hw11 : (four w10 g (sd.toNat * 4) (.int .u64 (s.f0 + 1)) (.int .u64 s.f1) (.int .i64 s.f2) (.slice A9 (refList n.toNat s kd nd).length c9)) = w11 at F12 F4 HF11 HBL
                  have HW11 := Aside0.mk hw11
                  show Code.wp _ _ _ _ _
                  rw [show ((((w10.setCell ⟨g, sd.toNat * 4, none⟩ (.int .u64 (s.f0 + 1))).setCell ⟨g, sd.toNat * 4 + 1, none⟩ (.int .u64 s.f1)).setCell ⟨g, sd.toNat * 4 + 2, none⟩ (.int .i64 s.f2)).setCell ⟨g, sd.toNat * 4 + 3, none⟩ (.slice A9 (refList n.toNat s kd nd).length c9)) = w11 from hw11]
                  clear hw11 HG11 HG12
                  have v0 : w11.cell? ⟨b12, 0, none⟩ = some (.int .i64 n) := blk_cell F12 0
                  have v1 : w11.cell? ⟨b12, 1, none⟩ = some (.slice (some ⟨g, 0, none⟩) l.length cap) := blk_cell F12 1
                  have z0 : w11.cell? ⟨b + 1 + 1, 0, none⟩ = some (.int .i64 0) := blk_cell F4 0
                  have z1 : w11.cell? ⟨b + 1 + 1, 1, none⟩ = some (.slice none 0 0) := blk_cell F4 1
                  have z2 : w11.frozen? ⟨b + 1 + 1, 0, none⟩ = false := blk_frozen F4 0
                  have z3 : w11.frozen? ⟨b + 1 + 1, 1, none⟩ = false := blk_frozen F4 1
                  clear F12 F4
                  have FIN : Aside0 (RPost w0 w n (l.set sd.toNat ⟨s.f0 + 1, s.f1, s.f2, (refList n.toNat s kd nd)⟩) true (.returned (.tuple #[tabV n (some ⟨g, 0, none⟩) l.length cap, .bool true])) ((w11.setCell ⟨b + 1 + 1, 0, none⟩ (.int .i64 n)).setCell ⟨b + 1 + 1, 1, none⟩ (.slice (some ⟨g, 0, none⟩) l.length cap))) := ⟨by
                    have hbb : Below b w ((w11.setCell ⟨b + 1 + 1, 0, none⟩ (.int .i64 n)).setCell ⟨b + 1 + 1, 1, none⟩ (.slice (some ⟨g, 0, none⟩) l.length cap)) := (HBL.out.setCell (p := ⟨b + 1 + 1, 0, none⟩) (by simp; omega) _).setCell (p := ⟨b + 1 + 1, 1, none⟩) (by simp; omega) _
                    have hbw := hwb.out hbb
                    have hfar : ∀ k, k ≠ b + 1 + 1 → ((w11.setCell ⟨b + 1 + 1, 0, none⟩ (.int .i64 n)).setCell ⟨b + 1 + 1, 1, none⟩ (.slice (some ⟨g, 0, none⟩) l.length cap)).heap[k]? = w11.heap[k]? := fun k hk => (Below.heap_setCell _ ⟨b + 1 + 1, 1, none⟩ _ k (by simpa using hk)).trans (Below.heap_setCell _ ⟨b + 1 + 1, 0, none⟩ _ k (by simpa using hk))
                    have hold : ∀ k, b6 < k → k < wr.heap.size → ((w11.setCell ⟨b + 1 + 1, 0, none⟩ (.int .i64 n)).setCell ⟨b + 1 + 1, 1, none⟩ (.slice (some ⟨g, 0, none⟩) l.length cap)).heap[k]? = wr.heap[k]? := fun k h1 h2 => (hfar k (by omega)).trans ((HF11.out k (by have := HZ8.out; omega)).trans (HF8.out k h1 h2))
                    have hfs : ((w11.setCell ⟨b + 1 + 1, 0, none⟩ (.int .i64 n)).setCell ⟨b + 1 + 1, 1, none⟩ (.slice (some ⟨g, 0, none⟩) l.length cap)).heap.size = w10.heap.size := by rw [← HW11.out]; simp
                    have hg10 := (HO10.out.lt g rfl).2
                    refine ⟨some ⟨g, 0, none⟩, cap, by rw [List.length_set], by rw [List.length_set]; exact HCAP.out, fun W hW0 hWk => ?_, hbw⟩
                    have hold : ∀ k, b6 < k → k < wr.heap.size → W.heap[k]? = wr.heap[k]? := fun k h1 h2 => (hWk k (by rw [HB.out.hw]; omega) (lt_of_same (hold k h1 h2) h2)).trans (hold k h1 h2)
                    refine four_C (W' := W) (s' := ⟨s.f0 + 1, s.f1, s.f2, (refList n.toNat s kd nd)⟩) (A' := A9) (c' := c9) HO10.out rfl HCL.out.len hso (fun j p hj => k42.K_below hW0 (HCL0.out.k j p hj)) ?_ ?_ (by omega) ?_
                    · exact (Kd.R_reads' HA.out).2.1
                    · exact (Kd.R_reads' (Kd.R_step (Kd.R_bound HA.out) (fun k hk hlt => hold k (by have := hk.2.1; omega) hlt))).2.2
                    · exact (hWk g (by rw [HB.out.hw]; omega) (by rw [hfs]; exact hg10)).trans ((hfar g (by omega)).trans (by rw [← HW11.out]))⟩
                  go_wp2
                  exact bodyPost_ret (v := .tuple #[tabV n (some ⟨g, 0, none⟩) l.length cap, .bool true]) (by simp [results, Try.results23, go_sem, z0, z1, z2, z3]) rfl (by rw [E0.out, if_neg K1.out, if_neg K2.out, if_pos K3.out, EK.out]; exact FIN.out)
                · have K3 := Aside0.mk k3
                  have FIN := REF.out HBx
                  have x1 : wr.cell? ⟨b, 1, none⟩ = some (.slice (some ad) l.length c) := blk_cell HBx.out.h2 1
                  have z0 : wr.cell? ⟨b + 1 + 1, 0, none⟩ = some (.int .i64 0) := blk_cell HBx.out.h4 0
                  have z1 : wr.cell? ⟨b + 1 + 1, 1, none⟩ = some (.slice none 0 0) := blk_cell HBx.out.h4 1
                  have z2 : wr.frozen? ⟨b + 1 + 1, 0, none⟩ = false := blk_frozen HBx.out.h4 0
                  have z3 : wr.frozen? ⟨b + 1 + 1, 1, none⟩ = false := blk_frozen HBx.out.h4 1
                  by_cases hin : nd ∈ s.f3
                  · have p1 : ¬ kd = 1 := fun e => k1 ⟨e, hin⟩
                    have q1 : (kd == 1) = false := by simpa using p1
                    have q4 : decide (nd ∈ s.f3) = true := decide_eq_true hin
                    by_cases p3 : kd = 3
                    · have q2 : (kd == 2) = false := by simp [p3]
                      have q3 : (kd == 3) = true := by simp [p3]
                      have p5 : nd = s.f2 := Decidable.of_not_not fun e => k3 ⟨p3, hin, e⟩
                      have q5 : (nd != s.f2) = false := by simp [p5]
                      clear p3 p5 hin
                      clear k1 k2 k3
                      go_wp2
                      exact bodyPost_ret (v := .tuple #[tabV n (some ad) l.length c, .bool false]) (by simp [results, Try.results23, go_sem, z0, z1, z2, z3]) rfl (by rw [E0.out, if_neg K1.out, if_neg K2.out, if_neg K3.out]; exact FIN.out)
                    · have q3 : (kd == 3) = false := by simpa using p3
                      by_cases p2 : kd = 2
                      · have q2 : (kd == 2) = true := by simp [p2]
                        clear hin p2 p3
                        clear k1 k2 k3
                        go_wp2
                        exact bodyPost_ret (v := .tuple #[tabV n (some ad) l.length c, .bool false]) (by simp [results, Try.results23, go_sem, z0, z1, z2, z3]) rfl (by rw [E0.out, if_neg K1.out, if_neg K2.out, if_neg K3.out]; exact FIN.out)
                      · have q2 : (kd == 2) = false := by simpa using p2
                        clear hin
                        clear k1 k2 k3
                        go_wp2
                        exact bodyPost_ret (v := .tuple #[tabV n (some ad) l.length c, .bool false]) (by simp [results, Try.results23, go_sem, z0, z1, z2, z3]) rfl (by rw [E0.out, if_neg K1.out, if_neg K2.out, if_neg K3.out]; exact FIN.out)
                  · have p2 : ¬ kd = 2 := fun e => k2 ⟨e, hin⟩
                    have q2 : (kd == 2) = false := by simpa using p2
                    have q4 : decide (nd ∈ s.f3) = false := decide_eq_false hin
                    by_cases p1 : kd = 1
                    · have q1 : (kd == 1) = true := by simp [p1]
                      have q3 : (kd == 3) = false := by simp [p1]
                      clear hin p1 p2
                      clear k1 k2 k3
                      go_wp2
                      exact bodyPost_ret (v := .tuple #[tabV n (some ad) l.length c, .bool false]) (by simp [results, Try.results23, go_sem, z0, z1, z2, z3]) rfl (by rw [E0.out, if_neg K1.out, if_neg K2.out, if_neg K3.out]; exact FIN.out)
                    · have q1 : (kd == 1) = false := by simpa using p1
                      by_cases p3 : kd = 3
                      · have q3 : (kd == 3) = true := by simp [p3]
                        clear hin p3
                        clear k1 k2 k3
                        go_wp2
                        exact bodyPost_ret (v := .tuple #[tabV n (some ad) l.length c, .bool false]) (by simp [results, Try.results23, go_sem, z0, z1, z2, z3]) rfl (by rw [E0.out, if_neg K1.out, if_neg K2.out, if_neg K3.out]; exact FIN.out)
                      · have q3 : (kd == 3) = false := by simpa using p3
                        clear hin
                        clear k1 k2 k3
                        go_wp2
                        exact bodyPost_ret (v := .tuple #[tabV n (some ad) l.length c, .bool false]) (by simp [results, Try.results23, go_sem, z0, z1, z2, z3]) rfl (by rw [E0.out, if_neg K1.out, if_neg K2.out, if_neg K3.out]; exact FIN.out)
end Go.Proofs.Ytkoaeiiaagipeaa.M
