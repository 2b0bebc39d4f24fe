/- The reference's Parse answers as parseV. -/
import Derived.Test.YtlmmbefejmbpeaaDoorRefS1
namespace Go.Proofs.YtlmmbefejmbpeaaDoor.Ref
open Go.RowKit Go.Shelf Go.Proofs.Qp Go.Proofs.YtlmmbefejmbpeaaDoorW.PrintWords Go.Proofs.YtlmmbefejmbpeaaDoorW.PrintLast Go.Proofs.YtlmmbefejmbpeaaDoorW.PrintMore Go.Proofs.YtlmmbefejmbpeaaDoor.PQry1 Go.Proofs.YtlmmbefejmbpeaaDoor Go.Proofs.YtlmmbefejmbpeaaDoor.PQry0 Go.Proofs.YtlmmbefejmbpeaaDoor.G Go.Proofs.YtlmmbefejmbpeaaDoor.M
set_option linter.unusedVariables false
set_option linter.unusedSimpArgs false
/-- how far the loop is: reading on, or behind a fault -/
def LoopA (w : World) (g : Nat) (s : ByteArray) (f a o : Nat) (p : Int) (v : Value) (wq : World) : Prop := ∃ acc : List S25,
  (∃ b k : Nat, a < b ∧ b ≤ s.size ∧ s.size < k + b ∧ acc.length ≤ b ∧ A5 w g s (b : Int) (o : Int) 0 p v acc wq ∧ andLoop (lt s) mkQ (notV (lt s) mkQ lf f) k acc b o = andV (lt s) mkQ (notV (lt s) mkQ lf f) a o) ∨
  (∃ (pa : Nat) (c : Int) (i' : Nat) (o'' : Int), acc.length ≤ 1001 ∧ andV (lt s) mkQ (notV (lt s) mkQ lf f) a o = .bad pa c ∧ c ≠ 0 ∧ i' ≤ s.size + 40 - o ∧ A5 w g s (i' : Int) o'' c (pa : Int) v acc wq)
theorem loopA_start {w w3 : World} {g : Nat} {s : ByteArray} {f a o : Nat} {p : Int} {q1 : S25} {A3 : Option Addr} {n3 : Nat} (hg : g < w.heap.size) (ha : a ≤ s.size) (hb : w.heap.size < w3.heap.size) (hkp : Kp (fun k => k = g) w w3) (hbk : w3.heap[w.heap.size]? = some (.cells Z4 25)) (hM : k25.M w3 w.heap.size (fun k => w.heap.size < k) q1 [.int .u8 q1.f0, .string q1.f1, .int .i64 q1.f2, .slice A3 q1.f3.length n3])
    (hd : (∃ a' o' : Nat, notV (lt s) mkQ lf f a o = .ok q1 a' o' ∧ R5 w3 g s (a' : Int) (o' : Int) 0 p) ∨ (∃ (pa : Nat) (c : Int) (i' : Nat) (o'' : Int), notV (lt s) mkQ lf f a o = .bad pa c ∧ c ≠ 0 ∧ i' ≤ s.size + 40 - o ∧ R5 w3 g s (i' : Int) o'' c (pa : Int))) :
    LoopA w g s f a o p (.slice (some ⟨w3.heap.size, 0, none⟩) 1 1) (w3.alloc (.cells #[.int .u8 q1.f0, .string q1.f1, .int .i64 q1.f2, .slice A3 q1.f3.length n3] 25)) := by
  have hrow := R_lit1 hM (fun k hk => hk) hb hkp.size
  have hbk2 := ((below_up (w := w3) (.cells #[.int .u8 q1.f0, .string q1.f1, .int .i64 q1.f2, .slice A3 q1.f3.length n3] 25)).block _ (blk_lt hbk)).trans hbk
  refine ⟨[q1], ?_⟩
  rcases hd with ⟨a', o', hE, hR⟩ | ⟨pa, c, i', o'', hE, hc, hi, hR⟩
  · obtain ⟨g1, g2, rfl⟩ := notV_goes (lt s) mkQ lf leaf_nil f _ _ _ _ _ (by simpa using ha) hE
    have g3 : a' ≤ s.size := by simpa using g2
    refine .inl ⟨a', s.size + 1, g1, g3, by omega, by simp; omega, ⟨hR.old (below_up _), hkp.alloc _, hrow, hbk2⟩, ?_⟩
    unfold andV
    rw [hE]
    simp
  · refine .inr ⟨pa, c, i', o'', by simp, ?_, hc, hi, ⟨hR.old (below_up _), hkp.alloc _, hrow, hbk2⟩⟩
    unfold andV
    rw [hE]
theorem loopA_next {w : World} {g : Nat} {s : ByteArray} {f a o b0 b k : Nat} {p : Int} {acc : List S25} {q2 : S25} {v : Value} {wq : World} (hab : a < b0) (hbb : b0 ≤ b) (hb : b ≤ s.size) (hk : s.size < k + b0) (hal : acc.length ≤ b0) (hs : s.size ≤ 1000) (hb0 : skip (lt s) b0 = b)
    (hC : ¬ ((lt s).length ≤ skip (lt s) b0 ∨ isB (lt s) (skip (lt s) b0) [41] = true ∨ (isB (lt s) (skip (lt s) b0) [79, 82] = true ∧ endB (lt s) (skip (lt s) b0 + 2) = true)))
    (hL : andLoop (lt s) mkQ (notV (lt s) mkQ lf f) k acc b0 o = andV (lt s) mkQ (notV (lt s) mkQ lf f) a o)
    (hd : (∃ a' o' : Nat, notV (lt s) mkQ lf f b o = .ok q2 a' o' ∧ A5 w g s (a' : Int) (o' : Int) 0 p v (acc ++ [q2]) wq) ∨ (∃ (pa : Nat) (c : Int) (i' : Nat) (o'' : Int), notV (lt s) mkQ lf f b o = .bad pa c ∧ c ≠ 0 ∧ i' ≤ s.size + 40 - o ∧ A5 w g s (i' : Int) o'' c (pa : Int) v (acc ++ [q2]) wq)) :
    LoopA w g s f a o p v wq ∧ mR s g wq < s.size + 1 - b0 := by
  have hk0 : 0 < k := by omega
  rcases hd with ⟨a', o', hE, hA⟩ | ⟨pa, c, i', o'', hE, hc, hi, hA⟩
  · obtain ⟨g1, g2, rfl⟩ := notV_goes (lt s) mkQ lf leaf_nil f _ _ _ _ _ (by simpa using hb) hE
    have g3 : a' ≤ s.size := by simpa using g2
    refine ⟨⟨acc ++ [q2], .inl ⟨a', k - 1, by omega, g3, by omega, by simp; omega, hA, ?_⟩⟩, ?_⟩
    · rw [← hL]
      exact (and_next hk0 hC (by rw [hb0]; exact hE)).symm
    · rw [mR_ok hA.rd]; omega
  · refine ⟨⟨acc ++ [q2], .inr ⟨pa, c, i', o'', by simp; omega, ?_, hc, hi, hA⟩⟩, ?_⟩
    · rw [← hL]
      exact and_fault hk0 hC (by rw [hb0]; exact hE)
    · rw [mR_bad hA.rd hc]; omega
set_option maxHeartbeats 4000000 in
set_option maxRecDepth 100000 in
theorem rand_run {w : World} {g : Nat} {s : ByteArray} {f a o : Nat} {p : Int} (hN : Not5 g s f) (h : R5 w g s (a : Int) (o : Int) 0 p) (hT : TT g w) (hs : s.size ≤ 1000) (ha : a ≤ s.size) (ho : o ≤ 16) (hf : s.size < f + a) :
    Calls Tryd.prog 31 #[rp g] w fun e w' => Out5 g s o p w w' e (andV (lt s) mkQ (notV (lt s) mkQ lf f) a o) := by
  have H := Aside0.mk h
  have HN := Aside0.mk hN
  have HT := Aside0.mk hT
  have hgw : g < w.heap.size := h.lt
  clear h hT hN
  have HA : Aside0 (A5 w g s (a : Int) (o : Int) 0 p (.slice none 0 0) [] (w.alloc (.cells Z4 25))) := ⟨⟨H.out.old (below_up _), Kp.of_below (below_up _), Kd.R_nil _ _ _ _ _, M.blk_new _ _⟩⟩
  have hu25 := Tryd.underlying25
  have hs25 := Tryd.sizeOf25
  have hz25 := Tryd.zeroValue25
  go_enter Tryd.func31, Tryd.ntmps31
  go_wp2_with (first
    | (go_at_call 41; refine (HN.out _ a o p HA.out.rd (HT.out.kp HA.out.kp) ha ho hf).mono ?_; rintro e w3 hO; obtain ⟨q1, cs, rfl, hM, hk, hd⟩ := out5_ret hO; obtain ⟨A3, n3, rfl⟩ := M_opened hM
       have HL := Aside0.mk (loopA_start (A3 := A3) (n3 := n3) (p := p) hgw ha (Nat.lt_of_lt_of_le (blk_lt HA.out.blk) hk.size) (HA.out.kp.trans hk) ((hk.block _ (blk_lt HA.out.blk) (by omega)).trans HA.out.blk) (k25.M_lower HA.out.kp.size (k25.M_mono (fun k hk2 => Nat.lt_of_lt_of_le (blk_lt HA.out.blk) hk2) hM)) hd); clear hM hk hd hO))
  clear HA H
  go_loopw [3] (fun v wq => Aside0 (LoopA w g s f a o p v wq)) (fun _ wq => mR s g wq)
  case atStart => exact HL
  case round =>
    clear HL
    obtain ⟨acc, hcase⟩ := hrel.out
    rcases hcase with ⟨b0, k, hb0, hb1, hk, hal, hS, hL⟩ | ⟨pa, c, i', o'', hal, hL, hc, hi', hS⟩
    · obtain ⟨A0, n0, ev⟩ := Kd.R_slice hS.row
      subst ev
      have HS := Aside0.mk hS
      have HL := Aside0.mk hL
      have HPW := Aside0.mk (mR_ok hS.rd)
      have hk0 : 0 < k := by omega
      have hle2 : skip (lt s) b0 ≤ s.size := by simpa using skip_le (lt s) (i := b0) (by simpa using hb1)
      have hge := skip_ge (lt s) b0
      have hst := and_stop (l := lt s) (mk := mkQ) (N := notV (lt s) mkQ lf f) (acc := acc) (a := b0) (o := o) hk0
      have HNX := Aside0.mk (fun q2 v wq => @loopA_next w g s f a o b0 (skip (lt s) b0) k p acc q2 v wq hb0 hge hle2 hk hal hs rfl)
      generalize hbb : skip (lt s) b0 = b at *
      have HB0 := Aside0.mk hbb
      obtain ⟨X, hX⟩ : ∃ X : ByteArray, X = ⟨(wordAt (lt s) b).toArray⟩ := ⟨_, rfl⟩
      have HX := Aside0.mk hX
      have hXk : X.toList = [79, 82] ↔ (isB (lt s) b [79, 82] = true ∧ endB (lt s) (b + 2) = true) := by
        rw [hX, ByteArray.toList_eq]
        exact word_key (l := lt s) (b := b) (p := [79, 82]) (by decide)
      have HXK := Aside0.mk hXk
      have HST := Aside0.mk hst
      clear hS hL hrel hbb hX hst hXk
      obtain ⟨d0, d1, d2, d3, d4, _, _⟩ := HS.out.rd.cells
      by_cases hc1 : s.size ≤ b
      · have hd1 : decide ((s.size : Int) ≤ (b : Int)) = true := decide_eq_true (by omega)
        have hd2 : decide (s.size ≤ b) = true := decide_eq_true hc1
        have HLF := Aside0.mk (HL.out.symm.trans (HST.out (.inl (by simpa using hc1))))
        go_wp2_with (first
          | (go_at_call 32; refine (word5 HS.out.rd (HT.out.kp HS.out.kp) hs hb1).mono ?_; rintro en w1 ⟨rfl, hR, hK⟩; rw [HB0.out] at hR ⊢; rw [← HX.out]; replace HS := Aside0.mk (HS.out.moved hgw hR hK); clear hR hK d0 d1 d2 d3 d4; obtain ⟨d0, d1, d2, d3, d4, _, _⟩ := HS.out.rd.cells))
        go_region
        all_goals
          (clear d0 d1 d2 d3 d4)
          by_cases hl1 : acc.length = 1
          · obtain ⟨qq, hqq⟩ : ∃ x, acc = [x] := by
              match acc, hl1 with
              | [x], _ => exact ⟨x, rfl⟩
            have hrow := HS.out.row
            rw [hqq] at hrow
            obtain ⟨gr, cap, ev, _⟩ := Kd.R_form hrow (by simp)
            injection ev with ev1 ev2 ev3
            subst ev1
            obtain ⟨cs, hcl, hM, hc, hf⟩ := Kd.R_elem hrow (⟨0, ⟨#[]⟩, 0, []⟩ : S25) 0 (by omega) (by simp)
            obtain ⟨A6, n6, rfl⟩ := M_opened hM
            have HM := Aside0.mk (k25.M_mono (ok' := fun k => w.heap.size < k) (fun k hk => hk.1) hM)
            have e0 := hc 0 _ rfl
            have e1 := hc 1 _ rfl
            have e2 := hc 2 _ rfl
            have e3 := hc 3 _ rfl
            simp at e0 e1 e2 e3
            have hgr : w.heap.size ≠ gr := by have := Kd.R_lt hrow gr (by simp [Value.ownBlock]); have := hrow.1 gr (by simp [Value.ownBlock]); omega
            have hQ : Aside0 (lst mkQ 3 acc = qq) := ⟨by rw [hqq]; rfl⟩
            have HBK := Aside0.mk HS.out.blk
            have hr := HBK.out; have r0 := blk_cell hr 0; have r1 := blk_cell hr 1; have r2 := blk_cell hr 2; have r3 := blk_cell hr 3; have z0 := blk_frozen hr 0; have z1 := blk_frozen hr 1; have z2 := blk_frozen hr 2; have z3 := blk_frozen hr 3; clear hr
            clear hM hc hf hrow hcl
            have hl1b : ((acc.length : Int) == 1) = true := by rw [hl1]; rfl
            have hl1c : (acc.length : Int) = 1 := by omega
            clear hqq
            go_wp2
            refine bodyPost_ret (results_cell_row rfl _ _ w.heap.size 25 #[.int .u8 qq.f0, .string qq.f1, .int .i64 qq.f2, .slice A6 qq.f3.length n6] (0, 0) _ rfl (blk_put (blk_put (blk_put (blk_put HBK.out 0 (.int .u8 qq.f0) rfl) 1 (.string qq.f1) rfl) 2 (.int .i64 qq.f2) rfl) 3 (.slice A6 qq.f3.length n6) rfl) hu25 rfl rfl) rfl ?_
            have hF := HS.out.finD hgw HM.out (.int .u8 qq.f0) (.string qq.f1) (.int .i64 qq.f2) (.slice A6 qq.f3.length n6)
            (rw [HLF.out, hQ.out]; exact hF)
          · have hl0 : ¬ (acc.length : Int) = 1 := by omega
            have hl1b : ((acc.length : Int) == 1) = false := by simpa using hl0
            have HM := Aside0.mk (M_kid (k := 3) HS.out.row)
            have hQ : Aside0 (lst mkQ 3 acc = mkQ 3 acc) := ⟨by
              match acc, hl1 with
              | [], _ => rfl
              | _ :: _ :: _, _ => rfl⟩
            have HBK := Aside0.mk HS.out.blk
            have hr := HBK.out; have r0 := blk_cell hr 0; have r1 := blk_cell hr 1; have r2 := blk_cell hr 2; have r3 := blk_cell hr 3; have z0 := blk_frozen hr 0; have z1 := blk_frozen hr 1; have z2 := blk_frozen hr 2; have z3 := blk_frozen hr 3; clear hr
            go_wp2
            refine bodyPost_ret (results_cell_row rfl _ _ w.heap.size 25 #[.int .u8 3, .string ⟨#[]⟩, .int .i64 0, .slice A0 acc.length n0] (0, 0) _ rfl (blk_put (blk_put (blk_put (blk_put HBK.out 0 (.int .u8 3) rfl) 1 (.string ⟨#[]⟩) rfl) 2 (.int .i64 0) rfl) 3 (.slice A0 acc.length n0) rfl) hu25 rfl rfl) rfl ?_
            have hF := HS.out.finD (q := mkQ 3 acc) hgw HM.out (.int .u8 3) (.string ⟨#[]⟩) (.int .i64 0) (.slice A0 acc.length n0)
            (rw [HLF.out, hQ.out]; exact hF)
      have hlt : b < s.size := by omega
      have hb00 : (0 : Int) ≤ (b : Int) := by omega
      have hb01 : (b : Int) < (s.size : Int) := by omega
      have hd1 : decide ((s.size : Int) ≤ (b : Int)) = false := decide_eq_false (by omega)
      have hd2 : decide (s.size ≤ b) = false := decide_eq_false hc1
      have hi1 := is_one hlt 41
      by_cases hc2 : s[b] = 41
      · have q41 : ((s[b].toNat : Int) == 41) = true := by rw [hc2]; rfl
        have n41 : s[b].toNat = 41 := by rw [hc2]; rfl
        have HLF := Aside0.mk (HL.out.symm.trans (HST.out (.inr (.inl (by rw [hi1]; exact decide_eq_true hc2)))))
        have N41 := Aside0.mk n41
        clear hi1 hc2 n41
        go_wp2_with (first
          | (go_at_call 32; refine (word5 HS.out.rd (HT.out.kp HS.out.kp) hs hb1).mono ?_; rintro en w1 ⟨rfl, hR, hK⟩; rw [HB0.out] at hR ⊢; rw [← HX.out]; replace HS := Aside0.mk (HS.out.moved hgw hR hK); clear hR hK d0 d1 d2 d3 d4; obtain ⟨d0, d1, d2, d3, d4, _, _⟩ := HS.out.rd.cells))
        go_region
        all_goals
          (clear d0 d1 d2 d3 d4)
          by_cases hl1 : acc.length = 1
          · obtain ⟨qq, hqq⟩ : ∃ x, acc = [x] := by
              match acc, hl1 with
              | [x], _ => exact ⟨x, rfl⟩
            have hrow := HS.out.row
            rw [hqq] at hrow
            obtain ⟨gr, cap, ev, _⟩ := Kd.R_form hrow (by simp)
            injection ev with ev1 ev2 ev3
            subst ev1
            obtain ⟨cs, hcl, hM, hc, hf⟩ := Kd.R_elem hrow (⟨0, ⟨#[]⟩, 0, []⟩ : S25) 0 (by omega) (by simp)
            obtain ⟨A6, n6, rfl⟩ := M_opened hM
            have HM := Aside0.mk (k25.M_mono (ok' := fun k => w.heap.size < k) (fun k hk => hk.1) hM)
            have e0 := hc 0 _ rfl
            have e1 := hc 1 _ rfl
            have e2 := hc 2 _ rfl
            have e3 := hc 3 _ rfl
            simp at e0 e1 e2 e3
            have hgr : w.heap.size ≠ gr := by have := Kd.R_lt hrow gr (by simp [Value.ownBlock]); have := hrow.1 gr (by simp [Value.ownBlock]); omega
            have hQ : Aside0 (lst mkQ 3 acc = qq) := ⟨by rw [hqq]; rfl⟩
            have HBK := Aside0.mk HS.out.blk
            have hr := HBK.out; have r0 := blk_cell hr 0; have r1 := blk_cell hr 1; have r2 := blk_cell hr 2; have r3 := blk_cell hr 3; have z0 := blk_frozen hr 0; have z1 := blk_frozen hr 1; have z2 := blk_frozen hr 2; have z3 := blk_frozen hr 3; clear hr
            clear hM hc hf hrow hcl
            have hl1b : ((acc.length : Int) == 1) = true := by rw [hl1]; rfl
            have hl1c : (acc.length : Int) = 1 := by omega
            clear hqq
            go_wp2
            refine bodyPost_ret (results_cell_row rfl _ _ w.heap.size 25 #[.int .u8 qq.f0, .string qq.f1, .int .i64 qq.f2, .slice A6 qq.f3.length n6] (0, 0) _ rfl (blk_put (blk_put (blk_put (blk_put HBK.out 0 (.int .u8 qq.f0) rfl) 1 (.string qq.f1) rfl) 2 (.int .i64 qq.f2) rfl) 3 (.slice A6 qq.f3.length n6) rfl) hu25 rfl rfl) rfl ?_
            have hF := HS.out.finD hgw HM.out (.int .u8 qq.f0) (.string qq.f1) (.int .i64 qq.f2) (.slice A6 qq.f3.length n6)
            (rw [HLF.out, hQ.out]; exact hF)
          · have hl0 : ¬ (acc.length : Int) = 1 := by omega
            have hl1b : ((acc.length : Int) == 1) = false := by simpa using hl0
            have HM := Aside0.mk (M_kid (k := 3) HS.out.row)
            have hQ : Aside0 (lst mkQ 3 acc = mkQ 3 acc) := ⟨by
              match acc, hl1 with
              | [], _ => rfl
              | _ :: _ :: _, _ => rfl⟩
            have HBK := Aside0.mk HS.out.blk
            have hr := HBK.out; have r0 := blk_cell hr 0; have r1 := blk_cell hr 1; have r2 := blk_cell hr 2; have r3 := blk_cell hr 3; have z0 := blk_frozen hr 0; have z1 := blk_frozen hr 1; have z2 := blk_frozen hr 2; have z3 := blk_frozen hr 3; clear hr
            go_wp2
            refine bodyPost_ret (results_cell_row rfl _ _ w.heap.size 25 #[.int .u8 3, .string ⟨#[]⟩, .int .i64 0, .slice A0 acc.length n0] (0, 0) _ rfl (blk_put (blk_put (blk_put (blk_put HBK.out 0 (.int .u8 3) rfl) 1 (.string ⟨#[]⟩) rfl) 2 (.int .i64 0) rfl) 3 (.slice A0 acc.length n0) rfl) hu25 rfl rfl) rfl ?_
            have hF := HS.out.finD (q := mkQ 3 acc) hgw HM.out (.int .u8 3) (.string ⟨#[]⟩) (.int .i64 0) (.slice A0 acc.length n0)
            (rw [HLF.out, hQ.out]; exact hF)
      have m41 : ¬ (s[b].toNat : Int) = 41 := fun e => hc2 ((u8i s[b] 41).1 e)
      have q41 : ((s[b].toNat : Int) == 41) = false := by simpa using m41
      have n41 : ¬ s[b].toNat = 41 := by omega
      by_cases hc3 : X.toList = [79, 82]
      · have qx : (X.toList == [79, 82]) = true := by rw [hc3]; rfl
        have HLF := Aside0.mk (HL.out.symm.trans (HST.out (.inr (.inr (HXK.out.1 hc3)))))
        clear hi1 hc2
        go_wp2_with (first
          | (go_at_call 32; refine (word5 HS.out.rd (HT.out.kp HS.out.kp) hs hb1).mono ?_; rintro en w1 ⟨rfl, hR, hK⟩; rw [HB0.out] at hR ⊢; rw [← HX.out]; replace HS := Aside0.mk (HS.out.moved hgw hR hK); clear hR hK d0 d1 d2 d3 d4; obtain ⟨d0, d1, d2, d3, d4, _, _⟩ := HS.out.rd.cells))
        go_region_held3 (fun W' => (W'.cell? ⟨g, 0, none⟩ = some (.string s) ∧ W'.cell? ⟨g, 1, none⟩ = some (.int .i64 (b : Int))) ∧ Aside0 (A5 w g s (b : Int) (o : Int) 0 p (.slice A0 acc.length n0) acc W')) (exact ⟨⟨HS.out.rd.cells.1, HS.out.rd.cells.2.1⟩, ⟨by first | exact HS.out | exact HS.out.drew⟩⟩) (fail)
        (clear d0 d1 d2 d3 d4)
        by_cases hl1 : acc.length = 1
        · obtain ⟨qq, hqq⟩ : ∃ x, acc = [x] := by
            match acc, hl1 with
            | [x], _ => exact ⟨x, rfl⟩
          have hrow := HS.out.row
          rw [hqq] at hrow
          obtain ⟨gr, cap, ev, _⟩ := Kd.R_form hrow (by simp)
          injection ev with ev1 ev2 ev3
          subst ev1
          obtain ⟨cs, hcl, hM, hc, hf⟩ := Kd.R_elem hrow (⟨0, ⟨#[]⟩, 0, []⟩ : S25) 0 (by omega) (by simp)
          obtain ⟨A6, n6, rfl⟩ := M_opened hM
          have HM := Aside0.mk (k25.M_mono (ok' := fun k => w.heap.size < k) (fun k hk => hk.1) hM)
          have e0 := hc 0 _ rfl
          have e1 := hc 1 _ rfl
          have e2 := hc 2 _ rfl
          have e3 := hc 3 _ rfl
          simp at e0 e1 e2 e3
          have hgr : w.heap.size ≠ gr := by have := Kd.R_lt hrow gr (by simp [Value.ownBlock]); have := hrow.1 gr (by simp [Value.ownBlock]); omega
          have hQ : Aside0 (lst mkQ 3 acc = qq) := ⟨by rw [hqq]; rfl⟩
          have HBK := Aside0.mk HS.out.blk
          have hr := HBK.out; have r0 := blk_cell hr 0; have r1 := blk_cell hr 1; have r2 := blk_cell hr 2; have r3 := blk_cell hr 3; have z0 := blk_frozen hr 0; have z1 := blk_frozen hr 1; have z2 := blk_frozen hr 2; have z3 := blk_frozen hr 3; clear hr
          clear hM hc hf hrow hcl
          have hl1b : ((acc.length : Int) == 1) = true := by rw [hl1]; rfl
          have hl1c : (acc.length : Int) = 1 := by omega
          clear hqq
          go_wp2
          refine bodyPost_ret (results_cell_row rfl _ _ w.heap.size 25 #[.int .u8 qq.f0, .string qq.f1, .int .i64 qq.f2, .slice A6 qq.f3.length n6] (0, 0) _ rfl (blk_put (blk_put (blk_put (blk_put HBK.out 0 (.int .u8 qq.f0) rfl) 1 (.string qq.f1) rfl) 2 (.int .i64 qq.f2) rfl) 3 (.slice A6 qq.f3.length n6) rfl) hu25 rfl rfl) rfl ?_
          have hF := HS.out.finD hgw HM.out (.int .u8 qq.f0) (.string qq.f1) (.int .i64 qq.f2) (.slice A6 qq.f3.length n6)
          (rw [HLF.out, hQ.out]; exact hF)
        · have hl0 : ¬ (acc.length : Int) = 1 := by omega
          have hl1b : ((acc.length : Int) == 1) = false := by simpa using hl0
          have HM := Aside0.mk (M_kid (k := 3) HS.out.row)
          have hQ : Aside0 (lst mkQ 3 acc = mkQ 3 acc) := ⟨by
            match acc, hl1 with
            | [], _ => rfl
            | _ :: _ :: _, _ => rfl⟩
          have HBK := Aside0.mk HS.out.blk
          have hr := HBK.out; have r0 := blk_cell hr 0; have r1 := blk_cell hr 1; have r2 := blk_cell hr 2; have r3 := blk_cell hr 3; have z0 := blk_frozen hr 0; have z1 := blk_frozen hr 1; have z2 := blk_frozen hr 2; have z3 := blk_frozen hr 3; clear hr
          go_wp2
          refine bodyPost_ret (results_cell_row rfl _ _ w.heap.size 25 #[.int .u8 3, .string ⟨#[]⟩, .int .i64 0, .slice A0 acc.length n0] (0, 0) _ rfl (blk_put (blk_put (blk_put (blk_put HBK.out 0 (.int .u8 3) rfl) 1 (.string ⟨#[]⟩) rfl) 2 (.int .i64 0) rfl) 3 (.slice A0 acc.length n0) rfl) hu25 rfl rfl) rfl ?_
          have hF := HS.out.finD (q := mkQ 3 acc) hgw HM.out (.int .u8 3) (.string ⟨#[]⟩) (.int .i64 0) (.slice A0 acc.length n0)
          (rw [HLF.out, hQ.out]; exact hF)
      have qx : (X.toList == [79, 82]) = false := by simpa using hc3
      have HC : Aside0 (¬ ((lt s).length ≤ b ∨ isB (lt s) b [41] = true ∨ (isB (lt s) b [79, 82] = true ∧ endB (lt s) (b + 2) = true))) := ⟨by
        rintro (h | h | h)
        · exact hc1 (by simpa using h)
        · rw [hi1] at h; exact hc2 (of_decide_eq_true h)
        · exact hc3 (HXK.out.2 h)⟩
      clear hi1 hc2
      go_wp2_with (first
        | (go_at_call 32; refine (word5 HS.out.rd (HT.out.kp HS.out.kp) hs hb1).mono ?_; rintro en w1 ⟨rfl, hR, hK⟩; rw [HB0.out] at hR ⊢; rw [← HX.out]; replace HS := Aside0.mk (HS.out.moved hgw hR hK); clear hR hK d0 d1 d2 d3 d4; obtain ⟨d0, d1, d2, d3, d4, _, _⟩ := HS.out.rd.cells))
      go_region_held3 (fun W' => (W'.cell? ⟨g, 0, none⟩ = some (.string s) ∧ W'.cell? ⟨g, 1, none⟩ = some (.int .i64 (b : Int))) ∧ Aside0 (A5 w g s (b : Int) (o : Int) 0 p (.slice A0 acc.length n0) acc W')) (exact ⟨⟨HS.out.rd.cells.1, HS.out.rd.cells.2.1⟩, ⟨by first | exact HS.out | exact HS.out.drew⟩⟩) (fail)
      replace HS := Aside0.mk HS.out.drew
      (clear d0 d1 d2 d3 d4)
      go_wp2_with (first
        | (go_at_call 41; refine (HN.out _ b o p (by exact HS.out.rd) (HT.out.kp HS.out.kp) hle2 ho (by omega)).mono ?_; rintro e w7 hO; obtain ⟨q2, cs, rfl, hM, hK, hd⟩ := out5_ret hO; obtain ⟨A7, n7, rfl⟩ := M_opened hM; have HM := Aside0.mk (k25.M_lower HS.out.kp.size hM); have HOW := Aside0.mk (Kd.R_lt HS.out.row); have HSZ := Aside0.mk (blk_lt HS.out.blk); have HD := Aside0.mk hd; obtain ⟨ii, oo, ee, pp, hR⟩ : ∃ ii oo ee pp, R5 w7 g s ii oo ee pp := by
             rcases hd with ⟨a', o', _, hR⟩ | ⟨pa, c, i', o'', _, _, _, hR⟩
             · exact ⟨_, _, _, _, hR⟩
             · exact ⟨_, _, _, _, hR⟩
           replace HS := Aside0.mk (HS.out.moved hgw hR hK); clear hM hR hK hd hO)
        | (at_builtin; refine Kd.R_append k25 w.heap.size rfl (.tmp 41) (.tmp 44) 23 25 (.agg Z4) 56 rfl Tryd.underlying23 info25q rfl (by decide) (by omega) (.slice A0 acc.length n0) acc q2 [.int .u8 q2.f0, .string q2.f1, .int .i64 q2.f2, .slice A7 q2.f3.length n7] (fun k => w.heap.size < k) _ rfl rfl HM.out (fun k hk => ?ap) (fun k hk => ?fr) HS.out.row (Below.refl w.heap.size _) HS.out.kp.size ?ln ?_; (case ap => exact ⟨Nat.lt_of_lt_of_le HSZ.out hk, fun e => by have := HOW.out k e.symm; omega⟩); (case fr => exact Nat.lt_of_lt_of_le (blk_lt HS.out.blk) hk); (case ln => omega); intro v8 w8 hR8 hB8 hG8 hat8; have HG := Aside0.mk hG8; have HR8 := Aside0.mk hR8; clear hR8 hB8 hG8 hat8))
      have hnx := HNX.out q2 v8 w8 HC.out HL.out (by
        rcases HD.out with ⟨a', o', hE, hR⟩ | ⟨pa, c, i', o'', hE, hc, hi, hR⟩
        · exact .inl ⟨a', o', hE, A5.grow hgw ⟨hR, HS.out.kp, HS.out.row, HS.out.blk⟩ HR8.out HG.out⟩
        · exact .inr ⟨pa, c, i', o'', hE, hc, hi, A5.grow hgw ⟨hR, HS.out.kp, HS.out.row, HS.out.blk⟩ HR8.out HG.out⟩)
      refine ⟨⟨hnx.1⟩, ?_⟩
      rw [HPW.out]
      exact hnx.2
    · obtain ⟨A0, n0, ev⟩ := Kd.R_slice hS.row
      subst ev
      have HS := Aside0.mk hS
      have HL := Aside0.mk hL
      have hc0 : (c == 0) = false := by simpa using hc
      clear hS hL hrel
      obtain ⟨d0, d1, d2, d3, d4, _, _⟩ := HS.out.rd.cells
      by_cases hl1 : acc.length = 1
      · obtain ⟨qq, hqq⟩ : ∃ x, acc = [x] := by
          match acc, hl1 with
          | [x], _ => exact ⟨x, rfl⟩
        have hrow := HS.out.row
        rw [hqq] at hrow
        obtain ⟨gr, cap, ev, _⟩ := Kd.R_form hrow (by simp)
        injection ev with ev1 ev2 ev3
        subst ev1
        obtain ⟨cs, hcl, hM, hc, hf⟩ := Kd.R_elem hrow (⟨0, ⟨#[]⟩, 0, []⟩ : S25) 0 (by omega) (by simp)
        obtain ⟨A6, n6, rfl⟩ := M_opened hM
        have HM := Aside0.mk (k25.M_mono (ok' := fun k => w.heap.size < k) (fun k hk => hk.1) hM)
        have e0 := hc 0 _ rfl
        have e1 := hc 1 _ rfl
        have e2 := hc 2 _ rfl
        have e3 := hc 3 _ rfl
        simp at e0 e1 e2 e3
        have hgr : w.heap.size ≠ gr := by have := Kd.R_lt hrow gr (by simp [Value.ownBlock]); have := hrow.1 gr (by simp [Value.ownBlock]); omega
        have hQ : Aside0 (lst mkQ 3 acc = qq) := ⟨by rw [hqq]; rfl⟩
        have HBK := Aside0.mk HS.out.blk
        have hr := HBK.out; have r0 := blk_cell hr 0; have r1 := blk_cell hr 1; have r2 := blk_cell hr 2; have r3 := blk_cell hr 3; have z0 := blk_frozen hr 0; have z1 := blk_frozen hr 1; have z2 := blk_frozen hr 2; have z3 := blk_frozen hr 3; clear hr
        clear hM hc hf hrow hcl
        have hl1b : ((acc.length : Int) == 1) = true := by rw [hl1]; rfl
        have hl1c : (acc.length : Int) = 1 := by omega
        clear hqq
        go_wp2
        refine bodyPost_ret (results_cell_row rfl _ _ w.heap.size 25 #[.int .u8 qq.f0, .string qq.f1, .int .i64 qq.f2, .slice A6 qq.f3.length n6] (0, 0) _ rfl (blk_put (blk_put (blk_put (blk_put HBK.out 0 (.int .u8 qq.f0) rfl) 1 (.string qq.f1) rfl) 2 (.int .i64 qq.f2) rfl) 3 (.slice A6 qq.f3.length n6) rfl) hu25 rfl rfl) rfl ?_
        have hF := HS.out.fin hgw HM.out (.int .u8 qq.f0) (.string qq.f1) (.int .i64 qq.f2) (.slice A6 qq.f3.length n6)
        (rw [HL.out]; exact ⟨⟨_, hF.1⟩, hc, ⟨i', o'', hi', hF.2.1⟩, hF.2.2⟩)
      · have hl0 : ¬ (acc.length : Int) = 1 := by omega
        have hl1b : ((acc.length : Int) == 1) = false := by simpa using hl0
        have HM := Aside0.mk (M_kid (k := 3) HS.out.row)
        have hQ : Aside0 (lst mkQ 3 acc = mkQ 3 acc) := ⟨by
          match acc, hl1 with
          | [], _ => rfl
          | _ :: _ :: _, _ => rfl⟩
        have HBK := Aside0.mk HS.out.blk
        have hr := HBK.out; have r0 := blk_cell hr 0; have r1 := blk_cell hr 1; have r2 := blk_cell hr 2; have r3 := blk_cell hr 3; have z0 := blk_frozen hr 0; have z1 := blk_frozen hr 1; have z2 := blk_frozen hr 2; have z3 := blk_frozen hr 3; clear hr
        go_wp2
        refine bodyPost_ret (results_cell_row rfl _ _ w.heap.size 25 #[.int .u8 3, .string ⟨#[]⟩, .int .i64 0, .slice A0 acc.length n0] (0, 0) _ rfl (blk_put (blk_put (blk_put (blk_put HBK.out 0 (.int .u8 3) rfl) 1 (.string ⟨#[]⟩) rfl) 2 (.int .i64 0) rfl) 3 (.slice A0 acc.length n0) rfl) hu25 rfl rfl) rfl ?_
        have hF := HS.out.fin (q := mkQ 3 acc) hgw HM.out (.int .u8 3) (.string ⟨#[]⟩) (.int .i64 0) (.slice A0 acc.length n0)
        (rw [HL.out]; exact ⟨⟨_, hF.1⟩, hc, ⟨i', o'', hi', hF.2.1⟩, hF.2.2⟩)
end Go.Proofs.YtlmmbefejmbpeaaDoor.Ref
namespace Go.Proofs.YtlmmbefejmbpeaaDoor.Ref
open Go.RowKit Go.Shelf Go.Proofs.Qp Go.Proofs.YtlmmbefejmbpeaaDoorW.PrintWords Go.Proofs.YtlmmbefejmbpeaaDoorW.PrintLast Go.Proofs.YtlmmbefejmbpeaaDoorW.PrintMore Go.Proofs.YtlmmbefejmbpeaaDoor.PQry1 Go.Proofs.YtlmmbefejmbpeaaDoor Go.Proofs.YtlmmbefejmbpeaaDoor.PQry0 Go.Proofs.YtlmmbefejmbpeaaDoor.G Go.Proofs.YtlmmbefejmbpeaaDoor.M
set_option linter.unusedVariables false
set_option linter.unusedSimpArgs false
/-- and, over not at fuel f, answers as andV -/
def And5 (g : Nat) (s : ByteArray) (f : Nat) : Prop := ∀ (w : World) (a o : Nat) (p : Int), R5 w g s (a : Int) (o : Int) 0 p → TT g w → a ≤ s.size → o ≤ 16 → s.size < f + a →
  Calls Tryd.prog 31 #[rp g] w fun e w' => Out5 g s o p w w' e (andV (lt s) mkQ (notV (lt s) mkQ lf f) a o)
/-- how far the loop is: reading on, or behind a fault -/
def LoopO (w : World) (g : Nat) (s : ByteArray) (f a o : Nat) (p : Int) (v : Value) (wq : World) : Prop := ∃ acc : List S25,
  (∃ b k : Nat, a < b ∧ b ≤ s.size ∧ s.size < k + b ∧ acc.length ≤ b ∧ A5 w g s (b : Int) (o : Int) 0 p v acc wq ∧ orLoop (lt s) mkQ (andV (lt s) mkQ (notV (lt s) mkQ lf f)) k acc b o = orV (lt s) mkQ (andV (lt s) mkQ (notV (lt s) mkQ lf f)) a o) ∨
  (∃ (pa : Nat) (c : Int) (i' : Nat) (o'' : Int), acc.length ≤ 1001 ∧ orV (lt s) mkQ (andV (lt s) mkQ (notV (lt s) mkQ lf f)) a o = .bad pa c ∧ c ≠ 0 ∧ i' ≤ s.size + 40 - o ∧ A5 w g s (i' : Int) o'' c (pa : Int) v acc wq)
theorem loopO_start {w w3 : World} {g : Nat} {s : ByteArray} {f a o : Nat} {p : Int} {q1 : S25} {A3 : Option Addr} {n3 : Nat} (hg : g < w.heap.size) (ha : a ≤ s.size) (hb : w.heap.size < w3.heap.size) (hkp : Kp (fun k => k = g) w w3) (hbk : w3.heap[w.heap.size]? = some (.cells Z4 25)) (hM : k25.M w3 w.heap.size (fun k => w.heap.size < k) q1 [.int .u8 q1.f0, .string q1.f1, .int .i64 q1.f2, .slice A3 q1.f3.length n3])
    (hd : (∃ a' o' : Nat, andV (lt s) mkQ (notV (lt s) mkQ lf f) a o = .ok q1 a' o' ∧ R5 w3 g s (a' : Int) (o' : Int) 0 p) ∨ (∃ (pa : Nat) (c : Int) (i' : Nat) (o'' : Int), andV (lt s) mkQ (notV (lt s) mkQ lf f) a o = .bad pa c ∧ c ≠ 0 ∧ i' ≤ s.size + 40 - o ∧ R5 w3 g s (i' : Int) o'' c (pa : Int))) :
    LoopO w g s f a o p (.slice (some ⟨w3.heap.size, 0, none⟩) 1 1) (w3.alloc (.cells #[.int .u8 q1.f0, .string q1.f1, .int .i64 q1.f2, .slice A3 q1.f3.length n3] 25)) := by
  have hrow := R_lit1 hM (fun k hk => hk) hb hkp.size
  have hbk2 := ((below_up (w := w3) (.cells #[.int .u8 q1.f0, .string q1.f1, .int .i64 q1.f2, .slice A3 q1.f3.length n3] 25)).block _ (blk_lt hbk)).trans hbk
  refine ⟨[q1], ?_⟩
  rcases hd with ⟨a', o', hE, hR⟩ | ⟨pa, c, i', o'', hE, hc, hi, hR⟩
  · obtain ⟨g1, g2, rfl⟩ := andV_goes (lt s) mkQ (notV_goes (lt s) mkQ lf leaf_nil f) _ _ _ _ _ (by simpa using ha) hE
    have g3 : a' ≤ s.size := by simpa using g2
    refine .inl ⟨a', s.size + 1, g1, g3, by omega, by simp; omega, ⟨hR.old (below_up _), hkp.alloc _, hrow, hbk2⟩, ?_⟩
    unfold orV
    rw [hE]
    simp
  · refine .inr ⟨pa, c, i', o'', by simp, ?_, hc, hi, ⟨hR.old (below_up _), hkp.alloc _, hrow, hbk2⟩⟩
    unfold orV
    rw [hE]
theorem loopO_next {w : World} {g : Nat} {s : ByteArray} {f a o b0 b k : Nat} {p : Int} {acc : List S25} {q2 : S25} {v : Value} {wq : World} (hab : a < b0) (hbb : b0 ≤ b) (hb : b + 2 ≤ s.size) (hk : s.size < k + b0) (hal : acc.length ≤ b0) (hs : s.size ≤ 1000) (hb0 : skip (lt s) b0 = b)
    (h1 : isB (lt s) b [79, 82] = true) (h2 : endB (lt s) (b + 2) = true)
    (hL : orLoop (lt s) mkQ (andV (lt s) mkQ (notV (lt s) mkQ lf f)) k acc b0 o = orV (lt s) mkQ (andV (lt s) mkQ (notV (lt s) mkQ lf f)) a o)
    (hd : (∃ a' o' : Nat, andV (lt s) mkQ (notV (lt s) mkQ lf f) (b + 2) o = .ok q2 a' o' ∧ A5 w g s (a' : Int) (o' : Int) 0 p v (acc ++ [q2]) wq) ∨ (∃ (pa : Nat) (c : Int) (i' : Nat) (o'' : Int), andV (lt s) mkQ (notV (lt s) mkQ lf f) (b + 2) o = .bad pa c ∧ c ≠ 0 ∧ i' ≤ s.size + 40 - o ∧ A5 w g s (i' : Int) o'' c (pa : Int) v (acc ++ [q2]) wq)) :
    LoopO w g s f a o p v wq ∧ mR s g wq < s.size + 1 - b0 := by
  have hk0 : 0 < k := by omega
  rcases hd with ⟨a', o', hE, hA⟩ | ⟨pa, c, i', o'', hE, hc, hi, hA⟩
  · obtain ⟨g1, g2, rfl⟩ := andV_goes (lt s) mkQ (notV_goes (lt s) mkQ lf leaf_nil f) _ _ _ _ _ (by simpa using hb) hE
    have g3 : a' ≤ s.size := by simpa using g2
    refine ⟨⟨acc ++ [q2], .inl ⟨a', k - 1, by omega, g3, by omega, by simp; omega, hA, ?_⟩⟩, ?_⟩
    · rw [← hL]
      exact (or_next hk0 (by rw [hb0]; exact h1) (by rw [hb0]; exact h2) (by rw [hb0]; exact hE)).symm
    · rw [mR_ok hA.rd]; omega
  · refine ⟨⟨acc ++ [q2], .inr ⟨pa, c, i', o'', by simp; omega, ?_, hc, hi, hA⟩⟩, ?_⟩
    · rw [← hL]
      exact or_fault hk0 (by rw [hb0]; exact h1) (by rw [hb0]; exact h2) (by rw [hb0]; exact hE)
    · rw [mR_bad hA.rd hc]; omega
set_option maxHeartbeats 4000000 in
set_option maxRecDepth 100000 in
theorem ror_run {w : World} {g : Nat} {s : ByteArray} {f a o : Nat} {p : Int} (hN : And5 g s f) (h : R5 w g s (a : Int) (o : Int) 0 p) (hT : TT g w) (hs : s.size ≤ 1000) (ha : a ≤ s.size) (ho : o ≤ 16) (hf : s.size < f + a) :
    Calls Tryd.prog 20 #[rp g] w fun e w' => Out5 g s o p w w' e (orV (lt s) mkQ (andV (lt s) mkQ (notV (lt s) mkQ lf f)) a o) := by
  have H := Aside0.mk h
  have HN := Aside0.mk hN
  have HT := Aside0.mk hT
  have hgw : g < w.heap.size := h.lt
  clear h hT hN
  have HA : Aside0 (A5 w g s (a : Int) (o : Int) 0 p (.slice none 0 0) [] (w.alloc (.cells Z4 25))) := ⟨⟨H.out.old (below_up _), Kp.of_below (below_up _), Kd.R_nil _ _ _ _ _, M.blk_new _ _⟩⟩
  have hu25 := Tryd.underlying25
  have hs25 := Tryd.sizeOf25
  have hz25 := Tryd.zeroValue25
  go_enter Tryd.func20, Tryd.ntmps20
  go_wp2_with (first
    | (go_at_call 31; refine (HN.out _ a o p HA.out.rd (HT.out.kp HA.out.kp) ha ho hf).mono ?_; rintro e w3 hO; obtain ⟨q1, cs, rfl, hM, hk, hd⟩ := out5_ret hO; obtain ⟨A3, n3, rfl⟩ := M_opened hM
       have HL := Aside0.mk (loopO_start (A3 := A3) (n3 := n3) (p := p) hgw ha (Nat.lt_of_lt_of_le (blk_lt HA.out.blk) hk.size) (HA.out.kp.trans hk) ((hk.block _ (blk_lt HA.out.blk) (by omega)).trans HA.out.blk) (k25.M_lower HA.out.kp.size (k25.M_mono (fun k hk2 => Nat.lt_of_lt_of_le (blk_lt HA.out.blk) hk2) hM)) hd); clear hM hk hd hO))
  clear HA H
  go_loopw [3] (fun v wq => Aside0 (LoopO w g s f a o p v wq)) (fun _ wq => mR s g wq)
  case atStart => exact HL
  case round =>
    clear HL
    obtain ⟨acc, hcase⟩ := hrel.out
    rcases hcase with ⟨b0, k, hb0, hb1, hk, hal, hS, hL⟩ | ⟨pa, c, i', o'', hal, hL, hc, hi', hS⟩
    · obtain ⟨A0, n0, ev⟩ := Kd.R_slice hS.row
      subst ev
      have HS := Aside0.mk hS
      have HL := Aside0.mk hL
      have HPW := Aside0.mk (mR_ok hS.rd)
      have hk0 : 0 < k := by omega
      have hle2 : skip (lt s) b0 ≤ s.size := by simpa using skip_le (lt s) (i := b0) (by simpa using hb1)
      have hge := skip_ge (lt s) b0
      have hst := or_stop (l := lt s) (mk := mkQ) (A := andV (lt s) mkQ (notV (lt s) mkQ lf f)) (acc := acc) (a := b0) (o := o) hk0
      have hkb : keyB (lt s) b0 [79, 82] = (isB (lt s) (skip (lt s) b0) [79, 82] && endB (lt s) (skip (lt s) b0 + 2)) := rfl
      have HNX := Aside0.mk (fun q2 v wq hb2 => @loopO_next w g s f a o b0 (skip (lt s) b0) k p acc q2 v wq hb0 hge hb2 hk hal hs rfl)
      generalize hbb : skip (lt s) b0 = b at *
      have HB0 := Aside0.mk hbb
      obtain ⟨X, hX⟩ : ∃ X : ByteArray, X = ⟨(wordAt (lt s) b).toArray⟩ := ⟨_, rfl⟩
      have HX := Aside0.mk hX
      have hXk : X.toList = [79, 82] ↔ (isB (lt s) b [79, 82] = true ∧ endB (lt s) (b + 2) = true) := by
        rw [hX, ByteArray.toList_eq]
        exact word_key (l := lt s) (b := b) (p := [79, 82]) (by decide)
      have HXK := Aside0.mk hXk
      have HST := Aside0.mk hst
      have HKB := Aside0.mk hkb
      clear hS hL hrel hbb hX hst hXk hkb
      obtain ⟨d0, d1, d2, d3, d4, f1, f2⟩ := HS.out.rd.cells
      by_cases hc3 : X.toList = [79, 82]
      · have qx : (X.toList == [79, 82]) = true := by rw [hc3]; rfl
        have HC := Aside0.mk (HXK.out.1 hc3)
        have hb2 : b + 2 ≤ s.size := by have := isB_le (lt s) HC.out.1 (by simp); simpa using this
        have hwr : IntKind.i64.wrap ((b : Int) + 2) = (b : Int) + 2 := IntWalk.i64_in _ (by omega)
        go_upto_region 4 with (first
          | (go_at_call 32; refine (word5 HS.out.rd (HT.out.kp HS.out.kp) hs hb1).mono ?_; rintro en w1 ⟨rfl, hR, hK⟩; rw [HB0.out] at hR ⊢; rw [← HX.out]; replace HS := Aside0.mk (HS.out.moved hgw hR hK); clear hR hK d0 d1 d2 d3 d4 f1 f2; obtain ⟨d0, d1, d2, d3, d4, f1, f2⟩ := HS.out.rd.cells))
        replace HS := Aside0.mk (HS.out.setI hgw ((b : Int) + 2))
        (clear d0 d1 d2 d3 d4 f1 f2)
        generalize w1.setCell ⟨g, 1, none⟩ (.int .i64 ((b : Int) + 2)) = wz at HS ⊢
        have hcb : ((b : Int) + 2) = ((b + 2 : Nat) : Int) := by omega
        have HS2 : Aside0 (A5 w g s ((b + 2 : Nat) : Int) (o : Int) 0 p (.slice A0 acc.length n0) acc wz) := ⟨by rw [← hcb]; exact HS.out⟩
        (clear HS hcb)
        go_wp2_with (first
          | (go_at_call 31; refine (HN.out _ (b + 2) o p (by exact HS2.out.rd) (HT.out.kp HS2.out.kp) hb2 ho (by omega)).mono ?_; rintro e w7 hO; obtain ⟨q2, cs, rfl, hM, hK, hd⟩ := out5_ret hO; obtain ⟨A7, n7, rfl⟩ := M_opened hM; have HM := Aside0.mk (k25.M_lower HS2.out.kp.size hM); have HOW := Aside0.mk (Kd.R_lt HS2.out.row); have HSZ := Aside0.mk (blk_lt HS2.out.blk); have HD := Aside0.mk hd; obtain ⟨ii, oo, ee, pp, hR⟩ : ∃ ii oo ee pp, R5 w7 g s ii oo ee pp := by
               rcases hd with ⟨a', o', _, hR⟩ | ⟨pa, c, i', o'', _, _, _, hR⟩
               · exact ⟨_, _, _, _, hR⟩
               · exact ⟨_, _, _, _, hR⟩
             have HS := Aside0.mk (HS2.out.moved hgw hR hK); clear hM hR hK hd hO)
          | (at_builtin; refine Kd.R_append k25 w.heap.size rfl (.tmp 24) (.tmp 27) 23 25 (.agg Z4) 56 rfl Tryd.underlying23 info25q rfl (by decide) (by omega) (.slice A0 acc.length n0) acc q2 [.int .u8 q2.f0, .string q2.f1, .int .i64 q2.f2, .slice A7 q2.f3.length n7] (fun k => w.heap.size < k) _ rfl rfl HM.out (fun k hk => ?ap) (fun k hk => ?fr) HS.out.row (Below.refl w.heap.size _) HS.out.kp.size ?ln ?_; (case ap => exact ⟨Nat.lt_of_lt_of_le HSZ.out hk, fun e => by have := HOW.out k e.symm; omega⟩); (case fr => exact Nat.lt_of_lt_of_le (blk_lt HS.out.blk) hk); (case ln => omega); intro v8 w8 hR8 hB8 hG8 hat8; have HG := Aside0.mk hG8; have HR8 := Aside0.mk hR8; clear hR8 hB8 hG8 hat8))
        have hnx := HNX.out q2 v8 w8 hb2 HC.out.1 HC.out.2 HL.out (by
          rcases HD.out with ⟨a', o', hE, hR⟩ | ⟨pa, c, i', o'', hE, hc, hi, hR⟩
          · exact .inl ⟨a', o', hE, A5.grow hgw ⟨hR, HS.out.kp, HS.out.row, HS.out.blk⟩ HR8.out HG.out⟩
          · exact .inr ⟨pa, c, i', o'', hE, hc, hi, A5.grow hgw ⟨hR, HS.out.kp, HS.out.row, HS.out.blk⟩ HR8.out HG.out⟩)
        refine ⟨⟨hnx.1⟩, ?_⟩
        rw [HPW.out]
        exact hnx.2
      have qx : (X.toList == [79, 82]) = false := by simpa using hc3
      have HLF := Aside0.mk (HL.out.symm.trans (HST.out (by
        rw [HKB.out, Bool.eq_false_iff]
        intro e
        exact hc3 (HXK.out.2 (by simpa using e)))))
      go_upto_region 5 with (first
        | (go_at_call 32; refine (word5 HS.out.rd (HT.out.kp HS.out.kp) hs hb1).mono ?_; rintro en w1 ⟨rfl, hR, hK⟩; rw [HB0.out] at hR ⊢; rw [← HX.out]; replace HS := Aside0.mk (HS.out.moved hgw hR hK); clear hR hK d0 d1 d2 d3 d4 f1 f2; obtain ⟨d0, d1, d2, d3, d4, f1, f2⟩ := HS.out.rd.cells))
      (clear d0 d1 d2 d3 d4 f1 f2)
      by_cases hl1 : acc.length = 1
      · obtain ⟨qq, hqq⟩ : ∃ x, acc = [x] := by
          match acc, hl1 with
          | [x], _ => exact ⟨x, rfl⟩
        have hrow := HS.out.row
        rw [hqq] at hrow
        obtain ⟨gr, cap, ev, _⟩ := Kd.R_form hrow (by simp)
        injection ev with ev1 ev2 ev3
        subst ev1
        obtain ⟨cs, hcl, hM, hc, hf⟩ := Kd.R_elem hrow (⟨0, ⟨#[]⟩, 0, []⟩ : S25) 0 (by omega) (by simp)
        obtain ⟨A6, n6, rfl⟩ := M_opened hM
        have HM := Aside0.mk (k25.M_mono (ok' := fun k => w.heap.size < k) (fun k hk => hk.1) hM)
        have e0 := hc 0 _ rfl
        have e1 := hc 1 _ rfl
        have e2 := hc 2 _ rfl
        have e3 := hc 3 _ rfl
        simp at e0 e1 e2 e3
        have hgr : w.heap.size ≠ gr := by have := Kd.R_lt hrow gr (by simp [Value.ownBlock]); have := hrow.1 gr (by simp [Value.ownBlock]); omega
        have hQ : Aside0 (lst mkQ 4 acc = qq) := ⟨by rw [hqq]; rfl⟩
        have HBK := Aside0.mk HS.out.blk
        have hr := HBK.out; have r0 := blk_cell hr 0; have r1 := blk_cell hr 1; have r2 := blk_cell hr 2; have r3 := blk_cell hr 3; have z0 := blk_frozen hr 0; have z1 := blk_frozen hr 1; have z2 := blk_frozen hr 2; have z3 := blk_frozen hr 3; clear hr
        clear hM hc hf hrow hcl
        have hl1b : ((acc.length : Int) == 1) = true := by rw [hl1]; rfl
        have hl1c : (acc.length : Int) = 1 := by omega
        clear hqq
        go_wp2
        refine bodyPost_ret (results_cell_row rfl _ _ w.heap.size 25 #[.int .u8 qq.f0, .string qq.f1, .int .i64 qq.f2, .slice A6 qq.f3.length n6] (0, 0) _ rfl (blk_put (blk_put (blk_put (blk_put HBK.out 0 (.int .u8 qq.f0) rfl) 1 (.string qq.f1) rfl) 2 (.int .i64 qq.f2) rfl) 3 (.slice A6 qq.f3.length n6) rfl) hu25 rfl rfl) rfl ?_
        have hF := HS.out.fin hgw HM.out (.int .u8 qq.f0) (.string qq.f1) (.int .i64 qq.f2) (.slice A6 qq.f3.length n6)
        (rw [HLF.out, hQ.out]; exact hF)
      · have hl0 : ¬ (acc.length : Int) = 1 := by omega
        have hl1b : ((acc.length : Int) == 1) = false := by simpa using hl0
        have HM := Aside0.mk (M_kid (k := 4) HS.out.row)
        have hQ : Aside0 (lst mkQ 4 acc = mkQ 4 acc) := ⟨by
          match acc, hl1 with
          | [], _ => rfl
          | _ :: _ :: _, _ => rfl⟩
        have HBK := Aside0.mk HS.out.blk
        have hr := HBK.out; have r0 := blk_cell hr 0; have r1 := blk_cell hr 1; have r2 := blk_cell hr 2; have r3 := blk_cell hr 3; have z0 := blk_frozen hr 0; have z1 := blk_frozen hr 1; have z2 := blk_frozen hr 2; have z3 := blk_frozen hr 3; clear hr
        go_wp2
        refine bodyPost_ret (results_cell_row rfl _ _ w.heap.size 25 #[.int .u8 4, .string ⟨#[]⟩, .int .i64 0, .slice A0 acc.length n0] (0, 0) _ rfl (blk_put (blk_put (blk_put (blk_put HBK.out 0 (.int .u8 4) rfl) 1 (.string ⟨#[]⟩) rfl) 2 (.int .i64 0) rfl) 3 (.slice A0 acc.length n0) rfl) hu25 rfl rfl) rfl ?_
        have hF := HS.out.fin (q := mkQ 4 acc) hgw HM.out (.int .u8 4) (.string ⟨#[]⟩) (.int .i64 0) (.slice A0 acc.length n0)
        (rw [HLF.out, hQ.out]; exact hF)
    · obtain ⟨A0, n0, ev⟩ := Kd.R_slice hS.row
      subst ev
      have HS := Aside0.mk hS
      have HL := Aside0.mk hL
      have hc0 : (c == 0) = false := by simpa using hc
      clear hS hL hrel
      obtain ⟨d0, d1, d2, d3, d4, _, _⟩ := HS.out.rd.cells
      by_cases hl1 : acc.length = 1
      · obtain ⟨qq, hqq⟩ : ∃ x, acc = [x] := by
          match acc, hl1 with
          | [x], _ => exact ⟨x, rfl⟩
        have hrow := HS.out.row
        rw [hqq] at hrow
        obtain ⟨gr, cap, ev, _⟩ := Kd.R_form hrow (by simp)
        injection ev with ev1 ev2 ev3
        subst ev1
        obtain ⟨cs, hcl, hM, hc, hf⟩ := Kd.R_elem hrow (⟨0, ⟨#[]⟩, 0, []⟩ : S25) 0 (by omega) (by simp)
        obtain ⟨A6, n6, rfl⟩ := M_opened hM
        have HM := Aside0.mk (k25.M_mono (ok' := fun k => w.heap.size < k) (fun k hk => hk.1) hM)
        have e0 := hc 0 _ rfl
        have e1 := hc 1 _ rfl
        have e2 := hc 2 _ rfl
        have e3 := hc 3 _ rfl
        simp at e0 e1 e2 e3
        have hgr : w.heap.size ≠ gr := by have := Kd.R_lt hrow gr (by simp [Value.ownBlock]); have := hrow.1 gr (by simp [Value.ownBlock]); omega
        have hQ : Aside0 (lst mkQ 4 acc = qq) := ⟨by rw [hqq]; rfl⟩
        have HBK := Aside0.mk HS.out.blk
        have hr := HBK.out; have r0 := blk_cell hr 0; have r1 := blk_cell hr 1; have r2 := blk_cell hr 2; have r3 := blk_cell hr 3; have z0 := blk_frozen hr 0; have z1 := blk_frozen hr 1; have z2 := blk_frozen hr 2; have z3 := blk_frozen hr 3; clear hr
        clear hM hc hf hrow hcl
        have hl1b : ((acc.length : Int) == 1) = true := by rw [hl1]; rfl
        have hl1c : (acc.length : Int) = 1 := by omega
        clear hqq
        go_wp2
        refine bodyPost_ret (results_cell_row rfl _ _ w.heap.size 25 #[.int .u8 qq.f0, .string qq.f1, .int .i64 qq.f2, .slice A6 qq.f3.length n6] (0, 0) _ rfl (blk_put (blk_put (blk_put (blk_put HBK.out 0 (.int .u8 qq.f0) rfl) 1 (.string qq.f1) rfl) 2 (.int .i64 qq.f2) rfl) 3 (.slice A6 qq.f3.length n6) rfl) hu25 rfl rfl) rfl ?_
        have hF := HS.out.fin hgw HM.out (.int .u8 qq.f0) (.string qq.f1) (.int .i64 qq.f2) (.slice A6 qq.f3.length n6)
        (rw [HL.out]; exact ⟨⟨_, hF.1⟩, hc, ⟨i', o'', hi', hF.2.1⟩, hF.2.2⟩)
      · have hl0 : ¬ (acc.length : Int) = 1 := by omega
        have hl1b : ((acc.length : Int) == 1) = false := by simpa using hl0
        have HM := Aside0.mk (M_kid (k := 4) HS.out.row)
        have hQ : Aside0 (lst mkQ 4 acc = mkQ 4 acc) := ⟨by
          match acc, hl1 with
          | [], _ => rfl
          | _ :: _ :: _, _ => rfl⟩
        have HBK := Aside0.mk HS.out.blk
        have hr := HBK.out; have r0 := blk_cell hr 0; have r1 := blk_cell hr 1; have r2 := blk_cell hr 2; have r3 := blk_cell hr 3; have z0 := blk_frozen hr 0; have z1 := blk_frozen hr 1; have z2 := blk_frozen hr 2; have z3 := blk_frozen hr 3; clear hr
        go_wp2
        refine bodyPost_ret (results_cell_row rfl _ _ w.heap.size 25 #[.int .u8 4, .string ⟨#[]⟩, .int .i64 0, .slice A0 acc.length n0] (0, 0) _ rfl (blk_put (blk_put (blk_put (blk_put HBK.out 0 (.int .u8 4) rfl) 1 (.string ⟨#[]⟩) rfl) 2 (.int .i64 0) rfl) 3 (.slice A0 acc.length n0) rfl) hu25 rfl rfl) rfl ?_
        have hF := HS.out.fin (q := mkQ 4 acc) hgw HM.out (.int .u8 4) (.string ⟨#[]⟩) (.int .i64 0) (.slice A0 acc.length n0)
        (rw [HL.out]; exact ⟨⟨_, hF.1⟩, hc, ⟨i', o'', hi', hF.2.1⟩, hF.2.2⟩)
end Go.Proofs.YtlmmbefejmbpeaaDoor.Ref
namespace Go.Proofs.YtlmmbefejmbpeaaDoor.Ref
open Go.RowKit Go.Shelf Go.Proofs.Qp Go.Proofs.YtlmmbefejmbpeaaDoorW.PrintWords Go.Proofs.YtlmmbefejmbpeaaDoorW.PrintLast Go.Proofs.YtlmmbefejmbpeaaDoorW.PrintMore Go.Proofs.YtlmmbefejmbpeaaDoor.PQry1 Go.Proofs.YtlmmbefejmbpeaaDoor Go.Proofs.YtlmmbefejmbpeaaDoor.PQry0 Go.Proofs.YtlmmbefejmbpeaaDoor.G Go.Proofs.YtlmmbefejmbpeaaDoor.M
set_option linter.unusedVariables false
set_option linter.unusedSimpArgs false
def Or5 (g : Nat) (s : ByteArray) (f : Nat) : Prop := ∀ (w : World) (a o : Nat) (p : Int), R5 w g s (a : Int) (o : Int) 0 p → TT g w → a ≤ s.size → o ≤ 16 → s.size < f + a →
  Calls Tryd.prog 20 #[rp g] w fun e w' => Out5 g s o p w w' e (orV (lt s) mkQ (andV (lt s) mkQ (notV (lt s) mkQ lf f)) a o)
theorem and5 {g : Nat} {s : ByteArray} {f : Nat} (hN : Not5 g s f) (hs : s.size ≤ 1000) : And5 g s f := fun w a o p h hT ha ho hf => rand_run hN h hT hs ha ho hf
theorem or5 {g : Nat} {s : ByteArray} {f : Nat} (hN : Not5 g s f) (hs : s.size ≤ 1000) : Or5 g s f := fun w a o p h hT ha ho hf => ror_run (and5 hN hs) h hT hs ha ho hf
/-- not, with no row -/
abbrev N5 (w : World) (g : Nat) (s : ByteArray) (i o e p : Int) (w' : World) : Prop := A5 w g s i o e p (.slice none 0 0) [] w'
theorem n5_start {w : World} {g : Nat} {s : ByteArray} {i o e p : Int} (h : R5 w g s i o e p) : N5 w g s i o e p (w.alloc (.cells Z4 25)) :=
  ⟨h.old (below_up _), Kp.of_below (below_up _), Kd.R_nil _ _ _ _ _, M.blk_new _ _⟩
/-- and with a query in a variable of its own -/
structure B5 (w : World) (g : Nat) (s : ByteArray) (i o e p : Int) (n : Nat) (q : S25) (cs : List Value) (w' : World) : Prop where
  st : N5 w g s i o e p w'
  lt : w.heap.size < n
  qc : w'.heap[n]? = some (.cells cs.toArray 25)
  qm : k25.M w' w.heap.size (fun k => n < k) q cs
section
variable {w : World} {g : Nat} {s : ByteArray} {i o e p : Int} {n : Nat} {q : S25} {cs : List Value} {w' : World}
theorem B5.moved {w2 : World} {i' o' e' p' : Int} (hg : g < w.heap.size) (h : B5 w g s i o e p n q cs w') (hr : R5 w2 g s i' o' e' p') (hk : Kp (fun k => k = g) w' w2) : B5 w g s i' o' e' p' n q cs w2 :=
  ⟨h.st.moved hg hr hk, h.lt, (hk.block n (blk_lt h.qc) (by have := h.lt; omega)).trans h.qc, Kd.M_step h.qm (fun k hk2 hlt => hk.block k hlt (by have := h.lt; omega))⟩
theorem B5.setI (hg : g < w.heap.size) (h : B5 w g s i o e p n q cs w') (x : Int) : B5 w g s x o e p n q cs (w'.setCell ⟨g, 1, none⟩ (.int .i64 x)) :=
  h.moved hg (h.st.rd.setI x) ((Kp.refl (fun k => k = g) _).setCell (p := ⟨g, 1, none⟩) rfl _)
theorem B5.setO (hg : g < w.heap.size) (h : B5 w g s i o e p n q cs w') (x : Int) : B5 w g s i x e p n q cs (w'.setCell ⟨g, 2, none⟩ (.int .i64 x)) :=
  h.moved hg (h.st.rd.setO x) ((Kp.refl (fun k => k = g) _).setCell (p := ⟨g, 2, none⟩) rfl _)
theorem B5.drew (h : B5 w g s i o e p n q cs w') : B5 w g s i o e p n q cs w'.drew := ⟨h.st.drew, h.lt, h.qc, by refine k25.M_move ?_ h.qm; intro k _; rfl⟩
theorem n5_far (h : N5 w g s i o e p w') (hg : g < w.heap.size) (hn : w.heap.size < n) (j : Nat) (v : Value) : N5 w g s i o e p (w'.setCell ⟨n, j, none⟩ v) :=
  ⟨h.rd.far (a := ⟨n, j, none⟩) (by show n ≠ g; omega) v, h.kp.setNew (p := ⟨n, j, none⟩) (by show _ ≤ n; omega) v, Kd.R_nil _ _ _ _ _, blk_other h.blk (p := ⟨n, j, none⟩) (by show n ≠ _; omega) v⟩
theorem b5_store {u0 u1 u2 u3 v0 v1 v2 v3 : Value} (hg : g < w.heap.size) (h : N5 w g s i o e p w') (hn : w.heap.size < n) (hz : w'.heap[n]? = some (.cells #[u0, u1, u2, u3] 25)) (hM : k25.M w' w.heap.size (fun k => n < k) q [v0, v1, v2, v3]) :
    B5 w g s i o e p n q [v0, v1, v2, v3] ((((w'.setCell ⟨n, 0, none⟩ v0).setCell ⟨n, 1, none⟩ v1).setCell ⟨n, 2, none⟩ v2).setCell ⟨n, 3, none⟩ v3) := by
  have f : ∀ (W : World) (j : Nat) (v : Value), k25.M W w.heap.size (fun k => n < k) q [v0, v1, v2, v3] → k25.M (W.setCell ⟨n, j, none⟩ v) w.heap.size (fun k => n < k) q [v0, v1, v2, v3] :=
    fun W j v H => Kd.M_far H (p := ⟨n, j, none⟩) (fun k hk e => by simp at e; omega) v
  have a1 := n5_far h hg hn 0 v0
  have z1 := blk_put hz 0 v0 rfl
  have m1 := f _ 0 v0 hM
  generalize w'.setCell ⟨n, 0, none⟩ v0 = W1 at *
  have a2 := n5_far a1 hg hn 1 v1
  have z2 := blk_put z1 1 v1 rfl
  have m2 := f _ 1 v1 m1
  generalize W1.setCell ⟨n, 1, none⟩ v1 = W2 at *
  have a3 := n5_far a2 hg hn 2 v2
  have z3 := blk_put z2 2 v2 rfl
  have m3 := f _ 2 v2 m2
  generalize W2.setCell ⟨n, 2, none⟩ v2 = W3 at *
  exact ⟨n5_far a3 hg hn 3 v3, hn, blk_put z3 3 v3 rfl, f _ 3 v3 m3⟩
theorem B5.m (h : B5 w g s i o e p n q cs w') : k25.M w' w.heap.size (fun k => w.heap.size < k) q cs := k25.M_mono (fun k hk => Nat.lt_trans h.lt hk) h.qm
end
/-- NOT of what was read; a bracket's end behind it -/
def mapN : Rs S25 → Rs S25
  | .ok q a o => .ok (mkQ 5 [q]) a (o - 1)
  | .bad p e => .bad p e
def mapP (l : List UInt8) : Rs S25 → Rs S25
  | .ok q a o => if isB l (skip l a) [41] = true then .ok q (skip l a + 1) (o - 1) else .bad (skip l a) 4
  | .bad p e => .bad p e
theorem out5_st {g : Nat} {s : ByteArray} {o : Nat} {p0 : Int} {w w' : World} {e : Ending} {r : Rs S25} (h : Out5 g s o p0 w w' e r) :
    ∃ (q : S25) (cs : List Value) (ii : Nat) (oo ee pp : Int), e = .returned (.agg cs.toArray) ∧ k25.M w' w.heap.size (fun k => w.heap.size ≤ k) q cs ∧ Kp (fun k => k = g) w w' ∧ R5 w' g s (ii : Int) oo ee pp ∧
      ((∃ o' : Nat, r = .ok q ii o' ∧ oo = (o' : Int) ∧ ee = 0 ∧ pp = p0) ∨ (∃ pa : Nat, r = .bad pa ee ∧ ee ≠ 0 ∧ ii ≤ s.size + 40 - o ∧ pp = (pa : Int))) := by
  obtain ⟨q, cs, he, hM, hK, hd⟩ := out5_ret h
  rcases hd with ⟨a', o', hr, hR⟩ | ⟨pa, c, i', o'', hr, hc, hi, hR⟩
  · exact ⟨q, cs, a', o', 0, p0, he, hM, hK, hR, .inl ⟨o', hr, rfl, rfl, rfl⟩⟩
  · exact ⟨q, cs, i', o'', c, pa, he, hM, hK, hR, .inr ⟨pa, hr, hc, hi, rfl⟩⟩
theorem leaf_out {w : World} {g : Nat} {s : ByteArray} {b o : Nat} {p : Int} {X : ByteArray} {q : S25} {en : Ending} {W : World} (ho : o ≤ 16) (hwe : wend (lt s) b ≤ s.size) (hX : X = ⟨(wordAt (lt s) b).toArray⟩) (hq : ∀ q', leafV X = some q' → q = q')
    (h1 : ∃ cs : List Value, en = .returned (.agg cs.toArray) ∧ k25.M W w.heap.size (fun k => w.heap.size ≤ k) q cs) (h2 : R5 W g s ((b : Int) + (X.size : Int)) (o : Int) (match leafV X with | some _ => 0 | none => 4) (match leafV X with | some _ => p | none => (b : Int))) (h3 : Kp (fun k => k = g) w W) :
    Out5 g s o p w W en (wordR (lt s) b o) := by
  have hsz : (b : Int) + (X.size : Int) = ((wend (lt s) b : Nat) : Int) := by
    have : X.size = (wordAt (lt s) b).length := by rw [hX]; simp [ByteArray.size]
    unfold wend
    omega
  rw [hsz] at h2
  unfold wordR lf
  rw [← hX]
  cases hl : leafV X with
  | some q' =>
    rw [hl] at h2
    have := hq q' hl
    subst this
    exact ⟨h1, h2, h3⟩
  | none =>
    rw [hl] at h2
    exact ⟨⟨q, h1⟩, by decide, ⟨wend (lt s) b, (o : Int), by omega, h2⟩, h3⟩
end Go.Proofs.YtlmmbefejmbpeaaDoor.Ref
namespace Go.Proofs.YtlmmbefejmbpeaaDoor.Ref
open Go.RowKit Go.Shelf Go.Proofs.Qp Go.Proofs.YtlmmbefejmbpeaaDoorW.PrintWords Go.Proofs.YtlmmbefejmbpeaaDoorW.PrintLast Go.Proofs.YtlmmbefejmbpeaaDoorW.PrintMore Go.Proofs.YtlmmbefejmbpeaaDoor.PQry1 Go.Proofs.YtlmmbefejmbpeaaDoor Go.Proofs.YtlmmbefejmbpeaaDoor.PQry0 Go.Proofs.YtlmmbefejmbpeaaDoor.G Go.Proofs.YtlmmbefejmbpeaaDoor.M
set_option linter.unusedVariables false
set_option linter.unusedSimpArgs false
set_option maxHeartbeats 4000000 in
set_option maxRecDepth 100000 in
theorem rnot_leaf0 {w : World} {g : Nat} {s : ByteArray} {a o f b : Nat} {p : Int} (hN : Not5 g s f) (hO : Or5 g s f) (h : R5 w g s (a : Int) (o : Int) 0 p) (hT : TT g w) (hs : s.size ≤ 1000) (ha : a ≤ s.size) (ho : o ≤ 16) (hf : s.size < f + 1 + a) (hb : skip (lt s) a = b) {X : ByteArray} (hX : X = ⟨(wordAt (lt s) b).toArray⟩)
    (hx : ¬ X.toList = [78, 79, 84]) (hsz : s.size ≤ b)  :
    Calls Tryd.prog 41 #[rp g] w fun e w' => Out5 g s o p w w' e (wordR (lt s) b o) := by
  have hgw : g < w.heap.size := h.lt
  have HT := Aside0.mk hT
  have HN := Aside0.mk hN
  have HO := Aside0.mk hO
  have HS := Aside0.mk (n5_start h)
  have hle2 : b ≤ s.size := by rw [← hb]; simpa using skip_le (lt s) (i := a) (by simpa using ha)
  have hge : a ≤ b := by rw [← hb]; exact skip_ge (lt s) a
  have HB0 := Aside0.mk hb
  have HX := Aside0.mk hX
  have qx : (X.toList == [78, 79, 84]) = false := by simpa using hx
  have hd1 : decide ((b : Int) < (s.size : Int)) = false := decide_eq_false (by omega)
  have hd2 : decide (b < s.size) = false := decide_eq_false (by omega)
  have hwe : wend (lt s) b ≤ s.size := by
    have := word_le (lt s) (i := b) (by simpa using hle2)
    unfold wend; simpa using this
  have hXs : X.size ≤ 1000 := by
    have : X.size = (wordAt (lt s) b).length := by rw [hX]; simp [ByteArray.size]
    unfold wend at hwe
    omega
  clear hx
  clear h hT hN hO hb hX
  have hu25 := Tryd.underlying25
  have hs25 := Tryd.sizeOf25
  have hz25 := Tryd.zeroValue25
  obtain ⟨d0, d1, d2, d3, d4, f1, f2⟩ := HS.out.rd.cells
  go_enter Tryd.func41, Tryd.ntmps41
  go_wp2_with (first
    | (go_at_call 32; refine (word5 HS.out.rd (HT.out.kp HS.out.kp) hs ha).mono ?_; rintro en w1 ⟨rfl, hR, hK⟩; rw [HB0.out] at hR ⊢; rw [← HX.out]; replace HS := Aside0.mk (HS.out.moved hgw hR hK); clear hR hK; clear d0 d1 d2 d3 d4 f1 f2; obtain ⟨d0, d1, d2, d3, d4, f1, f2⟩ := HS.out.rd.cells)
    | (go_at_call 50; refine (leaf5 HS.out.rd (HT.out.kp HS.out.kp) X hXs (by omega)).mono ?_; rintro en w2 ⟨⟨⟨q, cs, rfl, hM, hq⟩, hR⟩, hK⟩; obtain ⟨A6, n6, rfl⟩ := M_opened hM; have HM := Aside0.mk (k25.M_lower HS.out.kp.size (k25.M_mono (ok' := fun k => w.heap.size < k) (fun k hk => Nat.lt_of_lt_of_le (blk_lt HS.out.blk) hk) hM)); have HQ := Aside0.mk hq; replace HS := Aside0.mk (HS.out.moved hgw hR hK); clear hM hq hR hK d0 d1 d2 d3 d4 f1 f2; have HBK := Aside0.mk HS.out.blk; have hr := HBK.out; have r0 := blk_cell hr 0; have r1 := blk_cell hr 1; have r2 := blk_cell hr 2; have r3 := blk_cell hr 3; have z0 := blk_frozen hr 0; have z1 := blk_frozen hr 1; have z2 := blk_frozen hr 2; have z3 := blk_frozen hr 3; clear hr))
  refine bodyPost_ret (results_cell_row rfl _ _ w.heap.size 25 #[.int .u8 q.f0, .string q.f1, .int .i64 q.f2, .slice A6 q.f3.length n6] (0, 0) _ rfl (blk_put (blk_put (blk_put (blk_put HBK.out 0 (.int .u8 q.f0) rfl) 1 (.string q.f1) rfl) 2 (.int .i64 q.f2) rfl) 3 (.slice A6 q.f3.length n6) rfl) hu25 rfl rfl) rfl ?_
  have hF := HS.out.fin hgw HM.out (.int .u8 q.f0) (.string q.f1) (.int .i64 q.f2) (.slice A6 q.f3.length n6)
  exact leaf_out ho hwe HX.out HQ.out hF.1 hF.2.1 hF.2.2
end Go.Proofs.YtlmmbefejmbpeaaDoor.Ref
namespace Go.Proofs.YtlmmbefejmbpeaaDoor.Ref
open Go.RowKit Go.Shelf Go.Proofs.Qp Go.Proofs.YtlmmbefejmbpeaaDoorW.PrintWords Go.Proofs.YtlmmbefejmbpeaaDoorW.PrintLast Go.Proofs.YtlmmbefejmbpeaaDoorW.PrintMore Go.Proofs.YtlmmbefejmbpeaaDoor.PQry1 Go.Proofs.YtlmmbefejmbpeaaDoor Go.Proofs.YtlmmbefejmbpeaaDoor.PQry0 Go.Proofs.YtlmmbefejmbpeaaDoor.G Go.Proofs.YtlmmbefejmbpeaaDoor.M
set_option linter.unusedVariables false
set_option linter.unusedSimpArgs false
set_option maxHeartbeats 4000000 in
set_option maxRecDepth 100000 in
theorem rnot_leaf1 {w : World} {g : Nat} {s : ByteArray} {a o f b : Nat} {p : Int} (hN : Not5 g s f) (hO : Or5 g s f) (h : R5 w g s (a : Int) (o : Int) 0 p) (hT : TT g w) (hs : s.size ≤ 1000) (ha : a ≤ s.size) (ho : o ≤ 16) (hf : s.size < f + 1 + a) (hb : skip (lt s) a = b) {X : ByteArray} (hX : X = ⟨(wordAt (lt s) b).toArray⟩)
    (hx : ¬ X.toList = [78, 79, 84]) (hlt : b < s.size) (hop : s[b] ≠ 40)  :
    Calls Tryd.prog 41 #[rp g] w fun e w' => Out5 g s o p w w' e (wordR (lt s) b o) := by
  have hgw : g < w.heap.size := h.lt
  have HT := Aside0.mk hT
  have HN := Aside0.mk hN
  have HO := Aside0.mk hO
  have HS := Aside0.mk (n5_start h)
  have hle2 : b ≤ s.size := by rw [← hb]; simpa using skip_le (lt s) (i := a) (by simpa using ha)
  have hge : a ≤ b := by rw [← hb]; exact skip_ge (lt s) a
  have HB0 := Aside0.mk hb
  have HX := Aside0.mk hX
  have qx : (X.toList == [78, 79, 84]) = false := by simpa using hx
  have hb00 : (0 : Int) ≤ (b : Int) := by omega
  have hb01 : (b : Int) < (s.size : Int) := by omega
  have hd1 : decide ((b : Int) < (s.size : Int)) = true := decide_eq_true (by omega)
  have hd2 : decide (b < s.size) = true := decide_eq_true (by omega)
  have m40 : ¬ (s[b].toNat : Int) = 40 := fun e => hop ((u8i s[b] 40).1 e)
  have q40 : ((s[b].toNat : Int) == 40) = false := by simpa using m40
  have n40 : ¬ s[b].toNat = 40 := by omega
  clear hop
  have hwe : wend (lt s) b ≤ s.size := by
    have := word_le (lt s) (i := b) (by simpa using hle2)
    unfold wend; simpa using this
  have hXs : X.size ≤ 1000 := by
    have : X.size = (wordAt (lt s) b).length := by rw [hX]; simp [ByteArray.size]
    unfold wend at hwe
    omega
  clear hx
  clear h hT hN hO hb hX
  have hu25 := Tryd.underlying25
  have hs25 := Tryd.sizeOf25
  have hz25 := Tryd.zeroValue25
  obtain ⟨d0, d1, d2, d3, d4, f1, f2⟩ := HS.out.rd.cells
  go_enter Tryd.func41, Tryd.ntmps41
  go_wp2_with (first
    | (go_at_call 32; refine (word5 HS.out.rd (HT.out.kp HS.out.kp) hs ha).mono ?_; rintro en w1 ⟨rfl, hR, hK⟩; rw [HB0.out] at hR ⊢; rw [← HX.out]; replace HS := Aside0.mk (HS.out.moved hgw hR hK); clear hR hK; clear d0 d1 d2 d3 d4 f1 f2; obtain ⟨d0, d1, d2, d3, d4, f1, f2⟩ := HS.out.rd.cells)
    | (go_at_call 50; refine (leaf5 HS.out.rd (HT.out.kp HS.out.kp) X hXs (by omega)).mono ?_; rintro en w2 ⟨⟨⟨q, cs, rfl, hM, hq⟩, hR⟩, hK⟩; obtain ⟨A6, n6, rfl⟩ := M_opened hM; have HM := Aside0.mk (k25.M_lower HS.out.kp.size (k25.M_mono (ok' := fun k => w.heap.size < k) (fun k hk => Nat.lt_of_lt_of_le (blk_lt HS.out.blk) hk) hM)); have HQ := Aside0.mk hq; replace HS := Aside0.mk (HS.out.moved hgw hR hK); clear hM hq hR hK d0 d1 d2 d3 d4 f1 f2; have HBK := Aside0.mk HS.out.blk; have hr := HBK.out; have r0 := blk_cell hr 0; have r1 := blk_cell hr 1; have r2 := blk_cell hr 2; have r3 := blk_cell hr 3; have z0 := blk_frozen hr 0; have z1 := blk_frozen hr 1; have z2 := blk_frozen hr 2; have z3 := blk_frozen hr 3; clear hr))
  refine bodyPost_ret (results_cell_row rfl _ _ w.heap.size 25 #[.int .u8 q.f0, .string q.f1, .int .i64 q.f2, .slice A6 q.f3.length n6] (0, 0) _ rfl (blk_put (blk_put (blk_put (blk_put HBK.out 0 (.int .u8 q.f0) rfl) 1 (.string q.f1) rfl) 2 (.int .i64 q.f2) rfl) 3 (.slice A6 q.f3.length n6) rfl) hu25 rfl rfl) rfl ?_
  have hF := HS.out.fin hgw HM.out (.int .u8 q.f0) (.string q.f1) (.int .i64 q.f2) (.slice A6 q.f3.length n6)
  exact leaf_out ho hwe HX.out HQ.out hF.1 hF.2.1 hF.2.2
end Go.Proofs.YtlmmbefejmbpeaaDoor.Ref
namespace Go.Proofs.YtlmmbefejmbpeaaDoor.Ref
open Go.RowKit Go.Shelf Go.Proofs.Qp Go.Proofs.YtlmmbefejmbpeaaDoorW.PrintWords Go.Proofs.YtlmmbefejmbpeaaDoorW.PrintLast Go.Proofs.YtlmmbefejmbpeaaDoorW.PrintMore Go.Proofs.YtlmmbefejmbpeaaDoor.PQry1 Go.Proofs.YtlmmbefejmbpeaaDoor Go.Proofs.YtlmmbefejmbpeaaDoor.PQry0 Go.Proofs.YtlmmbefejmbpeaaDoor.G Go.Proofs.YtlmmbefejmbpeaaDoor.M
set_option linter.unusedVariables false
set_option linter.unusedSimpArgs false
set_option maxHeartbeats 4000000 in
set_option maxRecDepth 100000 in
theorem rnot_ndeep1 {w : World} {g : Nat} {s : ByteArray} {a o f b : Nat} {p : Int} (hN : Not5 g s f) (hO : Or5 g s f) (h : R5 w g s (a : Int) (o : Int) 0 p) (hT : TT g w) (hs : s.size ≤ 1000) (ha : a ≤ s.size) (ho : o ≤ 16) (hf : s.size < f + 1 + a) (hb : skip (lt s) a = b) {X : ByteArray} (hX : X = ⟨(wordAt (lt s) b).toArray⟩)
    (hx : X.toList = [78, 79, 84]) (hlt : b < s.size) (hop : s[b] ≠ 40) (h16 : 16 < o + 1) :
    Calls Tryd.prog 41 #[rp g] w fun e w' => Out5 g s o p w w' e (.bad b 7) := by
  have hgw : g < w.heap.size := h.lt
  have HT := Aside0.mk hT
  have HN := Aside0.mk hN
  have HO := Aside0.mk hO
  have HS := Aside0.mk (n5_start h)
  have hle2 : b ≤ s.size := by rw [← hb]; simpa using skip_le (lt s) (i := a) (by simpa using ha)
  have hge : a ≤ b := by rw [← hb]; exact skip_ge (lt s) a
  have HB0 := Aside0.mk hb
  have HX := Aside0.mk hX
  have qx : (X.toList == [78, 79, 84]) = true := by rw [hx]; rfl
  have hb3 : b + 3 ≤ s.size := by
    have h2 := (word_key (l := lt s) (b := b) (p := [78, 79, 84]) (by decide)).1 (by rw [← hx, hX, ByteArray.toList_eq])
    have := isB_le (lt s) h2.1 (by simp); simpa using this
  have hb00 : (0 : Int) ≤ (b : Int) := by omega
  have hb01 : (b : Int) < (s.size : Int) := by omega
  have hd1 : decide ((b : Int) < (s.size : Int)) = true := decide_eq_true (by omega)
  have hd2 : decide (b < s.size) = true := decide_eq_true (by omega)
  have m40 : ¬ (s[b].toNat : Int) = 40 := fun e => hop ((u8i s[b] 40).1 e)
  have q40 : ((s[b].toNat : Int) == 40) = false := by simpa using m40
  have n40 : ¬ s[b].toNat = 40 := by omega
  clear hop
  have hw1 : IntKind.i64.wrap ((o : Int) + 1) = (o : Int) + 1 := IntWalk.i64_in _ (by omega)
  have g16 : (16 : Int) < (o : Int) + 1 := by omega
  clear hx
  clear h hT hN hO hb hX
  have hu25 := Tryd.underlying25
  have hs25 := Tryd.sizeOf25
  have hz25 := Tryd.zeroValue25
  obtain ⟨d0, d1, d2, d3, d4, f1, f2⟩ := HS.out.rd.cells
  go_enter Tryd.func41, Tryd.ntmps41
  go_wp2_with (first
    | (go_at_call 32; refine (word5 HS.out.rd (HT.out.kp HS.out.kp) hs ha).mono ?_; rintro en w1 ⟨rfl, hR, hK⟩; rw [HB0.out] at hR ⊢; rw [← HX.out]; replace HS := Aside0.mk (HS.out.moved hgw hR hK); clear hR hK; clear d0 d1 d2 d3 d4 f1 f2; obtain ⟨d0, d1, d2, d3, d4, f1, f2⟩ := HS.out.rd.cells)
    | (go_at_call 22; refine (fail5 (by first | exact HS.out.rd | exact (HS.out.setO hgw _).rd) (HT.out.kp (by first | exact HS.out.kp | exact (HS.out.setO hgw _).kp)) (b : Int) 7).mono ?_; rintro en w2 ⟨rfl, hR, hK⟩; replace HS := Aside0.mk ((HS.out.setO hgw ((o : Int) + 1)).moved hgw hR hK); clear hR hK d0 d1 d2 d3 d4 f1 f2; have HBK := Aside0.mk HS.out.blk; have hr := HBK.out; have r0 := blk_cell hr 0; have r1 := blk_cell hr 1; have r2 := blk_cell hr 2; have r3 := blk_cell hr 3; have z0 := blk_frozen hr 0; have z1 := blk_frozen hr 1; have z2 := blk_frozen hr 2; have z3 := blk_frozen hr 3; clear hr))
  refine bodyPost_ret (results_cell_row rfl _ _ w.heap.size 25 #[.int .u8 0, .string ⟨#[]⟩, .int .i64 0, .slice none 0 0] (0, 0) _ rfl (blk_put (blk_put (blk_put (blk_put HBK.out 0 (.int .u8 0) rfl) 1 (.string ⟨#[]⟩) rfl) 2 (.int .i64 0) rfl) 3 (.slice none 0 0) rfl) hu25 rfl rfl) rfl ?_
  have hF := HS.out.fin (q := zq) hgw (k25_mkM _ _ _ zq (Kd.R_nil _ _ _ _ _)) (.int .u8 0) (.string ⟨#[]⟩) (.int .i64 0) (.slice none 0 0)
  exact ⟨⟨zq, hF.1⟩, by decide, ⟨b, (o : Int) + 1, by omega, hF.2.1⟩, hF.2.2⟩
end Go.Proofs.YtlmmbefejmbpeaaDoor.Ref
namespace Go.Proofs.YtlmmbefejmbpeaaDoor.Ref
open Go.RowKit Go.Shelf Go.Proofs.Qp Go.Proofs.YtlmmbefejmbpeaaDoorW.PrintWords Go.Proofs.YtlmmbefejmbpeaaDoorW.PrintLast Go.Proofs.YtlmmbefejmbpeaaDoorW.PrintMore Go.Proofs.YtlmmbefejmbpeaaDoor.PQry1 Go.Proofs.YtlmmbefejmbpeaaDoor Go.Proofs.YtlmmbefejmbpeaaDoor.PQry0 Go.Proofs.YtlmmbefejmbpeaaDoor.G Go.Proofs.YtlmmbefejmbpeaaDoor.M
set_option linter.unusedVariables false
set_option linter.unusedSimpArgs false
set_option maxHeartbeats 4000000 in
set_option maxRecDepth 100000 in
theorem rnot_pdeep {w : World} {g : Nat} {s : ByteArray} {a o f b : Nat} {p : Int} (hN : Not5 g s f) (hO : Or5 g s f) (h : R5 w g s (a : Int) (o : Int) 0 p) (hT : TT g w) (hs : s.size ≤ 1000) (ha : a ≤ s.size) (ho : o ≤ 16) (hf : s.size < f + 1 + a) (hb : skip (lt s) a = b) {X : ByteArray} (hX : X = ⟨(wordAt (lt s) b).toArray⟩)
    (hx : ¬ X.toList = [78, 79, 84]) (hlt : b < s.size) (hop : s[b] = 40) (h16 : 16 < o + 1) :
    Calls Tryd.prog 41 #[rp g] w fun e w' => Out5 g s o p w w' e (.bad b 7) := by
  have hgw : g < w.heap.size := h.lt
  have HT := Aside0.mk hT
  have HN := Aside0.mk hN
  have HO := Aside0.mk hO
  have HS := Aside0.mk (n5_start h)
  have hle2 : b ≤ s.size := by rw [← hb]; simpa using skip_le (lt s) (i := a) (by simpa using ha)
  have hge : a ≤ b := by rw [← hb]; exact skip_ge (lt s) a
  have HB0 := Aside0.mk hb
  have HX := Aside0.mk hX
  have qx : (X.toList == [78, 79, 84]) = false := by simpa using hx
  have hb00 : (0 : Int) ≤ (b : Int) := by omega
  have hb01 : (b : Int) < (s.size : Int) := by omega
  have hd1 : decide ((b : Int) < (s.size : Int)) = true := decide_eq_true (by omega)
  have hd2 : decide (b < s.size) = true := decide_eq_true (by omega)
  have q40 : ((s[b].toNat : Int) == 40) = true := by rw [hop]; rfl
  have n40 : s[b].toNat = 40 := by rw [hop]; rfl
  clear hop
  have hw1 : IntKind.i64.wrap ((o : Int) + 1) = (o : Int) + 1 := IntWalk.i64_in _ (by omega)
  have g16 : (16 : Int) < (o : Int) + 1 := by omega
  clear hx
  clear h hT hN hO hb hX
  have hu25 := Tryd.underlying25
  have hs25 := Tryd.sizeOf25
  have hz25 := Tryd.zeroValue25
  obtain ⟨d0, d1, d2, d3, d4, f1, f2⟩ := HS.out.rd.cells
  go_enter Tryd.func41, Tryd.ntmps41
  go_wp2_with (first
    | (go_at_call 32; refine (word5 HS.out.rd (HT.out.kp HS.out.kp) hs ha).mono ?_; rintro en w1 ⟨rfl, hR, hK⟩; rw [HB0.out] at hR ⊢; rw [← HX.out]; replace HS := Aside0.mk (HS.out.moved hgw hR hK); clear hR hK; clear d0 d1 d2 d3 d4 f1 f2; obtain ⟨d0, d1, d2, d3, d4, f1, f2⟩ := HS.out.rd.cells)
    | (go_at_call 22; refine (fail5 (by first | exact HS.out.rd | exact (HS.out.setO hgw _).rd) (HT.out.kp (by first | exact HS.out.kp | exact (HS.out.setO hgw _).kp)) (b : Int) 7).mono ?_; rintro en w2 ⟨rfl, hR, hK⟩; replace HS := Aside0.mk ((HS.out.setO hgw ((o : Int) + 1)).moved hgw hR hK); clear hR hK d0 d1 d2 d3 d4 f1 f2; have HBK := Aside0.mk HS.out.blk; have hr := HBK.out; have r0 := blk_cell hr 0; have r1 := blk_cell hr 1; have r2 := blk_cell hr 2; have r3 := blk_cell hr 3; have z0 := blk_frozen hr 0; have z1 := blk_frozen hr 1; have z2 := blk_frozen hr 2; have z3 := blk_frozen hr 3; clear hr))
  refine bodyPost_ret (results_cell_row rfl _ _ w.heap.size 25 #[.int .u8 0, .string ⟨#[]⟩, .int .i64 0, .slice none 0 0] (0, 0) _ rfl (blk_put (blk_put (blk_put (blk_put HBK.out 0 (.int .u8 0) rfl) 1 (.string ⟨#[]⟩) rfl) 2 (.int .i64 0) rfl) 3 (.slice none 0 0) rfl) hu25 rfl rfl) rfl ?_
  have hF := HS.out.fin (q := zq) hgw (k25_mkM _ _ _ zq (Kd.R_nil _ _ _ _ _)) (.int .u8 0) (.string ⟨#[]⟩) (.int .i64 0) (.slice none 0 0)
  exact ⟨⟨zq, hF.1⟩, by decide, ⟨b, (o : Int) + 1, by omega, hF.2.1⟩, hF.2.2⟩
end Go.Proofs.YtlmmbefejmbpeaaDoor.Ref
namespace Go.Proofs.YtlmmbefejmbpeaaDoor.Ref
open Go.RowKit Go.Shelf Go.Proofs.Qp Go.Proofs.YtlmmbefejmbpeaaDoorW.PrintWords Go.Proofs.YtlmmbefejmbpeaaDoorW.PrintLast Go.Proofs.YtlmmbefejmbpeaaDoorW.PrintMore Go.Proofs.YtlmmbefejmbpeaaDoor.PQry1 Go.Proofs.YtlmmbefejmbpeaaDoor Go.Proofs.YtlmmbefejmbpeaaDoor.PQry0 Go.Proofs.YtlmmbefejmbpeaaDoor.G Go.Proofs.YtlmmbefejmbpeaaDoor.M
set_option linter.unusedVariables false
set_option linter.unusedSimpArgs false
set_option maxHeartbeats 4000000 in
set_option maxRecDepth 100000 in
theorem rnot_ncall {w : World} {g : Nat} {s : ByteArray} {a o f b : Nat} {p : Int} (hN : Not5 g s f) (hO : Or5 g s f) (h : R5 w g s (a : Int) (o : Int) 0 p) (hT : TT g w) (hs : s.size ≤ 1000) (ha : a ≤ s.size) (ho : o ≤ 16) (hf : s.size < f + 1 + a) (hb : skip (lt s) a = b) {X : ByteArray} (hX : X = ⟨(wordAt (lt s) b).toArray⟩)
    (hx : X.toList = [78, 79, 84]) (hlt : b < s.size) (hop : s[b] ≠ 40) (h16 : ¬ 16 < o + 1) {r : Rs S25} (hE : notV (lt s) mkQ lf f (b + 3) (o + 1) = r) :
    Calls Tryd.prog 41 #[rp g] w fun e w' => Out5 g s o p w w' e (mapN r) := by
  have hgw : g < w.heap.size := h.lt
  have HT := Aside0.mk hT
  have HN := Aside0.mk hN
  have HO := Aside0.mk hO
  have HS := Aside0.mk (n5_start h)
  have hle2 : b ≤ s.size := by rw [← hb]; simpa using skip_le (lt s) (i := a) (by simpa using ha)
  have hge : a ≤ b := by rw [← hb]; exact skip_ge (lt s) a
  have HB0 := Aside0.mk hb
  have HX := Aside0.mk hX
  have qx : (X.toList == [78, 79, 84]) = true := by rw [hx]; rfl
  have hb3 : b + 3 ≤ s.size := by
    have h2 := (word_key (l := lt s) (b := b) (p := [78, 79, 84]) (by decide)).1 (by rw [← hx, hX, ByteArray.toList_eq])
    have := isB_le (lt s) h2.1 (by simp); simpa using this
  have hb00 : (0 : Int) ≤ (b : Int) := by omega
  have hb01 : (b : Int) < (s.size : Int) := by omega
  have hd1 : decide ((b : Int) < (s.size : Int)) = true := decide_eq_true (by omega)
  have hd2 : decide (b < s.size) = true := decide_eq_true (by omega)
  have m40 : ¬ (s[b].toNat : Int) = 40 := fun e => hop ((u8i s[b] 40).1 e)
  have q40 : ((s[b].toNat : Int) == 40) = false := by simpa using m40
  have n40 : ¬ s[b].toNat = 40 := by omega
  clear hop
  have hw1 : IntKind.i64.wrap ((o : Int) + 1) = (o : Int) + 1 := IntWalk.i64_in _ (by omega)
  have g16 : ¬ (16 : Int) < (o : Int) + 1 := by omega
  have hwb : IntKind.i64.wrap ((b : Int) + 3) = (b : Int) + 3 := IntWalk.i64_in _ (by omega)
  have HE := Aside0.mk hE
  clear hx hE
  clear h hT hN hO hb hX
  have hu25 := Tryd.underlying25
  have hs25 := Tryd.sizeOf25
  have hz25 := Tryd.zeroValue25
  obtain ⟨d0, d1, d2, d3, d4, f1, f2⟩ := HS.out.rd.cells
  go_enter Tryd.func41, Tryd.ntmps41
  go_upto_region 12 with (first
    | (go_at_call 32; refine (word5 HS.out.rd (HT.out.kp HS.out.kp) hs ha).mono ?_; rintro en w1 ⟨rfl, hR, hK⟩; rw [HB0.out] at hR ⊢; rw [← HX.out]; replace HS := Aside0.mk (HS.out.moved hgw hR hK); clear hR hK; clear d0 d1 d2 d3 d4 f1 f2; obtain ⟨d0, d1, d2, d3, d4, f1, f2⟩ := HS.out.rd.cells))
  replace HS := Aside0.mk (HS.out.setO hgw ((o : Int) + 1))
  (clear d0 d1 d2 d3 d4 f1 f2)
  generalize w1.setCell ⟨g, 2, none⟩ (.int .i64 ((o : Int) + 1)) = wz at HS ⊢
  have HZ := Aside0.mk (M.blk_new wz (.cells Z4 25))
  have HLZ := Aside0.mk (blk_lt HS.out.blk)
  replace HS := Aside0.mk (HS.out.alloc (.cells Z4 25))
  obtain ⟨d0, d1, d2, d3, d4, f1, f2⟩ := HS.out.rd.cells
  go_upto_region 21 with (fail)
  replace HS := Aside0.mk (HS.out.setI hgw ((b : Int) + 3))
  replace HZ := Aside0.mk (blk_other HZ.out (p := ⟨g, 1, none⟩) (by show g ≠ _; have := HLZ.out; omega) (.int .i64 ((b : Int) + 3)))
  have HWS := Aside0.mk (show wz.heap.size < ((wz.alloc (.cells Z4 25)).setCell ⟨g, 1, none⟩ (.int .i64 ((b : Int) + 3))).heap.size from by simp)
  (clear d0 d1 d2 d3 d4 f1 f2)
  generalize ((wz.alloc (.cells Z4 25)).setCell ⟨g, 1, none⟩ (.int .i64 ((b : Int) + 3))) = wy at HS HZ HWS ⊢
  generalize wz.heap.size = n at HZ HLZ HWS ⊢
  have HS2 : Aside0 (N5 w g s ((b + 3 : Nat) : Int) ((o + 1 : Nat) : Int) 0 p wy) := ⟨by have h := HS.out; rw [show (b : Int) + 3 = ((b + 3 : Nat) : Int) from by omega, show (o : Int) + 1 = ((o + 1 : Nat) : Int) from by omega] at h; exact h⟩
  (clear HS)
  go_upto_region 22 with (first
    | (go_at_call 41; refine (HN.out _ (b + 3) (o + 1) p HS2.out.rd (HT.out.kp HS2.out.kp) hb3 (by omega) (by omega)).mono ?_; rintro e w7 hO; rw [HE.out] at hO; obtain ⟨q, cs, ii, oo, ee, pp, rfl, hM, hK, hR, hd⟩ := out5_st hO; obtain ⟨A6, n6, rfl⟩ := M_opened hM; have HM := Aside0.mk (k25.M_lower HS2.out.kp.size (k25.M_mono (ok' := fun k => n < k) (fun k hk => Nat.lt_of_lt_of_le HWS.out hk) hM)); have HD := Aside0.mk hd; have HS3 := Aside0.mk (HS2.out.moved hgw hR hK); have HZ7 := Aside0.mk ((hK.block n HWS.out (by have := HLZ.out; omega)).trans HZ.out); have hz := ((below_up (w := w7) (.cells #[.int .u8 q.f0, .string q.f1, .int .i64 q.f2, .slice A6 q.f3.length n6] 25)).block n (blk_lt HZ7.out)).trans HZ7.out; have HZ8 := Aside0.mk hz; have t0 := blk_cell hz 0; have t1 := blk_cell hz 1; have t2 := blk_cell hz 2; have t3 := blk_cell hz 3; have y0 := blk_frozen hz 0; have y1 := blk_frozen hz 1; have y2 := blk_frozen hz 2; have y3 := blk_frozen hz 3; clear hz; clear hM hR hK hd hO))
  (clear t0 t1 t2 t3 y0 y1 y2 y3)
  have HB : Aside0 (B5 w g s (ii : Int) oo ee pp n (mkQ 5 [q]) [.int .u8 5, .string ⟨#[]⟩, .int .i64 0, .slice (some ⟨w7.heap.size, 0, none⟩) 1 1] _) := ⟨b5_store hgw (HS3.out.alloc (.cells #[.int .u8 q.f0, .string q.f1, .int .i64 q.f2, .slice A6 q.f3.length n6] 25)) HLZ.out HZ8.out (M_kid (k := 5) (qs := [q]) (R_lit1 HM.out (fun k hk => hk) (blk_lt HZ7.out) HS3.out.kp.size))⟩
  (clear HZ7 HZ8 HM HS3 HS2 HZ HWS)
  revert HB
  generalize (((((w7.alloc (.cells #[.int .u8 q.f0, .string q.f1, .int .i64 q.f2, .slice A6 q.f3.length n6] 25)).setCell ⟨n, 0, none⟩ (.int .u8 5)).setCell ⟨n, 1, none⟩ (.string ⟨#[]⟩)).setCell ⟨n, 2, none⟩ (.int .i64 0)).setCell ⟨n, 3, none⟩ (.slice (some ⟨w7.heap.size, 0, none⟩) 1 1)) = wx
  generalize w7.heap.size = m
  intro HB
  obtain ⟨d0, d1, d2, d3, d4, f1, f2⟩ := HB.out.st.rd.cells
  go_upto_region 23 with (fail)
  generalize hx2 : wrap64 (oo - 1) = x2
  have HX2 := Aside0.mk hx2
  replace HB := Aside0.mk (HB.out.setO hgw x2)
  (clear d0 d1 d2 d3 d4 f1 f2 hx2)
  revert HB
  generalize World.setCell _ ⟨g, 2, none⟩ (.int .i64 x2) = wv
  intro HB
  have t0 := blk_cell HB.out.qc 0
  have t1 := blk_cell HB.out.qc 1
  have t2 := blk_cell HB.out.qc 2
  have t3 := blk_cell HB.out.qc 3
  have HBK := Aside0.mk HB.out.st.blk
  have hr := HBK.out; have r0 := blk_cell hr 0; have r1 := blk_cell hr 1; have r2 := blk_cell hr 2; have r3 := blk_cell hr 3; have z0 := blk_frozen hr 0; have z1 := blk_frozen hr 1; have z2 := blk_frozen hr 2; have z3 := blk_frozen hr 3; clear hr
  go_wp2
  refine bodyPost_ret (results_cell_row rfl _ _ w.heap.size 25 #[.int .u8 5, .string ⟨#[]⟩, .int .i64 0, .slice (some ⟨m, 0, none⟩) 1 1] (0, 0) _ rfl (blk_put (blk_put (blk_put (blk_put HBK.out 0 (.int .u8 5) rfl) 1 (.string ⟨#[]⟩) rfl) 2 (.int .i64 0) rfl) 3 (.slice (some ⟨m, 0, none⟩) 1 1) rfl) hu25 rfl rfl) rfl ?_
  have hF := HB.out.st.fin (q := mkQ 5 [q]) hgw HB.out.m (.int .u8 5) (.string ⟨#[]⟩) (.int .i64 0) (.slice (some ⟨m, 0, none⟩) 1 1)
  rcases HD.out with ⟨o', rfl, rfl, rfl, rfl⟩ | ⟨pa, rfl, hc, hi, rfl⟩
  · obtain ⟨_, _, rfl⟩ := notV_goes (lt s) mkQ lf leaf_nil f _ _ _ _ _ (by simpa using hb3) HE.out
    have hx : x2 = ((o + 1 - 1 : Nat) : Int) := by rw [← HX2.out]; unfold wrap64; omega
    rw [hx] at hF
    exact hF
  · exact ⟨⟨_, hF.1⟩, hc, ⟨ii, x2, by omega, hF.2.1⟩, hF.2.2⟩
end Go.Proofs.YtlmmbefejmbpeaaDoor.Ref
namespace Go.Proofs.YtlmmbefejmbpeaaDoor.Ref
open Go.RowKit Go.Shelf Go.Proofs.Qp Go.Proofs.YtlmmbefejmbpeaaDoorW.PrintWords Go.Proofs.YtlmmbefejmbpeaaDoorW.PrintLast Go.Proofs.YtlmmbefejmbpeaaDoorW.PrintMore Go.Proofs.YtlmmbefejmbpeaaDoor.PQry1 Go.Proofs.YtlmmbefejmbpeaaDoor Go.Proofs.YtlmmbefejmbpeaaDoor.PQry0 Go.Proofs.YtlmmbefejmbpeaaDoor.G Go.Proofs.YtlmmbefejmbpeaaDoor.M
set_option linter.unusedVariables false
set_option linter.unusedSimpArgs false
set_option maxHeartbeats 4000000 in
set_option maxRecDepth 100000 in
theorem rnot_pcall {w : World} {g : Nat} {s : ByteArray} {a o f b : Nat} {p : Int} (hN : Not5 g s f) (hO : Or5 g s f) (h : R5 w g s (a : Int) (o : Int) 0 p) (hT : TT g w) (hs : s.size ≤ 1000) (ha : a ≤ s.size) (ho : o ≤ 16) (hf : s.size < f + 1 + a) (hb : skip (lt s) a = b) {X : ByteArray} (hX : X = ⟨(wordAt (lt s) b).toArray⟩)
    (hx : ¬ X.toList = [78, 79, 84]) (hlt : b < s.size) (hop : s[b] = 40) (h16 : ¬ 16 < o + 1) {r : Rs S25} (hE : orV (lt s) mkQ (andV (lt s) mkQ (notV (lt s) mkQ lf f)) (b + 1) (o + 1) = r) :
    Calls Tryd.prog 41 #[rp g] w fun e w' => Out5 g s o p w w' e (mapP (lt s) r) := by
  have hgw : g < w.heap.size := h.lt
  have HT := Aside0.mk hT
  have HN := Aside0.mk hN
  have HO := Aside0.mk hO
  have HS := Aside0.mk (n5_start h)
  have hle2 : b ≤ s.size := by rw [← hb]; simpa using skip_le (lt s) (i := a) (by simpa using ha)
  have hge : a ≤ b := by rw [← hb]; exact skip_ge (lt s) a
  have HB0 := Aside0.mk hb
  have HX := Aside0.mk hX
  have qx : (X.toList == [78, 79, 84]) = false := by simpa using hx
  have hb00 : (0 : Int) ≤ (b : Int) := by omega
  have hb01 : (b : Int) < (s.size : Int) := by omega
  have hd1 : decide ((b : Int) < (s.size : Int)) = true := decide_eq_true (by omega)
  have hd2 : decide (b < s.size) = true := decide_eq_true (by omega)
  have q40 : ((s[b].toNat : Int) == 40) = true := by rw [hop]; rfl
  have n40 : s[b].toNat = 40 := by rw [hop]; rfl
  clear hop
  have hw1 : IntKind.i64.wrap ((o : Int) + 1) = (o : Int) + 1 := IntWalk.i64_in _ (by omega)
  have g16 : ¬ (16 : Int) < (o : Int) + 1 := by omega
  have hwb : IntKind.i64.wrap ((b : Int) + 1) = (b : Int) + 1 := IntWalk.i64_in _ (by omega)
  have hb1 : b + 1 ≤ s.size := by omega
  have HE := Aside0.mk hE
  clear hx hE
  clear h hT hN hO hb hX
  have hu25 := Tryd.underlying25
  have hs25 := Tryd.sizeOf25
  have hz25 := Tryd.zeroValue25
  obtain ⟨d0, d1, d2, d3, d4, f1, f2⟩ := HS.out.rd.cells
  go_enter Tryd.func41, Tryd.ntmps41
  go_upto_region 12 with (first
    | (go_at_call 32; refine (word5 HS.out.rd (HT.out.kp HS.out.kp) hs ha).mono ?_; rintro en w1 ⟨rfl, hR, hK⟩; rw [HB0.out] at hR ⊢; rw [← HX.out]; replace HS := Aside0.mk (HS.out.moved hgw hR hK); clear hR hK; clear d0 d1 d2 d3 d4 f1 f2; obtain ⟨d0, d1, d2, d3, d4, f1, f2⟩ := HS.out.rd.cells))
  replace HS := Aside0.mk (HS.out.setO hgw ((o : Int) + 1))
  (clear d0 d1 d2 d3 d4 f1 f2)
  generalize w1.setCell ⟨g, 2, none⟩ (.int .i64 ((o : Int) + 1)) = wz at HS ⊢
  have HZ := Aside0.mk (M.blk_new wz (.cells Z4 25))
  have HLZ := Aside0.mk (blk_lt HS.out.blk)
  replace HS := Aside0.mk (HS.out.alloc (.cells Z4 25))
  obtain ⟨d0, d1, d2, d3, d4, f1, f2⟩ := HS.out.rd.cells
  go_upto_region 15 with (fail)
  replace HS := Aside0.mk (HS.out.setI hgw ((b : Int) + 1))
  replace HZ := Aside0.mk (blk_other HZ.out (p := ⟨g, 1, none⟩) (by show g ≠ _; have := HLZ.out; omega) (.int .i64 ((b : Int) + 1)))
  have HWS := Aside0.mk (show wz.heap.size < ((wz.alloc (.cells Z4 25)).setCell ⟨g, 1, none⟩ (.int .i64 ((b : Int) + 1))).heap.size from by simp)
  (clear d0 d1 d2 d3 d4 f1 f2)
  generalize ((wz.alloc (.cells Z4 25)).setCell ⟨g, 1, none⟩ (.int .i64 ((b : Int) + 1))) = wy at HS HZ HWS ⊢
  generalize wz.heap.size = n at HZ HLZ HWS ⊢
  have HS2 : Aside0 (N5 w g s ((b + 1 : Nat) : Int) ((o + 1 : Nat) : Int) 0 p wy) := ⟨by have h := HS.out; rw [show (b : Int) + 1 = ((b + 1 : Nat) : Int) from by omega, show (o : Int) + 1 = ((o + 1 : Nat) : Int) from by omega] at h; exact h⟩
  (clear HS)
  go_upto_region 16 with (first
    | (go_at_call 20; refine (HO.out _ (b + 1) (o + 1) p HS2.out.rd (HT.out.kp HS2.out.kp) hb1 (by omega) (by omega)).mono ?_; rintro e w7 hO; rw [HE.out] at hO; obtain ⟨q, cs, ii, oo, ee, pp, rfl, hM, hK, hR, hd⟩ := out5_st hO; obtain ⟨A6, n6, rfl⟩ := M_opened hM; have HM := Aside0.mk (k25.M_lower HS2.out.kp.size (k25.M_mono (ok' := fun k => n < k) (fun k hk => Nat.lt_of_lt_of_le HWS.out hk) hM)); have HD := Aside0.mk hd; have HS3 := Aside0.mk (HS2.out.moved hgw hR hK); have HZ7 := Aside0.mk ((hK.block n HWS.out (by have := HLZ.out; omega)).trans HZ.out); have hz := HZ7.out; have t0 := blk_cell hz 0; have t1 := blk_cell hz 1; have t2 := blk_cell hz 2; have t3 := blk_cell hz 3; have y0 := blk_frozen hz 0; have y1 := blk_frozen hz 1; have y2 := blk_frozen hz 2; have y3 := blk_frozen hz 3; clear hz; clear hM hR hK hd hO))
  (try clear t0 t1 t2 t3 y0 y1 y2 y3)
  have HB : Aside0 (B5 w g s (ii : Int) oo ee pp n q [.int .u8 q.f0, .string q.f1, .int .i64 q.f2, .slice A6 q.f3.length n6] ((((w7.setCell ⟨n, 0, none⟩ (.int .u8 q.f0)).setCell ⟨n, 1, none⟩ (.string q.f1)).setCell ⟨n, 2, none⟩ (.int .i64 q.f2)).setCell ⟨n, 3, none⟩ (.slice A6 q.f3.length n6))) := ⟨b5_store hgw HS3.out HLZ.out HZ7.out HM.out⟩
  (clear HZ7 HM HS3 HS2 HZ HWS)
  revert HB
  generalize ((((w7.setCell ⟨n, 0, none⟩ (.int .u8 q.f0)).setCell ⟨n, 1, none⟩ (.string q.f1)).setCell ⟨n, 2, none⟩ (.int .i64 q.f2)).setCell ⟨n, 3, none⟩ (.slice A6 q.f3.length n6)) = wx
  intro HB
  have hii : ii ≤ s.size + 39 - o ∧ ii ≤ 1100 := by
    rcases HD.out with ⟨o', rfl, _, _, _⟩ | ⟨pa, rfl, hc, hi, _⟩
    · obtain ⟨_, g2, _⟩ := orV_goes (lt s) mkQ (andV_goes (lt s) mkQ (notV_goes (lt s) mkQ lf leaf_nil f)) _ _ _ _ _ (by simpa using hb1) HE.out
      have : ii ≤ s.size := by simpa using g2
      omega
    · omega
  have hsk : skip (lt s) ii ≤ s.size ∨ skip (lt s) ii = ii := by
    rcases Nat.lt_or_ge s.size ii with h | h
    · right; exact skip_stop fun c hc => by rw [List.getElem?_eq_none (by simp; omega)] at hc; cases hc
    · left; simpa using skip_le (lt s) (i := ii) (by simpa using h)
  have hsk2 : skip (lt s) ii ≤ s.size + 39 - o ∧ skip (lt s) ii ≤ 1100 := by omega
  have hi1 : ∀ h : skip (lt s) ii < s.size, isB (lt s) (skip (lt s) ii) [41] = decide (s[skip (lt s) ii] = 41) := fun h => is_one h 41
  have hi0 : s.size ≤ skip (lt s) ii → isB (lt s) (skip (lt s) ii) [41] = false := fun h => is_none h 41
  have hMP : ∀ o', mapP (lt s) (.ok q ii o') = if isB (lt s) (skip (lt s) ii) [41] = true then .ok q (skip (lt s) ii + 1) (o' - 1) else .bad (skip (lt s) ii) 4 := fun o' => rfl
  clear hsk
  generalize hcc : skip (lt s) ii = cc at *
  have HCC := Aside0.mk hcc
  have HI1 := Aside0.mk hi1
  have HI0 := Aside0.mk hi0
  have HMP := Aside0.mk hMP
  clear hcc hi1 hi0 hMP
  go_upto_region 17 with (first
    | (go_at_call 21; refine (blank5 HB.out.st.rd (HT.out.kp HB.out.st.kp) hs (by omega)).mono ?_; rintro en w8 ⟨rfl, hR, hK⟩; rw [HCC.out] at hR; replace HB := Aside0.mk (HB.out.moved hgw hR hK); clear hR hK))
  obtain ⟨d0, d1, d2, d3, d4, f1, f2⟩ := HB.out.st.rd.cells
  have hwc : IntKind.i64.wrap ((cc : Int) + 1) = (cc : Int) + 1 := IntWalk.i64_in _ (by omega)
  have hcc0 : (0 : Int) ≤ (cc : Int) := by omega
  by_cases hcs : s.size ≤ cc
  · have hd3 : decide ((s.size : Int) ≤ (cc : Int)) = true := decide_eq_true (by omega)
    have hd4 : decide (s.size ≤ cc) = true := decide_eq_true hcs
    go_region
    all_goals
      replace HB := Aside0.mk HB.out.drew
      (clear d0 d1 d2 d3 d4 f1 f2)
      revert HB
      generalize World.drew _ = wd
      intro HB
      obtain ⟨d0, d1, d2, d3, d4, f1, f2⟩ := HB.out.st.rd.cells
      go_upto_region 19 with (first
        | (go_at_call 22; refine (fail5 HB.out.st.rd (HT.out.kp HB.out.st.kp) (cc : Int) 4).mono ?_; rintro en w9 ⟨rfl, hR, hK⟩; replace HB := Aside0.mk (HB.out.moved hgw hR hK); clear hR hK d0 d1 d2 d3 d4 f1 f2; obtain ⟨d0, d1, d2, d3, d4, f1, f2⟩ := HB.out.st.rd.cells))
      go_upto_region 22 with (fail)
      replace HB := Aside0.mk (HB.out.setI hgw ((cc : Int) + 1))
      (clear d0 d1 d2 d3 d4 f1 f2)
      revert HB
      generalize World.setCell _ ⟨g, 1, none⟩ (.int .i64 ((cc : Int) + 1)) = wu
      intro HB
      obtain ⟨d0, d1, d2, d3, d4, f1, f2⟩ := HB.out.st.rd.cells
      go_upto_region 23 with (fail)
      generalize hx2 : wrap64 (oo - 1) = x2
      have HX2 := Aside0.mk hx2
      replace HB := Aside0.mk (HB.out.setO hgw x2)
      (clear d0 d1 d2 d3 d4 f1 f2 hx2)
      revert HB
      generalize World.setCell _ ⟨g, 2, none⟩ (.int .i64 x2) = wv
      intro HB
      have t0 := blk_cell HB.out.qc 0
      have t1 := blk_cell HB.out.qc 1
      have t2 := blk_cell HB.out.qc 2
      have t3 := blk_cell HB.out.qc 3
      have HBK := Aside0.mk HB.out.st.blk
      have hr := HBK.out; have r0 := blk_cell hr 0; have r1 := blk_cell hr 1; have r2 := blk_cell hr 2; have r3 := blk_cell hr 3; have z0 := blk_frozen hr 0; have z1 := blk_frozen hr 1; have z2 := blk_frozen hr 2; have z3 := blk_frozen hr 3; clear hr
      go_wp2
      refine bodyPost_ret (results_cell_row rfl _ _ w.heap.size 25 #[.int .u8 q.f0, .string q.f1, .int .i64 q.f2, .slice A6 q.f3.length n6] (0, 0) _ rfl (blk_put (blk_put (blk_put (blk_put HBK.out 0 (.int .u8 q.f0) rfl) 1 (.string q.f1) rfl) 2 (.int .i64 q.f2) rfl) 3 (.slice A6 q.f3.length n6) rfl) hu25 rfl rfl) rfl ?_
      have hF := HB.out.st.fin (q := q) hgw HB.out.m (.int .u8 q.f0) (.string q.f1) (.int .i64 q.f2) (.slice A6 q.f3.length n6)
      rcases HD.out with ⟨o', rfl, rfl, rfl, rfl⟩ | ⟨pa, rfl, hc, hi, rfl⟩
      · obtain ⟨_, _, rfl⟩ := orV_goes (lt s) mkQ (andV_goes (lt s) mkQ (notV_goes (lt s) mkQ lf leaf_nil f)) _ _ _ _ _ (by simpa using hb1) HE.out
        rw [HMP.out, HI0.out hcs, if_neg (by simp)]
        rw [if_pos rfl, if_pos rfl] at hF
        exact ⟨⟨_, hF.1⟩, by decide, ⟨cc + 1, x2, by omega, by rw [show ((cc + 1 : Nat) : Int) = (cc : Int) + 1 from by omega]; exact hF.2.1⟩, hF.2.2⟩
      · exact ⟨⟨_, hF.1⟩, hc, ⟨cc + 1, x2, by omega, by have h := hF.2.1; rw [if_neg hc, if_neg hc, show (cc : Int) + 1 = ((cc + 1 : Nat) : Int) from by omega] at h; exact h⟩, hF.2.2⟩
  have hcl : cc < s.size := by omega
  have hcc1 : (cc : Int) < (s.size : Int) := by omega
  have hd3 : decide ((s.size : Int) ≤ (cc : Int)) = false := decide_eq_false (by omega)
  have hd4 : decide (s.size ≤ cc) = false := decide_eq_false hcs
  by_cases hc41 : s[cc] = 41
  · have q41 : ((s[cc].toNat : Int) == 41) = true := by rw [hc41]; rfl
    have q42 : ((s[cc].toNat : Int) != 41) = false := by rw [hc41]; rfl
    have n41 : s[cc].toNat = 41 := by rw [hc41]; rfl
    have HC41 := Aside0.mk hc41
    clear hc41
    go_region_held3 (fun W' => (W'.cell? ⟨g, 0, none⟩ = some (.string s) ∧ W'.cell? ⟨g, 1, none⟩ = some (.int .i64 (cc : Int))) ∧ Aside0 (B5 w g s (cc : Int) oo ee pp n q [.int .u8 q.f0, .string q.f1, .int .i64 q.f2, .slice A6 q.f3.length n6] W')) (exact ⟨⟨HB.out.st.rd.cells.1, HB.out.st.rd.cells.2.1⟩, ⟨by first | exact HB.out | exact HB.out.drew⟩⟩) (fail)
    replace HB := Aside0.mk HB.out.drew
    (clear d0 d1 d2 d3 d4 f1 f2)
    revert HB
    generalize World.drew _ = wd
    intro HB
    obtain ⟨d0, d1, d2, d3, d4, f1, f2⟩ := HB.out.st.rd.cells
    go_upto_region 22 with (fail)
    replace HB := Aside0.mk (HB.out.setI hgw ((cc : Int) + 1))
    (clear d0 d1 d2 d3 d4 f1 f2)
    revert HB
    generalize World.setCell _ ⟨g, 1, none⟩ (.int .i64 ((cc : Int) + 1)) = wu
    intro HB
    obtain ⟨d0, d1, d2, d3, d4, f1, f2⟩ := HB.out.st.rd.cells
    go_upto_region 23 with (fail)
    generalize hx2 : wrap64 (oo - 1) = x2
    have HX2 := Aside0.mk hx2
    replace HB := Aside0.mk (HB.out.setO hgw x2)
    (clear d0 d1 d2 d3 d4 f1 f2 hx2)
    revert HB
    generalize World.setCell _ ⟨g, 2, none⟩ (.int .i64 x2) = wv
    intro HB
    have t0 := blk_cell HB.out.qc 0
    have t1 := blk_cell HB.out.qc 1
    have t2 := blk_cell HB.out.qc 2
    have t3 := blk_cell HB.out.qc 3
    have HBK := Aside0.mk HB.out.st.blk
    have hr := HBK.out; have r0 := blk_cell hr 0; have r1 := blk_cell hr 1; have r2 := blk_cell hr 2; have r3 := blk_cell hr 3; have z0 := blk_frozen hr 0; have z1 := blk_frozen hr 1; have z2 := blk_frozen hr 2; have z3 := blk_frozen hr 3; clear hr
    go_wp2
    refine bodyPost_ret (results_cell_row rfl _ _ w.heap.size 25 #[.int .u8 q.f0, .string q.f1, .int .i64 q.f2, .slice A6 q.f3.length n6] (0, 0) _ rfl (blk_put (blk_put (blk_put (blk_put HBK.out 0 (.int .u8 q.f0) rfl) 1 (.string q.f1) rfl) 2 (.int .i64 q.f2) rfl) 3 (.slice A6 q.f3.length n6) rfl) hu25 rfl rfl) rfl ?_
    have hF := HB.out.st.fin (q := q) hgw HB.out.m (.int .u8 q.f0) (.string q.f1) (.int .i64 q.f2) (.slice A6 q.f3.length n6)
    have hc41 := HC41.out
    rcases HD.out with ⟨o', rfl, rfl, rfl, rfl⟩ | ⟨pa, rfl, hc, hi, rfl⟩
    · obtain ⟨_, _, rfl⟩ := orV_goes (lt s) mkQ (andV_goes (lt s) mkQ (notV_goes (lt s) mkQ lf leaf_nil f)) _ _ _ _ _ (by simpa using hb1) HE.out
      rw [HMP.out, HI1.out hcl, decide_eq_true hc41, if_pos rfl]
      have hx : x2 = ((o + 1 - 1 : Nat) : Int) := by rw [← HX2.out]; unfold wrap64; omega
      rw [hx, show (cc : Int) + 1 = ((cc + 1 : Nat) : Int) from by omega] at hF
      exact hF
    · exact ⟨⟨_, hF.1⟩, hc, ⟨cc + 1, x2, by omega, by have h := hF.2.1; rw [show (cc : Int) + 1 = ((cc + 1 : Nat) : Int) from by omega] at h; exact h⟩, hF.2.2⟩
  · have m41 : ¬ (s[cc].toNat : Int) = 41 := fun e => hc41 ((u8i s[cc] 41).1 e)
    have q41 : ((s[cc].toNat : Int) == 41) = false := by simpa using m41
    have q42 : ((s[cc].toNat : Int) != 41) = true := by simpa using m41
    have n41 : ¬ s[cc].toNat = 41 := by omega
    have HC41 := Aside0.mk hc41
    clear hc41
    go_region_held3 (fun W' => (W'.cell? ⟨g, 0, none⟩ = some (.string s) ∧ W'.cell? ⟨g, 1, none⟩ = some (.int .i64 (cc : Int))) ∧ Aside0 (B5 w g s (cc : Int) oo ee pp n q [.int .u8 q.f0, .string q.f1, .int .i64 q.f2, .slice A6 q.f3.length n6] W')) (exact ⟨⟨HB.out.st.rd.cells.1, HB.out.st.rd.cells.2.1⟩, ⟨by first | exact HB.out | exact HB.out.drew⟩⟩) (fail)
    replace HB := Aside0.mk HB.out.drew
    (clear d0 d1 d2 d3 d4 f1 f2)
    revert HB
    generalize World.drew _ = wd
    intro HB
    obtain ⟨d0, d1, d2, d3, d4, f1, f2⟩ := HB.out.st.rd.cells
    go_upto_region 19 with (first
      | (go_at_call 22; refine (fail5 HB.out.st.rd (HT.out.kp HB.out.st.kp) (cc : Int) 4).mono ?_; rintro en w9 ⟨rfl, hR, hK⟩; replace HB := Aside0.mk (HB.out.moved hgw hR hK); clear hR hK d0 d1 d2 d3 d4 f1 f2; obtain ⟨d0, d1, d2, d3, d4, f1, f2⟩ := HB.out.st.rd.cells))
    go_upto_region 22 with (fail)
    replace HB := Aside0.mk (HB.out.setI hgw ((cc : Int) + 1))
    (clear d0 d1 d2 d3 d4 f1 f2)
    revert HB
    generalize World.setCell _ ⟨g, 1, none⟩ (.int .i64 ((cc : Int) + 1)) = wu
    intro HB
    obtain ⟨d0, d1, d2, d3, d4, f1, f2⟩ := HB.out.st.rd.cells
    go_upto_region 23 with (fail)
    generalize hx2 : wrap64 (oo - 1) = x2
    have HX2 := Aside0.mk hx2
    replace HB := Aside0.mk (HB.out.setO hgw x2)
    (clear d0 d1 d2 d3 d4 f1 f2 hx2)
    revert HB
    generalize World.setCell _ ⟨g, 2, none⟩ (.int .i64 x2) = wv
    intro HB
    have t0 := blk_cell HB.out.qc 0
    have t1 := blk_cell HB.out.qc 1
    have t2 := blk_cell HB.out.qc 2
    have t3 := blk_cell HB.out.qc 3
    have HBK := Aside0.mk HB.out.st.blk
    have hr := HBK.out; have r0 := blk_cell hr 0; have r1 := blk_cell hr 1; have r2 := blk_cell hr 2; have r3 := blk_cell hr 3; have z0 := blk_frozen hr 0; have z1 := blk_frozen hr 1; have z2 := blk_frozen hr 2; have z3 := blk_frozen hr 3; clear hr
    go_wp2
    refine bodyPost_ret (results_cell_row rfl _ _ w.heap.size 25 #[.int .u8 q.f0, .string q.f1, .int .i64 q.f2, .slice A6 q.f3.length n6] (0, 0) _ rfl (blk_put (blk_put (blk_put (blk_put HBK.out 0 (.int .u8 q.f0) rfl) 1 (.string q.f1) rfl) 2 (.int .i64 q.f2) rfl) 3 (.slice A6 q.f3.length n6) rfl) hu25 rfl rfl) rfl ?_
    have hF := HB.out.st.fin (q := q) hgw HB.out.m (.int .u8 q.f0) (.string q.f1) (.int .i64 q.f2) (.slice A6 q.f3.length n6)
    have hc41 := HC41.out
    rcases HD.out with ⟨o', rfl, rfl, rfl, rfl⟩ | ⟨pa, rfl, hc, hi, rfl⟩
    · obtain ⟨_, _, rfl⟩ := orV_goes (lt s) mkQ (andV_goes (lt s) mkQ (notV_goes (lt s) mkQ lf leaf_nil f)) _ _ _ _ _ (by simpa using hb1) HE.out
      rw [HMP.out, HI1.out hcl, decide_eq_false hc41, if_neg (by simp)]
      rw [if_pos rfl, if_pos rfl] at hF
      exact ⟨⟨_, hF.1⟩, by decide, ⟨cc + 1, x2, by omega, by rw [show ((cc + 1 : Nat) : Int) = (cc : Int) + 1 from by omega]; exact hF.2.1⟩, hF.2.2⟩
    · exact ⟨⟨_, hF.1⟩, hc, ⟨cc + 1, x2, by omega, by have h := hF.2.1; rw [if_neg hc, if_neg hc, show (cc : Int) + 1 = ((cc + 1 : Nat) : Int) from by omega] at h; exact h⟩, hF.2.2⟩
end Go.Proofs.YtlmmbefejmbpeaaDoor.Ref
namespace Go.Proofs.YtlmmbefejmbpeaaDoor.Ref
open Go.RowKit Go.Shelf Go.Proofs.Qp Go.Proofs.YtlmmbefejmbpeaaDoorW.PrintWords Go.Proofs.YtlmmbefejmbpeaaDoorW.PrintLast Go.Proofs.YtlmmbefejmbpeaaDoorW.PrintMore Go.Proofs.YtlmmbefejmbpeaaDoor.PQry1 Go.Proofs.YtlmmbefejmbpeaaDoor Go.Proofs.YtlmmbefejmbpeaaDoor.PQry0 Go.Proofs.YtlmmbefejmbpeaaDoor.G Go.Proofs.YtlmmbefejmbpeaaDoor.M
set_option linter.unusedVariables false
set_option linter.unusedSimpArgs false
theorem not5_all {g : Nat} {s : ByteArray} (hs : s.size ≤ 1000) : ∀ f, Not5 g s f := by
  intro f
  induction f with
  | zero => intro w a o p h hT ha ho hf; omega
  | succ f ih =>
    have hO := or5 ih hs
    intro w a o p h hT ha ho hf
    obtain ⟨b, hb⟩ : ∃ b, skip (lt s) a = b := ⟨_, rfl⟩
    obtain ⟨X, hX⟩ : ∃ X : ByteArray, X = ⟨(wordAt (lt s) b).toArray⟩ := ⟨_, rfl⟩
    have hXk : X.toList = [78, 79, 84] ↔ (isB (lt s) b [78, 79, 84] = true ∧ endB (lt s) (b + 3) = true) := by
      rw [hX, ByteArray.toList_eq]
      exact word_key (l := lt s) (b := b) (p := [78, 79, 84]) (by decide)
    unfold notV
    rw [hb]
    by_cases hx : X.toList = [78, 79, 84]
    · have hk := hXk.1 hx
      have hle := isB_le (lt s) hk.1 (by simp)
      have hlt : b < s.size := by simp at hle; omega
      have hop : s[b] ≠ 40 := by
        intro e
        have h1 := hk.1
        unfold isB at h1
        rw [drop_cons s hlt] at h1
        simp only [List.isPrefixOf, Bool.and_eq_true, beq_iff_eq] at h1
        rw [e] at h1
        exact absurd h1.1 (by decide)
      rw [if_pos hk]
      by_cases h16 : 16 < o + 1
      · rw [if_pos h16]
        exact rnot_ndeep1 ih hO h hT hs ha ho (by omega) hb hX hx hlt hop h16
      · rw [if_neg h16]
        have := rnot_ncall ih hO h hT hs ha ho (by omega) hb hX hx hlt hop h16 rfl
        refine this.mono ?_
        intro e w' hh
        cases hr : notV (lt s) mkQ lf f (b + 3) (o + 1) with
        | ok q a' o' => rw [hr] at hh; exact hh
        | bad p e => rw [hr] at hh; exact hh
    · rw [if_neg (fun x => hx (hXk.2 x))]
      by_cases hop : ∃ h : b < s.size, s[b] = 40
      · obtain ⟨hlt, hop⟩ := hop
        rw [if_neg (by rw [is_one hlt 40, decide_eq_true hop]; simp)]
        by_cases h16 : 16 < o + 1
        · rw [if_pos h16]
          exact rnot_pdeep ih hO h hT hs ha ho (by omega) hb hX hx hlt hop h16
        · rw [if_neg h16]
          have := rnot_pcall ih hO h hT hs ha ho (by omega) hb hX hx hlt hop h16 rfl
          refine this.mono ?_
          intro e w' hh
          cases hr : orV (lt s) mkQ (andV (lt s) mkQ (notV (lt s) mkQ lf f)) (b + 1) (o + 1) with
          | ok q a' o' => rw [hr] at hh; exact hh
          | bad p e => rw [hr] at hh; exact hh
      · have hfin : isB (lt s) b [40] = false := by
          rcases Nat.lt_or_ge b s.size with h | h
          · rw [is_one h 40, decide_eq_false (fun e => hop ⟨h, e⟩)]
          · exact is_none h 40
        rw [if_pos hfin]
        have key : Calls Tryd.prog 41 #[rp g] w fun e w' => Out5 g s o p w w' e (wordR (lt s) b o) := by
          rcases Nat.lt_or_ge b s.size with hlt | hlt
          · exact rnot_leaf1 ih hO h hT hs ha ho (by omega) hb hX hx hlt (fun e => hop ⟨hlt, e⟩)
          · exact rnot_leaf0 ih hO h hT hs ha ho (by omega) hb hX hx hlt
        refine key.mono ?_
        intro e w' hh
        unfold wordR at hh
        cases hl : lf (wordAt (lt s) b) with
        | some q => rw [hl] at hh; exact hh
        | none => rw [hl] at hh; exact hh
theorem or5_all {g : Nat} {s : ByteArray} (hs : s.size ≤ 1000) (f : Nat) : Or5 g s f := or5 (not5_all hs f) hs
end Go.Proofs.YtlmmbefejmbpeaaDoor.Ref
namespace Go.Proofs.YtlmmbefejmbpeaaDoor.Ref
open Go.RowKit Go.Shelf Go.Proofs.Qp Go.Proofs.YtlmmbefejmbpeaaDoorW.PrintWords Go.Proofs.YtlmmbefejmbpeaaDoorW.PrintLast Go.Proofs.YtlmmbefejmbpeaaDoorW.PrintMore Go.Proofs.YtlmmbefejmbpeaaDoor.PQry1 Go.Proofs.YtlmmbefejmbpeaaDoor Go.Proofs.YtlmmbefejmbpeaaDoor.PQry0 Go.Proofs.YtlmmbefejmbpeaaDoor.G Go.Proofs.YtlmmbefejmbpeaaDoor.M
set_option linter.unusedVariables false
set_option linter.unusedSimpArgs false
/-- Parse's start: the result and the reader -/
def qw (w : World) (s : ByteArray) : World := (w.alloc (.cells Z4 25)).alloc (.cells #[.string s, .int .i64 0, .int .i64 0, .int .i64 0, .int .i64 0] 53)
theorem qw_below (w : World) (s : ByteArray) : Below w.heap.size w (qw w s) := below_up2 _ _
theorem qw_rd (w : World) (s : ByteArray) : R5 (qw w s) (w.heap.size + 1) s ((0 : Nat) : Int) ((0 : Nat) : Int) 0 0 := blk_up _ (by simp) (Below.refl _ _)
theorem qw_r (w : World) (s : ByteArray) : (qw w s).heap[w.heap.size]? = some (.cells Z4 25) := blk_up _ rfl (below_up _)
theorem qw_tt {w : World} (hT : G.tabs w) (s : ByteArray) : TT (w.heap.size + 1) (qw w s) := ⟨w, by omega, hT, qw_below w s⟩
theorem qw_size (w : World) (s : ByteArray) : (qw w s).heap.size = w.heap.size + 2 := by unfold qw; simp
/-- where Parse stands with what was read -/
structure P5 (w : World) (s : ByteArray) (i o e p : Int) (n : Nat) (q : S25) (cs : List Value) (w' : World) : Prop where
  rd : R5 w' (w.heap.size + 1) s i o e p
  b : Below w.heap.size w w'
  r : w'.heap[w.heap.size]? = some (.cells Z4 25)
  lt : w.heap.size + 1 < n
  qc : w'.heap[n]? = some (.cells cs.toArray 25)
  qm : k25.M w' w.heap.size (fun k => w.heap.size + 1 < k) q cs
section
variable {w : World} {s : ByteArray} {i o e p : Int} {n : Nat} {q : S25} {cs : List Value} {w' : World}
theorem P5.moved {w2 : World} {i' o' e' p' : Int} (h : P5 w s i o e p n q cs w') (hr : R5 w2 (w.heap.size + 1) s i' o' e' p') (hk : Kp (fun k => k = w.heap.size + 1) w' w2) : P5 w s i' o' e' p' n q cs w2 :=
  ⟨hr, below_kp h.b hk (by omega), (hk.block _ (blk_lt h.r) (by omega)).trans h.r, h.lt, (hk.block n (blk_lt h.qc) (by have := h.lt; omega)).trans h.qc, Kd.M_step h.qm (fun k hk2 hlt => hk.block k hlt (by omega))⟩
theorem P5.drew (h : P5 w s i o e p n q cs w') : P5 w s i o e p n q cs w'.drew := ⟨h.rd, ⟨h.b.os, h.b.tape, h.b.output, h.b.size, h.b.block⟩, h.r, h.lt, h.qc, by refine k25.M_move ?_ h.qm; intro k _; rfl⟩
theorem P5.tt (h : P5 w s i o e p n q cs w') (hT : G.tabs w) : TT (w.heap.size + 1) w' := ⟨w, by omega, hT, h.b⟩
end
theorem blk_put4 {W : World} {n : Nat} {u0 u1 u2 u3 : Value} (h : W.heap[n]? = some (.cells #[u0, u1, u2, u3] 25)) (v0 v1 v2 v3 : Value) :
    ((((W.setCell ⟨n, 0, none⟩ v0).setCell ⟨n, 1, none⟩ v1).setCell ⟨n, 2, none⟩ v2).setCell ⟨n, 3, none⟩ v3).heap[n]? = some (.cells #[v0, v1, v2, v3] 25) :=
  blk_put (blk_put (blk_put (blk_put h 0 v0 rfl) 1 v1 rfl) 2 v2 rfl) 3 v3 rfl
theorem below_set4 {w W : World} (h : Below w.heap.size w W) (v0 v1 v2 v3 : Value) : Below w.heap.size w ((((W.setCell ⟨w.heap.size, 0, none⟩ v0).setCell ⟨w.heap.size, 1, none⟩ v1).setCell ⟨w.heap.size, 2, none⟩ v2).setCell ⟨w.heap.size, 3, none⟩ v3) :=
  M.below_set (M.below_set (M.below_set (M.below_set h (p := ⟨w.heap.size, 0, none⟩) (by simp) v0) (p := ⟨w.heap.size, 1, none⟩) (by simp) v1) (p := ⟨w.heap.size, 2, none⟩) (by simp) v2) (p := ⟨w.heap.size, 3, none⟩) (by simp) v3
theorem fin_m {W : World} {n : Nat} {base : Nat} {q : S25} {cs : List Value} (h : k25.M W base (fun k => n + 1 < k) q cs) (v0 v1 v2 v3 : Value) :
    k25.M ((((W.setCell ⟨n, 0, none⟩ v0).setCell ⟨n, 1, none⟩ v1).setCell ⟨n, 2, none⟩ v2).setCell ⟨n, 3, none⟩ v3) base (fun k => n ≤ k) q cs := by
  have go : ∀ (W : World) (j : Nat) (v : Value), k25.M W base (fun k => n + 1 < k) q cs → k25.M (W.setCell ⟨n, j, none⟩ v) base (fun k => n + 1 < k) q cs :=
    fun W j v H => Kd.M_far H (p := ⟨n, j, none⟩) (fun k hk e => by simp at e; omega) v
  exact k25.M_mono (fun k hk => by omega) (go _ 3 _ (go _ 2 _ (go _ 1 _ (go _ 0 _ h))))
theorem fin_z (W : World) (n : Nat) : k25.M W n (fun k => n ≤ k) zq [.int .u8 0, .string ⟨#[]⟩, .int .i64 0, .slice none 0 0] := k25_mkM _ _ _ zq (Kd.R_nil _ _ _ _ _)
/-- the result: a cell of four, two numbers -/
theorem fin_results {tmps : Array Value} {W : World} {n : Nat} {v0 v1 v2 v3 p e : Value} (h : W.heap[n]? = some (.cells #[v0, v1, v2, v3] 25)) (h2 : tmps[2]?.getD undef = .pointer (some ⟨n, 0, none⟩)) (h3 : tmps[3]?.getD undef = p) (h4 : tmps[4]?.getD undef = e) :
    (results Tryd.f10 tmps).run Tryd.prog W = .ok (.tuple #[.agg #[v0, v1, v2, v3], p, e]) W := by
  have c0 := blk_cell h 0
  have c1 := blk_cell h 1
  have c2 := blk_cell h 2
  have c3 := blk_cell h 3
  have hu25 := Tryd.underlying25
  simp [results, Tryd.results10, go_sem, hu25, h2, h3, h4, c0, c1, c2, c3]
def resP (l : List UInt8) : Rs S25 → S25 × Nat × Int
  | .ok q a _ => if skip l a < l.length then (zq, skip l a, 4) else (q, 0, 0)
  | .bad p e => (zq, p, e)
set_option maxHeartbeats 4000000 in
set_option maxRecDepth 100000 in
theorem rparse_long {w : World} {s : ByteArray} (hs : 512 < s.size) :
    Calls Tryd.prog 10 #[.string s] w fun e w' => e = .returned (.tuple #[.agg #[.int .u8 0, .string ⟨#[]⟩, .int .i64 0, .slice none 0 0], .int .i64 0, .int .i64 2]) ∧ Below w.heap.size w w' := by
  have hs25 := Tryd.sizeOf25
  have hz25 := Tryd.zeroValue25
  have hu25 := Tryd.underlying25
  have h1 : (512 : Int) < (s.size : Int) := by omega
  go_enter Tryd.func10, Tryd.ntmps10
  go_wp2
  refine bodyPost_ret (v := .tuple #[.agg #[.int .u8 0, .string ⟨#[]⟩, .int .i64 0, .slice none 0 0], .int .i64 0, .int .i64 2]) ?_ rfl ?_
  · simp [results, Tryd.results10, go_sem, hu25]
  · exact ⟨rfl, below_up _⟩
set_option maxHeartbeats 4000000 in
set_option maxRecDepth 100000 in
theorem rparse_run {w : World} {s : ByteArray} (hT : G.tabs w) (hs : s.size ≤ 512) {r : Rs S25} (hE : orV (lt s) mkQ (andV (lt s) mkQ (notV (lt s) mkQ lf ((lt s).length + 1))) 0 0 = r) :
    Calls Tryd.prog 10 #[.string s] w fun e w' => (∃ cs : List Value, e = .returned (.tuple #[.agg cs.toArray, .int .i64 ((parseS s).2.1 : Int), .int .i64 (parseS s).2.2]) ∧ k25.M w' w.heap.size (fun k => w.heap.size ≤ k) (parseS s).1 cs) ∧ Below w.heap.size w w' := by
  have hs25 := Tryd.sizeOf25
  have hz25 := Tryd.zeroValue25
  have hu25 := Tryd.underlying25
  have h1 : ¬ (512 : Int) < (s.size : Int) := by omega
  have HC := Aside0.mk (or5_all (g := w.heap.size + 1) (s := s) (by omega) ((lt s).length + 1) (qw w s) 0 0 0 (qw_rd w s) (qw_tt hT s) (by omega) (by omega) (by simp))
  have HT := Aside0.mk hT
  have HE := Aside0.mk hE
  have hs2 : s.size ≤ 1000 := by omega
  have hP : parseS s = resP (lt s) r := by
    unfold parseS parseV
    rw [if_neg (by simp; omega), hE]
    cases r <;> rfl
  have HP := Aside0.mk hP
  clear hT hE hP
  go_enter Tryd.func10, Tryd.ntmps10
  go_upto_region 5 with (first
    | (go_at_call 20; refine HC.out.mono ?_; rintro e w7 hO; rw [HE.out] at hO; obtain ⟨q, cs, ii, oo, ee, pp, rfl, hM, hK, hR, hd⟩ := out5_st hO; obtain ⟨A6, n6, rfl⟩ := M_opened hM; have HQ : Aside0 (P5 w s (ii : Int) oo ee pp w7.heap.size q [.int .u8 q.f0, .string q.f1, .int .i64 q.f2, .slice A6 q.f3.length n6] (w7.alloc (.cells #[.int .u8 q.f0, .string q.f1, .int .i64 q.f2, .slice A6 q.f3.length n6] 25))) := ⟨⟨hR.old (below_up _), below_cat (below_kp (qw_below w s) hK (by omega)) (by have := hK.size; rw [qw_size] at this; omega) (below_up _), ((below_up (w := w7) _).block _ (by have := hK.size; rw [qw_size] at this; omega)).trans ((hK.block _ (by rw [qw_size]; omega) (by omega)).trans (qw_r w s)), by have := hK.size; rw [qw_size] at this; omega, M.blk_new _ _, Kd.M_alloc (k25.M_lower (by rw [qw_size]; omega) (k25.M_mono (fun k hk => by rw [qw_size] at hk; omega) hM)) _⟩⟩; have HD := Aside0.mk hd; clear hM hK hR hd hO))
  have hii : ii ≤ 1100 := by
    rcases HD.out with ⟨o', rfl, _, _, _⟩ | ⟨pa, rfl, hc, hi, _⟩
    · obtain ⟨_, g2, _⟩ := orV_goes (lt s) mkQ (andV_goes (lt s) mkQ (notV_goes (lt s) mkQ lf leaf_nil _)) _ _ _ _ _ (Nat.zero_le _) HE.out
      have : ii ≤ s.size := by simpa using g2
      omega
    · omega
  obtain ⟨cc, hcc⟩ : ∃ cc, skip (lt s) ii = cc := ⟨_, rfl⟩
  have HCC := Aside0.mk hcc
  clear hcc
  revert HQ
  generalize (w7.alloc (.cells #[.int .u8 q.f0, .string q.f1, .int .i64 q.f2, .slice A6 q.f3.length n6] 25)) = wx
  generalize w7.heap.size = n
  intro HQ
  go_upto_region 6 with (first
    | (go_at_call 21; refine (blank5 HQ.out.rd (HQ.out.tt HT.out) hs2 (by omega)).mono ?_; rintro en w8 ⟨rfl, hR, hK⟩; rw [HCC.out] at hR; replace HQ := Aside0.mk (HQ.out.moved hR hK); clear hR hK))
  obtain ⟨d0, d1, d2, d3, d4, f1, f2⟩ := HQ.out.rd.cells
  by_cases hlt : (cc : Int) < (s.size : Int)
  · have HF : Aside0 (∃ E2 P2 : Int, (if ee = 0 then (4 : Int) else ee) = E2 ∧ (if ee = 0 then (cc : Int) else pp) = P2 ∧ E2 ≠ 0 ∧ parseS s = (zq, P2.toNat, E2) ∧ 0 ≤ P2) := ⟨by
      rcases HD.out with ⟨o', hr, _, he, _⟩ | ⟨pa, hr, hc, hi, hp⟩
      · refine ⟨4, cc, by rw [if_pos he], by rw [if_pos he], by decide, ?_, by omega⟩
        rw [HP.out, hr]
        show (if skip (lt s) ii < (lt s).length then _ else _) = _
        rw [HCC.out, if_pos (by simp; omega)]
        rfl
      · refine ⟨ee, pp, by rw [if_neg hc], by rw [if_neg hc], hc, ?_, by omega⟩
        rw [HP.out, hr, hp]
        rfl⟩
    obtain ⟨E2, P2, hE2, hP2, hE0, hPS, hP0⟩ := HF.out
    have HE2 := Aside0.mk hE2
    have HP2 := Aside0.mk hP2
    have HPS := Aside0.mk hPS
    have hEb : (E2 != 0) = true := by simpa using hE0
    clear HF hE2 hP2 hPS
    go_upto_region 9 with (first
      | (go_at_call 22; refine (fail5 HQ.out.rd (HQ.out.tt HT.out) (cc : Int) 4).mono ?_; rintro en w9 ⟨rfl, hR, hK⟩; rw [HE2.out, HP2.out] at hR; replace HQ := Aside0.mk (HQ.out.moved hR hK); clear hR hK d0 d1 d2 d3 d4 f1 f2; obtain ⟨d0, d1, d2, d3, d4, f1, f2⟩ := HQ.out.rd.cells))
    have hr := HQ.out.r; have r0 := blk_cell hr 0; have r1 := blk_cell hr 1; have r2 := blk_cell hr 2; have r3 := blk_cell hr 3; have z0 := blk_frozen hr 0; have z1 := blk_frozen hr 1; have z2 := blk_frozen hr 2; have z3 := blk_frozen hr 3; clear hr
    go_region
    all_goals
      go_wp2
      refine bodyPost_ret (v := .tuple #[.agg #[.int .u8 0, .string ⟨#[]⟩, .int .i64 0, .slice none 0 0], .int .i64 (P2), .int .i64 (E2)]) (fin_results (blk_put4 HQ.out.r (.int .u8 0) (.string ⟨#[]⟩) (.int .i64 0) (.slice none 0 0)) rfl rfl rfl) rfl ?_
      have hB := below_set4 HQ.out.b (.int .u8 0) (.string ⟨#[]⟩) (.int .i64 0) (.slice none 0 0)
      rw [HPS.out]
      exact ⟨⟨_, by rw [show ((P2.toNat : Nat) : Int) = P2 from by omega], fin_z _ _⟩, ⟨hB.os, hB.tape, hB.output, hB.size, hB.block⟩⟩
  by_cases he0 : ee = 0
  · have HPS : Aside0 (parseS s = (q, 0, 0)) := ⟨by
      rcases HD.out with ⟨o', hr, _, he, _⟩ | ⟨pa, hr, hc, hi, hp⟩
      · rw [HP.out, hr]
        show (if skip (lt s) ii < (lt s).length then _ else _) = _
        rw [HCC.out, if_neg (by simp; omega)]
      · exact absurd he0 hc⟩
    subst he0
    have hq := HQ.out.qc
    have t0 := blk_cell hq 0
    have t1 := blk_cell hq 1
    have t2 := blk_cell hq 2
    have t3 := blk_cell hq 3
    clear hq
    have hr := HQ.out.r; have r0 := blk_cell hr 0; have r1 := blk_cell hr 1; have r2 := blk_cell hr 2; have r3 := blk_cell hr 3; have z0 := blk_frozen hr 0; have z1 := blk_frozen hr 1; have z2 := blk_frozen hr 2; have z3 := blk_frozen hr 3; clear hr
    go_wp2
    refine bodyPost_ret (v := .tuple #[.agg #[.int .u8 q.f0, .string q.f1, .int .i64 q.f2, .slice A6 q.f3.length n6], .int .i64 0, .int .i64 0]) (fin_results (blk_put4 HQ.out.r (.int .u8 q.f0) (.string q.f1) (.int .i64 q.f2) (.slice A6 q.f3.length n6)) rfl rfl rfl) rfl ?_
    have hB := below_set4 HQ.out.b (.int .u8 q.f0) (.string q.f1) (.int .i64 q.f2) (.slice A6 q.f3.length n6)
    rw [HPS.out]
    exact ⟨⟨_, rfl, fin_m HQ.out.qm _ _ _ _⟩, hB⟩
  · have HPS : Aside0 (parseS s = (zq, pp.toNat, ee) ∧ 0 ≤ pp) := ⟨by
      rcases HD.out with ⟨o', hr, _, he, _⟩ | ⟨pa, hr, hc, hi, hp⟩
      · exact absurd he he0
      · refine ⟨?_, by omega⟩
        rw [HP.out, hr, hp]
        rfl⟩
    have heb : (ee != 0) = true := by simpa using he0
    go_upto_region 9 with (fail)
    have hr := HQ.out.r; have r0 := blk_cell hr 0; have r1 := blk_cell hr 1; have r2 := blk_cell hr 2; have r3 := blk_cell hr 3; have z0 := blk_frozen hr 0; have z1 := blk_frozen hr 1; have z2 := blk_frozen hr 2; have z3 := blk_frozen hr 3; clear hr
    go_region
    all_goals
      go_wp2
      refine bodyPost_ret (v := .tuple #[.agg #[.int .u8 0, .string ⟨#[]⟩, .int .i64 0, .slice none 0 0], .int .i64 (pp), .int .i64 (ee)]) (fin_results (blk_put4 HQ.out.r (.int .u8 0) (.string ⟨#[]⟩) (.int .i64 0) (.slice none 0 0)) rfl rfl rfl) rfl ?_
      have hB := below_set4 HQ.out.b (.int .u8 0) (.string ⟨#[]⟩) (.int .i64 0) (.slice none 0 0)
      rw [HPS.out.1]
      exact ⟨⟨_, by rw [show ((pp.toNat : Nat) : Int) = pp from by have := HPS.out.2; omega], fin_z _ _⟩, ⟨hB.os, hB.tape, hB.output, hB.size, hB.block⟩⟩
/-- the reference's Parse answers as parseV -/
theorem rparse_any_ (s : ByteArray) (w : World) (hT : G.tabs w) :
    Calls Tryd.prog 10 #[.string s] w fun e w' => (∃ cs : List Value, e = .returned (.tuple #[.agg cs.toArray, .int .i64 ((parseS s).2.1 : Int), .int .i64 (parseS s).2.2]) ∧ k25.M w' w.heap.size (fun k => w.heap.size ≤ k) (parseS s).1 cs) ∧ Below w.heap.size w w' := by
  by_cases h : s.size ≤ 512
  · exact rparse_run hT h rfl
  · have hp : parseS s = (zq, 0, 2) := by
      unfold parseS parseV
      rw [if_pos (by simp; omega)]
    rw [hp]
    refine (rparse_long (by omega)).mono ?_
    rintro e w' ⟨rfl, hb⟩
    exact ⟨⟨_, rfl, fin_z _ _⟩, hb⟩
end Go.Proofs.YtlmmbefejmbpeaaDoor.Ref
