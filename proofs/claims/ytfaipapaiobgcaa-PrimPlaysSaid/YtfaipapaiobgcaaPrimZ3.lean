/- The reference's peers: Offer. -/
import Derived.Test.YtfaipapaiobgcaaPrimZ2
namespace Go.Proofs.Ytfaipapaiobgcaa.M
open Go.RowKit Go.Maps Go.ChangeMaps Go.Proofs.YtfaipapaiobgcaaW.PrintWords Go.Proofs.YtfaipapaiobgcaaW.PrintLast Go.Proofs.YtfaipapaiobgcaaW.PrintMore Go.Proofs.Ytfaipapaiobgcaa.PPrimPlays
set_option linter.unusedVariables false
set_option linter.unusedSimpArgs false
theorem ks_off (f : PF) (len : Int) : (ksF f).filter (offK f len) = nodes.filter (offK f len) := by
  unfold ksF
  rw [List.filter_filter]
  apply List.filter_congr
  intro k _
  unfold offK
  cases f k <;> simp
set_option maxHeartbeats 8000000 in
theorem xoffer_any {w : World} {X Y : Nat} {me rv : Int} {f : PF} (h : XA w X Y me rv f) (len : Int) :
    Calls Try.prog 29 #[pt X, .int .i64 len] w fun e w' => ∃ v, e = .returned v ∧ Kd.R (Kd.int .i64) 3 w' w.heap.size (fun k => w.heap.size ≤ k) v (nodes.filter (offK f len)) ∧ XA w' X Y me rv (upTo 5 (offF rv len f) f) ∧ KX X Y w w' := by
  have HX := Aside0.mk h
  have hXl : X < w.heap.size := blk_lt h.hd
  have hYl : Y < w.heap.size := by obtain ⟨_, h, _⟩ := h.bl; exact blk_lt h
  clear h
  go_enter Try.func29, Try.ntmps29
  go_wp2
  go_loopw [5, 6] (fun v i wq => ∃ (n : Nat) (out : List Int), i = .int .i64 n ∧ n ≤ 5 ∧ Aside0 (Kd.R (Kd.int .i64) 3 wq w.heap.size (fun k => w.heap.size ≤ k) v out) ∧ Aside0 (out = (nodes.take n).filter (offK f len)) ∧ Aside0 (XA wq X Y me rv (upTo n (offF rv len f) f)) ∧ Aside0 (KX X Y w wq)) (fun _ i _ => 5 - (intOf i).toNat)
  case atStart => exact ⟨0, [], rfl, by omega, ⟨Kd.R_nil _ _ _ _ _⟩, ⟨rfl⟩, ⟨by rw [upTo_0]; exact HX.out⟩, ⟨Kp.refl _ _⟩⟩
  case round =>
    obtain ⟨n, out, rfl, hn, HO, HE, HXq, HK⟩ := hrel
    have c1 : wr.cell? ⟨X, 1, none⟩ = some (.int .u64 rv) := blk_cell HXq.out.hd 1
    have c2 : wr.cell? ⟨X, 2, none⟩ = some (.slice (some ⟨Y, 0, none⟩) 5 5) := blk_cell HXq.out.hd 2
    have hsz : w.heap.size ≤ wr.heap.size := HK.out.size
    by_cases hlt : n < 5
    · have hcells := fun c hc => HXq.out.cell n c hlt hc
      rw [upTo_at] at hcells
      have HS := Aside0.mk (nodes_step (offK f len) n hlt)
      have x0 := (hcells 0 (by omega)).1
      have x1 := (hcells 1 (by omega)).1
      have x2 := (hcells 2 (by omega)).1
      have x3 := (hcells 3 (by omega)).1
      have x4 := (hcells 4 (by omega)).1
      have x5 := (hcells 5 (by omega)).1
      have y2 := (hcells 2 (by omega)).2
      have y4 := (hcells 4 (by omega)).2
      have hol : out.length ≤ 5 := by
        rw [HE.out]
        have h1 := List.length_filter_le (offK f len) (nodes.take n)
        have h3 := List.length_take (i := n) (l := nodes)
        omega
      clear hcells
      cases hfn : f (n : Int) with
      | none =>
        rw [hfn] at x0 x1 x2 x3 x4 x5
        have HFN := Aside0.mk hfn
        clear hfn
        simp [encC] at x0 x1 x2 x3 x4 x5
        go_wp2
        go_roundw
        case rel =>
          refine ⟨n + 1, out, by go_num, by omega, HO, ⟨?_⟩, ⟨?_⟩, HK⟩
          · rw [HS.out, HE.out]; simp [offK, HFN.out]
          · rw [upTo_skip (show offF rv len f (n : Int) = f n by unfold offF; rw [HFN.out]; rfl)]; exact HXq.out
        case measure => simp [intOf]; omega
      | some p =>
        rw [hfn] at x0 x1 x2 x3 x4 x5
        have HFN := Aside0.mk hfn
        clear hfn
        simp [encC] at x0 x1 x2 x3 x4 x5
        have HOB : Aside0 (offK f len (n : Int) = offB len p) := ⟨by unfold offK; rw [HFN.out]⟩
        have HF0 : Aside0 (upTo n (offF rv len f) f (n : Int) = some p) := ⟨(upTo_at n _ f).trans HFN.out⟩
        have HSTS : Aside0 (offB len p = false → XA wr X Y me rv (upTo (n + 1) (offF rv len f) f)) := ⟨fun hno => by
          rw [upTo_skip (show offF rv len f (n : Int) = f n by unfold offF; rw [HFN.out]; show some (offP rv len p) = _; unfold offP; rw [hno]; rfl)]; exact HXq.out⟩
        have HPY : Aside0 (offB len p = true → XA ((wr.setCell ⟨Y, n * 6 + 2, none⟩ (.bool true)).setCell ⟨Y, n * 6 + 4, none⟩ (.int .u64 rv)) X Y me rv (upTo (n + 1) (offF rv len f) f)) := ⟨fun hyes => by
          rw [upTo_succ, show offF rv len f (n : Int) = some { p with o := true, t := rv } by unfold offF; rw [HFN.out]; show some (offP rv len p) = _; unfold offP; rw [hyes]; rfl]
          have q := (HXq.out.set2 hlt HF0.out true).set4 hlt (setO_same _ _ _) rv
          rw [setO_twice] at q
          exact q⟩
        have HKY : Aside0 (KX X Y w ((wr.setCell ⟨Y, n * 6 + 2, none⟩ (.bool true)).setCell ⟨Y, n * 6 + 4, none⟩ (.int .u64 rv))) := ⟨KX.put (KX.put HK.out _ _) _ _⟩
        have HR1 : Aside0 (Kd.R (Kd.int .i64) 3 ((wr.setCell ⟨Y, n * 6 + 2, none⟩ (.bool true)).setCell ⟨Y, n * 6 + 4, none⟩ (.int .u64 rv)) w.heap.size (fun k => w.heap.size ≤ k) u5 out) :=
          ⟨Kd.R_far (p := ⟨Y, n * 6 + 4, none⟩) (Kd.R_far (p := ⟨Y, n * 6 + 2, none⟩) HO.out (fun k hk => by show k ≠ Y; omega) (.bool true)) (fun k hk => by show k ≠ Y; omega) (.int .u64 rv)⟩
        cases hi : p.i <;> cases ho : p.o <;> cases ha : p.a <;> cases hh : decide (len ≤ p.h)
        all_goals
          have hob2 := offB_eq len p hi ho ha hh
          simp only [Bool.not_true, Bool.not_false, Bool.true_and, Bool.false_and, Bool.and_false, Bool.and_true, Bool.or_true, Bool.true_or, Bool.or_false, Bool.false_or] at hob2
          have HO2 := Aside0.mk hob2
          rw [hi] at x1
          rw [ho] at x2
          rw [ha] at x3
          clear hi ho ha hob2
          go_wp2_with (first | ((with_reducible refine gate_builtin (b := .append) (xs := #[.tmp 64, .tmp 66]) rfl ?_); at_builtin; refine Kd.R_append (Kd.int .i64) w.heap.size rfl (.tmp 64) (.tmp 66) 24 3 (.int .i64 0) 8 rfl Try.underlying24 info3 rfl (by decide) (by omega) _ out (n : Int) [.int .i64 (n : Int)] (fun k => w.heap.size ≤ k) (fun _ => False) rfl (by first | (go_simp; done) | (go_simp; rfl)) rfl (fun _ hk => hk.elim) (fun k hk => by simp at hk; omega) HR1.out (Below.refl _ _) (by simp; omega) (by omega) ?_; intro v1 w2 ho hb hg hat; have HA2 := Aside0.mk ho; have HB2 := Aside0.mk hb; clear ho hb hg hat))
          go_roundw
          case rel =>
            first
              | exact ⟨n + 1, _, by go_num, by omega, HA2, ⟨by rw [HS.out, HOB.out, HO2.out, HE.out]; rfl⟩, ⟨(HPY.out HO2.out).old (fun k hk he => HB2.out.block k (by rcases he with rfl | rfl <;> omega))⟩, ⟨HKY.out.belowB HB2.out⟩⟩
              | exact ⟨n + 1, out, by go_num, by omega, HO, ⟨by rw [HS.out, HOB.out, HO2.out, HE.out]; simp⟩, ⟨HSTS.out HO2.out⟩, HK⟩
          case measure => simp [intOf]; omega
    · have h5 : n = 5 := by omega
      subst h5
      go_wp2
      go_ret
      exact ⟨_, rfl, by rw [show nodes.filter (offK f len) = out from HE.out.symm]; exact HO.out, HXq.out, HK.out⟩
end Go.Proofs.Ytfaipapaiobgcaa.M
