/- The reference's peers: New, Peers, Sure, Offer. -/
import Derived.Carry
import Derived.Test.YtfaipapaiobgcaaPrimX
namespace Go.Proofs.Ytfaipapaiobgcaa.M
open Go.RowKit Go.Maps Go.ChangeMaps Go.Proofs.YtfaipapaiobgcaaW.PrintWords Go.Proofs.YtfaipapaiobgcaaW.PrintLast Go.Proofs.YtfaipapaiobgcaaW.PrintMore Go.Proofs.Ytfaipapaiobgcaa.PPrimPlays
set_option linter.unusedVariables false
set_option linter.unusedSimpArgs false
def z6 : List Value := [.bool false, .bool false, .bool false, .bool false, .int .u64 0, .int .i64 0]
def z30 : Array Value := (z6 ++ z6 ++ z6 ++ z6 ++ z6).toArray
theorem make5 (w : World) : (Instr.makeSlice 46 (.int .i64 5) (.int .i64 5)).run Try.prog w = .ok (.slice (some ⟨w.heap.size, 0, none⟩) 5 5) (w.alloc (.cells z30 45)) := by kernel_rfl
theorem z30_at (n c : Nat) (hn : n < 5) (hc : c < 6) : z30[n * 6 + c]? = some (encC none c) := by
  have : n = 0 ∨ n = 1 ∨ n = 2 ∨ n = 3 ∨ n = 4 := by omega
  rcases this with rfl | rfl | rfl | rfl | rfl <;> rcases d6 hc with rfl | rfl | rfl | rfl | rfl | rfl <;> rfl
theorem xnew_any {w : World} (me rv : Int) {A : Option Addr} {c : Nat} {xs : List Int} (hC : Kd.C (Kd.int .i64) w A xs.length xs) (hc : xs.length ≤ c) (hA : ∀ ad, A = some ad → 0 < xs.length → ad.block < w.heap.size) (hl : xs.length ≤ 140737488351232) :
    Calls Try.prog 18 #[.int .i64 me, .int .u64 rv, .slice A xs.length c] w fun e w' => ∃ X Y, e = .returned (pt X) ∧ w.heap.size ≤ X ∧ w.heap.size ≤ Y ∧ XA w' X Y me rv (upTo 5 (tabX me rv xs f0) f0) ∧ Below w.heap.size w w' := by
  have hms := make5
  have hX : XA ((w.alloc (.cells z30 45)).alloc (.cells #[.int .i64 me, .int .u64 rv, .slice (some ⟨w.heap.size, 0, none⟩) 5 5, .bool false] 48)) (w.heap.size + 1) w.heap.size me rv f0 := by
    refine ⟨?_, z30, (Below.heap_alloc _ _ _ (by simp)).trans (heap_alloc_new w _), rfl, fun n hn c hc => z30_at n c hn hc⟩
    have := heap_alloc_new (w.alloc (.cells z30 45)) (.cells #[.int .i64 me, .int .u64 rv, .slice (some ⟨w.heap.size, 0, none⟩) 5 5, .bool false] 48)
    simpa using this
  have hB : Below w.heap.size w ((w.alloc (.cells z30 45)).alloc (.cells #[.int .i64 me, .int .u64 rv, .slice (some ⟨w.heap.size, 0, none⟩) 5 5, .bool false] 48)) := ((Below.refl _ _).alloc (Nat.le_refl _) _).alloc (by simp) _
  have hT := xtable_any hX (xs := xs) (A := A) (c := c) ⟨Kd.C_below hC hB, hc, fun ad e h0 h => by have := hA ad e h0; omega, hl⟩ rv (Int.le_refl _)
  have HT := Aside0.mk hT
  have HB := Aside0.mk hB
  clear hT hB hX hC hA
  generalize z30 = Z at *
  go_enter Try.func18, Try.ntmps18
  go_wp2_with fail
  refine HT.out.mono ?_
  rintro e w2 ⟨rfl, hX2, hK⟩
  have HX2 := Aside0.mk hX2
  have HK := Aside0.mk hK
  clear hX2 hK
  go_wp2
  go_ret
  exact ⟨_, _, rfl, by omega, Nat.le_refl _, HX2.out, HB.out.trans (HK.out.below (fun k hk h => by omega) (by simp; omega))⟩
def pickB (needs : Bool) (o : Option Pe) : Bool := match o with | some p => !needs || p.i || p.o | none => false
def pkF (f : PF) (needs : Bool) : List Int := nodes.filter fun k => pickB needs (f k)
theorem nodes_take (n : Nat) (h : n < 5) : nodes.take (n + 1) = nodes.take n ++ [(n : Int)] := by
  have : n = 0 ∨ n = 1 ∨ n = 2 ∨ n = 3 ∨ n = 4 := by omega
  rcases this with rfl | rfl | rfl | rfl | rfl <;> rfl
theorem nodes_step (p : Int → Bool) (n : Nat) (h : n < 5) : (nodes.take (n + 1)).filter p = (nodes.take n).filter p ++ if p n then [(n : Int)] else [] := by
  rw [nodes_take n h, List.filter_append, List.filter_cons]; simp
set_option maxHeartbeats 8000000 in
theorem xpeers_any {w : World} {X Y : Nat} {me rv : Int} {f : PF} (h : XA w X Y me rv f) (needs : Bool) :
    Calls Try.prog 21 #[pt X, .bool needs] w fun e w' => ∃ v, e = .returned v ∧ Kd.R (Kd.int .i64) 3 w' w.heap.size (fun k => w.heap.size ≤ k) v (pkF f needs) ∧ Below w.heap.size w w' := by
  have HX := Aside0.mk h
  clear h
  go_enter Try.func21, Try.ntmps21
  go_wp2
  go_loopw [5, 6] (fun v i wq => ∃ (n : Nat) (out : List Int), i = .int .i64 n ∧ n ≤ 5 ∧ Aside0 (Kd.R (Kd.int .i64) 3 wq w.heap.size (fun k => w.heap.size ≤ k) v out) ∧ Aside0 (out = (nodes.take n).filter fun k => pickB needs (f k)) ∧ Aside0 (Below w.heap.size w wq)) (fun _ i _ => 5 - (intOf i).toNat)
  case atStart => exact ⟨0, [], rfl, by omega, ⟨Kd.R_nil _ _ _ _ _⟩, ⟨rfl⟩, ⟨Below.refl _ _⟩⟩
  case round =>
    obtain ⟨n, out, rfl, hn, HO, HE, HB⟩ := hrel
    have hXq : XA wr X Y me rv f := HX.out.below HB.out
    have c2 : wr.cell? ⟨X, 2, none⟩ = some (.slice (some ⟨Y, 0, none⟩) 5 5) := blk_cell hXq.hd 2
    by_cases hlt : n < 5
    · have hcells := fun c hc => (hXq.cell n c hlt hc).1
      have HS := Aside0.mk (nodes_step (fun k => pickB needs (f k)) n hlt)
      have x0 := hcells 0 (by omega)
      have x1 := hcells 1 (by omega)
      have x2 := hcells 2 (by omega)
      have x3 := hcells 3 (by omega)
      have x4 := hcells 4 (by omega)
      have x5 := hcells 5 (by omega)
      have hol : out.length ≤ 5 := by
        rw [HE.out]
        have h1 := List.length_filter_le (fun k => pickB needs (f k)) (nodes.take n)
        have h3 := List.length_take (i := n) (l := nodes)
        omega
      clear hcells hXq
      cases hfn : f (n : Int) with
      | none =>
        rw [hfn] at x0 x1 x2 x3 x4 x5
        have HFN := Aside0.mk hfn
        clear hfn
        simp [encC] at x0 x1 x2 x3 x4 x5
        go_wp2
        go_roundw
        case rel =>
          refine ⟨n + 1, out, by go_num, by omega, ⟨Kd.R_alloc HO.out _⟩, ⟨?_⟩, ⟨HB.out.alloc HB.out.size _⟩⟩
          rw [HS.out, HFN.out, HE.out]; simp [pickB]
        case measure => simp [intOf]; omega
      | some p =>
        rw [hfn] at x0 x1 x2 x3 x4 x5
        have HFN := Aside0.mk hfn
        clear hfn
        simp [encC] at x0 x1 x2 x3 x4 x5
        have hbs := HB.out.size
        cases hi : p.i <;> cases ho : p.o <;> cases needs
        all_goals
          rw [hi] at x1
          rw [ho] at x2
          have HHI := Aside0.mk hi
          have HHO := Aside0.mk ho
          clear hi ho
          go_wp2_with (first | ((with_reducible refine gate_builtin (b := .append) (xs := #[.tmp 38, .tmp 40]) rfl ?_); at_builtin; refine Kd.R_append (Kd.int .i64) w.heap.size rfl (.tmp 38) (.tmp 40) 24 3 (.int .i64 0) 8 rfl Try.underlying24 info3 rfl (by decide) (by omega) _ out (n : Int) [.int .i64 (n : Int)] (fun k => w.heap.size ≤ k) (fun _ => False) rfl (by first | (go_simp; done) | (go_simp; rfl)) rfl (fun _ hk => hk.elim) (fun k hk => by simp at hk; omega) (Kd.R_alloc HO.out _) (HB.out.alloc HB.out.size _) (by simp; omega) (by omega) ?_; intro v1 w2 ho hb hg hat; have HA2 := Aside0.mk ho; have HB2 := Aside0.mk hb; clear ho hb hg hat))
          go_roundw
          case rel =>
            first
              | exact ⟨n + 1, _, by go_num, by omega, HA2, ⟨by rw [HS.out, HFN.out, HE.out]; simp [pickB, HHI.out, HHO.out]⟩, HB2⟩
              | exact ⟨n + 1, out, by go_num, by omega, ⟨Kd.R_alloc HO.out _⟩, ⟨by rw [HS.out, HFN.out, HE.out]; simp [pickB, HHI.out, HHO.out]⟩, ⟨HB.out.alloc HB.out.size _⟩⟩
          case measure => simp [intOf]; omega
    · have h5 : n = 5 := by omega
      subst h5
      go_wp2
      go_ret
      exact ⟨_, rfl, by rw [show pkF f needs = out from HE.out.symm]; exact HO.out, HB.out⟩
end Go.Proofs.Ytfaipapaiobgcaa.M
