/- Parse answers as parseV. -/
import Derived.Test.YtlmmbefejmbpeaaDoorQryS4
import Derived.Tactics
import Derived.Tactics2
import Derived.Defers
import Derived.Recover
import Derived.Laws.Pointers
namespace Go.Proofs.YtlmmbefejmbpeaaDoor.M
open Go.RowKit Go.Shelf Go.Proofs.Qp Go.Proofs.YtlmmbefejmbpeaaDoorW.PrintWords Go.Proofs.YtlmmbefejmbpeaaDoorW.PrintLast Go.Proofs.YtlmmbefejmbpeaaDoorW.PrintMore Go.Proofs.YtlmmbefejmbpeaaDoor.PQry0 Go.Proofs.YtlmmbefejmbpeaaDoor.G
set_option linter.unusedVariables false
set_option linter.unusedSimpArgs false
theorem assert44 (v : Value) (W : World) : (Instr.typeAssert (.iface 44 v) 20 44 true).run Tryd.prog W = .ok (.tuple #[v, .bool true]) W := by kernel_rfl
theorem catch_idle (p q r : Addr) (w : World) :
    CallsD Tryd.prog 16 #[.pointer (some p), .pointer (some q), .pointer (some r)] .returning w fun e u' w' => e = .returned (.tuple #[]) ∧ u' = .returning ∧ w' = w := by
  refine callsD_of_wpS Tryd.func16 rfl fun c₀ cs hu => ?_
  apply wpS_seq
  apply wpS_region
  simp [wpOpsS, go_sem, recoverD, hu, Tryd.ntmps16, Exit.thenS, Array.replicate]
  refine wpS_of_wp ?_
  go_wp2
  cases c₀
  simp_all [bodyPostS, results, Tryd.results16]
/-- what the closure sets: a query, a place, an error -/
def caught (w : World) (n : Nat) (a c : Int) : World :=
  ((((((w.setCell ⟨n, 0, none⟩ (.int .u8 0)).setCell ⟨n, 1, none⟩ (.string ⟨#[]⟩)).setCell ⟨n, 2, none⟩ (.int .i64 0)).setCell ⟨n, 3, none⟩ (.slice none 0 0)).setCell ⟨n + 1, 0, none⟩ (.int .i64 a)).setCell ⟨n + 2, 0, none⟩ (.int .i64 c))
set_option maxHeartbeats 4000000 in
set_option maxRecDepth 100000 in
theorem catch_fault (n a : Nat) (c : Int) (older : List PanicEntry) (w : World) {u0 u1 u2 u3 v1 v2 : Value} (hq : w.heap[n]? = some (.cells #[u0, u1, u2, u3] 25)) (ha : w.heap[n + 1]? = some (.cells #[v1] 3)) (he : w.heap[n + 2]? = some (.cells #[v2] 26)) :
    CallsD Tryd.prog 16 #[.pointer (some ⟨n, 0, none⟩), .pointer (some ⟨n + 1, 0, none⟩), .pointer (some ⟨n + 2, 0, none⟩)] (.panicking ({ v := .iface 44 (.agg #[.int .i64 (a : Int), .int .i64 c]), recovered := false } :: older)) w fun e u' w' =>
      e = .returned (.tuple #[]) ∧ u' = .panicking ({ v := .iface 44 (.agg #[.int .i64 (a : Int), .int .i64 c]), recovered := true } :: older) ∧ w' = (caught (w.alloc (.cells #[.int .i64 (a : Int), .int .i64 c] 44)) n a c).drew := by
  have hta := assert44
  have hn : n < w.heap.size := blk_lt hq
  have hn1 : n + 1 < w.heap.size := blk_lt ha
  have hn2 : n + 2 < w.heap.size := blk_lt he
  have hb := Below.alloc (Below.refl w.heap.size w) (Nat.le_refl _) (.cells #[.int .i64 (a : Int), .int .i64 c] 44)
  have HQ := Aside0.mk ((hb.block _ hn).trans hq)
  have HA := Aside0.mk ((hb.block _ hn1).trans ha)
  have HE := Aside0.mk ((hb.block _ hn2).trans he)
  have HF := Aside0.mk (blk_new w (.cells #[.int .i64 (a : Int), .int .i64 c] 44))
  have hm0 : w.heap.size ≠ n := by omega
  have hm1 : w.heap.size ≠ n + 1 := by omega
  have hm2 : w.heap.size ≠ n + 2 := by omega
  clear hq ha he hb hn hn1 hn2
  have hs25 := Tryd.sizeOf25
  have hz25 := Tryd.zeroValue25
  refine callsD_of_wpS Tryd.func16 rfl fun c₀ cs hu => ?_
  apply wpS_seq
  apply wpS_region
  simp [wpOpsS, go_sem, recoverD, hu, Tryd.ntmps16, Exit.thenS, Array.replicate]
  refine wpS_of_wp ?_
  go_wp2
  generalize hW : w.alloc (.cells #[.int .i64 (a : Int), .int .i64 c] 44) = W1 at *
  generalize hm : w.heap.size = m at *
  have HW := Aside0.mk hW
  clear hW
  have HM := Aside0.mk hm
  clear hm
  have q0 := blk_cell HQ.out 0
  have q1 := blk_cell HQ.out 1
  have q2 := blk_cell HQ.out 2
  have q3 := blk_cell HQ.out 3
  have z0 := blk_frozen HQ.out 0
  have z1 := blk_frozen HQ.out 1
  have z2 := blk_frozen HQ.out 2
  have z3 := blk_frozen HQ.out 3
  have p0 := blk_cell HA.out 0
  have y0 := blk_frozen HA.out 0
  have r0 := blk_cell HE.out 0
  have x0 := blk_frozen HE.out 0
  have f0 := blk_cell HF.out 0
  have f1 := blk_cell HF.out 1
  go_region
  have hW := HW.out
  subst hW
  clear HW
  change bodyPostS Tryd.prog Tryd.f16 c₀ cs _ Exit.normal _ _ _
  cases c₀
  simp [bodyPostS, results, Tryd.results16, caught]
end Go.Proofs.YtlmmbefejmbpeaaDoor.M
namespace Go.Proofs.YtlmmbefejmbpeaaDoor.M
open Go.RowKit Go.Shelf Go.Proofs.Qp Go.Proofs.YtlmmbefejmbpeaaDoorW.PrintWords Go.Proofs.YtlmmbefejmbpeaaDoorW.PrintLast Go.Proofs.YtlmmbefejmbpeaaDoorW.PrintMore Go.Proofs.YtlmmbefejmbpeaaDoor.PQry0 Go.Proofs.YtlmmbefejmbpeaaDoor.G
set_option linter.unusedVariables false
set_option linter.unusedSimpArgs false
/-- Parse's start: q, at, e and the reader -/
def pw (w : World) (s : ByteArray) : World := (((w.alloc (.cells Z4 25)).alloc (.cells #[.int .i64 0] 3)).alloc (.cells #[.int .i64 0] 26)).alloc (.cells #[.string s, .int .i64 0, .int .i64 0] 48)
theorem below_up {w : World} (o : Obj) : Below w.heap.size w (w.alloc o) := Below.alloc (Below.refl w.heap.size w) (Nat.le_refl _) o
theorem below_cat {n : Nat} {a b c : World} (h : Below n a b) (hn : n ≤ b.heap.size) (k : Below b.heap.size b c) : Below n a c :=
  ⟨k.os.trans h.os, k.tape.trans h.tape, k.output.trans h.output, Nat.le_trans h.size k.size, fun i hi => (k.block i (Nat.lt_of_lt_of_le hi hn)).trans (h.block i hi)⟩
theorem below_up2 {w : World} (o o2 : Obj) : Below w.heap.size w ((w.alloc o).alloc o2) := below_cat (below_up o) (by simp) (below_up o2)
theorem below_up3 {w : World} (o o2 o3 : Obj) : Below w.heap.size w (((w.alloc o).alloc o2).alloc o3) := below_cat (below_up2 o o2) (by simp; omega) (below_up o3)
theorem pw_below (w : World) (s : ByteArray) : Below w.heap.size w (pw w s) := below_cat (below_up3 _ _ _) (by simp; omega) (below_up _)
theorem blk_up {w w2 : World} {n : Nat} (o : Obj) (hn : w.heap.size = n) (h : Below (w.alloc o).heap.size (w.alloc o) w2) : w2.heap[n]? = some o := by
  subst hn
  exact (h.block _ (by simp)).trans (blk_new w o)
theorem pw_rd (w : World) (s : ByteArray) : RdAt (pw w s) (w.heap.size + 3) s 0 0 := blk_up _ (by simp) (Below.refl _ _)
theorem pw_q (w : World) (s : ByteArray) : (pw w s).heap[w.heap.size]? = some (.cells Z4 25) := blk_up _ rfl (below_up3 _ _ _)
theorem pw_at (w : World) (s : ByteArray) : (pw w s).heap[w.heap.size + 1]? = some (.cells #[.int .i64 0] 3) := blk_up _ (by simp) (below_up2 _ _)
theorem pw_e (w : World) (s : ByteArray) : (pw w s).heap[w.heap.size + 2]? = some (.cells #[.int .i64 0] 26) := blk_up _ (by simp) (below_up _)
theorem pw_tt {w : World} (hT : G.tabs w) (s : ByteArray) : TT (w.heap.size + 3) (pw w s) := ⟨w, by omega, hT, pw_below w s⟩
/-- where Parse stands: the variables q, at, e (at, e are 0 yet) and what is kept -/
structure Pst (w : World) (s : ByteArray) (a : Nat) (cs : Array Value) (w' : World) : Prop where
  rd : RdAt w' (w.heap.size + 3) s a 0
  b : Below w.heap.size w w'
  q : w'.heap[w.heap.size]? = some (.cells cs 25)
  p : w'.heap[w.heap.size + 1]? = some (.cells #[.int .i64 0] 3)
  e : w'.heap[w.heap.size + 2]? = some (.cells #[.int .i64 0] 26)
theorem pst_start (w : World) (s : ByteArray) : Pst w s 0 Z4 (pw w s) := ⟨pw_rd w s, pw_below w s, pw_q w s, pw_at w s, pw_e w s⟩
theorem below_kp {w w' w2 : World} {g : Nat} (h : Below w.heap.size w w') (k : Kp (fun k => k = g) w' w2) (hg : w.heap.size ≤ g) : Below w.heap.size w w2 :=
  ⟨k.os.trans h.os, k.tape.trans h.tape, k.output.trans h.output, Nat.le_trans h.size k.size, fun i hi => (k.block i (Nat.lt_of_lt_of_le hi h.size) (by omega)).trans (h.block i hi)⟩
theorem Pst.moved {w : World} {s : ByteArray} {a : Nat} {cs : Array Value} {w' w2 : World} (h : Pst w s a cs w') {a' : Nat} (hr : RdAt w2 (w.heap.size + 3) s a' 0) (hk : Kp (fun k => k = w.heap.size + 3) w' w2) : Pst w s a' cs w2 :=
  ⟨hr, below_kp h.b hk (by omega), (hk.block _ (blk_lt h.q) (by omega)).trans h.q, (hk.block _ (blk_lt h.p) (by omega)).trans h.p, (hk.block _ (blk_lt h.e) (by omega)).trans h.e⟩
theorem below_set {w w' : World} (h : Below w.heap.size w w') {p : Addr} (hp : w.heap.size ≤ p.block) (v : Value) : Below w.heap.size w (w'.setCell p v) :=
  ⟨h.os, h.tape, h.output, Nat.le_trans h.size (by simp), fun i hi => (Below.heap_setCell w' p v i (by omega)).trans (h.block i hi)⟩
/-- behind a fault: the closure has set all three -/
structure Fst (w : World) (a : Nat) (c : Int) (w' : World) : Prop where
  b : Below w.heap.size w w'
  q : w'.heap[w.heap.size]? = some (.cells #[.int .u8 0, .string ⟨#[]⟩, .int .i64 0, .slice none 0 0] 25)
  p : w'.heap[w.heap.size + 1]? = some (.cells #[.int .i64 (a : Int)] 3)
  e : w'.heap[w.heap.size + 2]? = some (.cells #[.int .i64 c] 26)
theorem blk_other {w : World} {n : Nat} {o : Obj} (h : w.heap[n]? = some o) {p : Addr} (hp : p.block ≠ n) (v : Value) : (w.setCell p v).heap[n]? = some o :=
  (Below.heap_setCell w p v n hp.symm).trans h
theorem fst_caught {w w' : World} {u0 u1 u2 u3 v1 v2 : Value} (h : Below w.heap.size w w') (hq : w'.heap[w.heap.size]? = some (.cells #[u0, u1, u2, u3] 25)) (ha : w'.heap[w.heap.size + 1]? = some (.cells #[v1] 3)) (he : w'.heap[w.heap.size + 2]? = some (.cells #[v2] 26)) (a : Nat) (c : Int) (ob : Obj) :
    Fst w a c (caught (w'.alloc ob) w.heap.size a c).drew := by
  have hb := below_up (w := w') ob
  have q0 := (hb.block _ (blk_lt hq)).trans hq
  have p0 := (hb.block _ (blk_lt ha)).trans ha
  have e0 := (hb.block _ (blk_lt he)).trans he
  have b0 : Below w.heap.size w (w'.alloc ob) := h.alloc h.size ob
  unfold caught
  generalize w'.alloc ob = W0 at *
  clear h hq ha he hb
  have b1 := below_set b0 (p := ⟨w.heap.size, 0, none⟩) (by simp) (.int .u8 0)
  have q1 : (W0.setCell ⟨w.heap.size, 0, none⟩ (.int .u8 0)).heap[w.heap.size]? = some (.cells #[.int .u8 0, u1, u2, u3] 25) := blk_put q0 0 _ rfl
  have p1 := blk_other p0 (p := ⟨w.heap.size, 0, none⟩) (by simp) (.int .u8 0)
  have e1 := blk_other e0 (p := ⟨w.heap.size, 0, none⟩) (by simp) (.int .u8 0)
  generalize W0.setCell ⟨w.heap.size, 0, none⟩ (.int .u8 0) = W1 at *
  clear b0 q0 p0 e0
  have b2 := below_set b1 (p := ⟨w.heap.size, 1, none⟩) (by simp) (.string ⟨#[]⟩)
  have q2 : (W1.setCell ⟨w.heap.size, 1, none⟩ (.string ⟨#[]⟩)).heap[w.heap.size]? = some (.cells #[.int .u8 0, .string ⟨#[]⟩, u2, u3] 25) := blk_put q1 1 _ rfl
  have p2 := blk_other p1 (p := ⟨w.heap.size, 1, none⟩) (by simp) (.string ⟨#[]⟩)
  have e2 := blk_other e1 (p := ⟨w.heap.size, 1, none⟩) (by simp) (.string ⟨#[]⟩)
  generalize W1.setCell ⟨w.heap.size, 1, none⟩ (.string ⟨#[]⟩) = W2 at *
  clear b1 q1 p1 e1
  have b3 := below_set b2 (p := ⟨w.heap.size, 2, none⟩) (by simp) (.int .i64 0)
  have q3 : (W2.setCell ⟨w.heap.size, 2, none⟩ (.int .i64 0)).heap[w.heap.size]? = some (.cells #[.int .u8 0, .string ⟨#[]⟩, .int .i64 0, u3] 25) := blk_put q2 2 _ rfl
  have p3 := blk_other p2 (p := ⟨w.heap.size, 2, none⟩) (by simp) (.int .i64 0)
  have e3 := blk_other e2 (p := ⟨w.heap.size, 2, none⟩) (by simp) (.int .i64 0)
  generalize W2.setCell ⟨w.heap.size, 2, none⟩ (.int .i64 0) = W3 at *
  clear b2 q2 p2 e2
  have b4 := below_set b3 (p := ⟨w.heap.size, 3, none⟩) (by simp) (.slice none 0 0)
  have q4 : (W3.setCell ⟨w.heap.size, 3, none⟩ (.slice none 0 0)).heap[w.heap.size]? = some (.cells #[.int .u8 0, .string ⟨#[]⟩, .int .i64 0, .slice none 0 0] 25) := blk_put q3 3 _ rfl
  have p4 := blk_other p3 (p := ⟨w.heap.size, 3, none⟩) (by simp) (.slice none 0 0)
  have e4 := blk_other e3 (p := ⟨w.heap.size, 3, none⟩) (by simp) (.slice none 0 0)
  generalize W3.setCell ⟨w.heap.size, 3, none⟩ (.slice none 0 0) = W4 at *
  clear b3 q3 p3 e3
  have b5 := below_set b4 (p := ⟨w.heap.size + 1, 0, none⟩) (by simp) (.int .i64 (a : Int))
  have q5 := blk_other q4 (p := ⟨w.heap.size + 1, 0, none⟩) (by simp) (.int .i64 (a : Int))
  have p5 : (W4.setCell ⟨w.heap.size + 1, 0, none⟩ (.int .i64 (a : Int))).heap[w.heap.size + 1]? = some (.cells #[.int .i64 (a : Int)] 3) := blk_put p4 0 _ rfl
  have e5 := blk_other e4 (p := ⟨w.heap.size + 1, 0, none⟩) (by simp) (.int .i64 (a : Int))
  generalize W4.setCell ⟨w.heap.size + 1, 0, none⟩ (.int .i64 (a : Int)) = W5 at *
  clear b4 q4 p4 e4
  have b6 := below_set b5 (p := ⟨w.heap.size + 2, 0, none⟩) (by simp) (.int .i64 c)
  have q6 := blk_other q5 (p := ⟨w.heap.size + 2, 0, none⟩) (by simp) (.int .i64 c)
  have p6 := blk_other p5 (p := ⟨w.heap.size + 2, 0, none⟩) (by simp) (.int .i64 c)
  have e6 : (W5.setCell ⟨w.heap.size + 2, 0, none⟩ (.int .i64 c)).heap[w.heap.size + 2]? = some (.cells #[.int .i64 c] 26) := blk_put e5 0 _ rfl
  generalize W5.setCell ⟨w.heap.size + 2, 0, none⟩ (.int .i64 c) = W6 at *
  clear b5 q5 p5 e5
  exact ⟨⟨b6.os, b6.tape, b6.output, b6.size, b6.block⟩, q6, p6, e6⟩
set_option maxHeartbeats 4000000 in
set_option maxRecDepth 100000 in
theorem parse_long {w : World} {s : ByteArray} (hs : 512 < s.size) :
    Calls Tryd.prog 9 #[.string s] w fun e w' => e = .returned (.tuple #[.agg #[.int .u8 0, .string ⟨#[]⟩, .int .i64 0, .slice none 0 0], .int .i64 0, .int .i64 2]) ∧ Below w.heap.size w w' := by
  have hs25 := Tryd.sizeOf25
  have hz25 := Tryd.zeroValue25
  have hu25 := Tryd.underlying25
  have h1 : (512 : Int) < (s.size : Int) := by omega
  have hmf : ∀ (fn : Fn) (first cap : Array Value) (w : World), (Instr.makeFunc fn first cap).run Tryd.prog w = .ok (.func fn first cap) w := fun _ _ _ _ => rfl
  go_enter_defers Tryd.func9, Tryd.ntmps9
  go_wp2
  simp [bodyPostD, Leaves, settle, results, Tryd.results9, go_sem, hu25]
  exact below_up3 _ _ _
set_option maxHeartbeats 4000000 in
set_option maxRecDepth 100000 in
theorem parse_bad {w : World} {s : ByteArray} (hT : G.tabs w) (hs : s.size ≤ 512) {f : Nat} (hf : s.size < f) {p : Nat} {c : Int} (hE : orV (lt s) mkQ (andV (lt s) mkQ (notV (lt s) mkQ lf f)) 0 0 = .bad p c) :
    Calls Tryd.prog 9 #[.string s] w fun e w' => e = .returned (.tuple #[.agg #[.int .u8 0, .string ⟨#[]⟩, .int .i64 0, .slice none 0 0], .int .i64 (p : Int), .int .i64 c]) ∧ Below w.heap.size w w' := by
  have hs25 := Tryd.sizeOf25
  have hz25 := Tryd.zeroValue25
  have hu25 := Tryd.underlying25
  have h1 : ¬ (512 : Int) < (s.size : Int) := by omega
  have HC := Aside0.mk (or_all (g := w.heap.size + 3) (s := s) (by omega) f (pw w s) 0 0 (pw_rd w s) (pw_tt hT s) (by omega) (by omega) (by omega))
  rw [hE] at HC
  have hmf : ∀ (fn : Fn) (first cap : Array Value) (w : World), (Instr.makeFunc fn first cap).run Tryd.prog w = .ok (.func fn first cap) w := fun _ _ _ _ => rfl
  clear hT hE
  go_enter_defers Tryd.func9, Tryd.ntmps9
  go_wp2_with (first
    | (go_at_call 17; refine HC.out.mono ?_; rintro e w7 ⟨rfl, hk⟩))
  have hb := below_kp (pw_below w s) hk (by omega)
  have hq := (hk.block _ (blk_lt (pw_q w s)) (by omega)).trans (pw_q w s)
  have hp := (hk.block _ (blk_lt (pw_at w s)) (by omega)).trans (pw_at w s)
  have he := (hk.block _ (blk_lt (pw_e w s)) (by omega)).trans (pw_e w s)
  clear hk hmf HC
  refine leaves_cons (f := 16) (args := #[.pointer (some ⟨w.heap.size, 0, none⟩), .pointer (some ⟨w.heap.size + 1, 0, none⟩), .pointer (some ⟨w.heap.size + 2, 0, none⟩)]) (by simp) (by simp [go_sem]) ?_
  refine (catch_fault w.heap.size p c [] w7 hq hp he).mono ?_
  rintro e u' w'' ⟨rfl, rfl, rfl⟩
  have HF := Aside0.mk (fst_caught hb hq hp he p c (.cells #[.int .i64 (p : Int), .int .i64 c] 44))
  have q0 := blk_cell HF.out.q 0
  have q1 := blk_cell HF.out.q 1
  have q2 := blk_cell HF.out.q 2
  have q3 := blk_cell HF.out.q 3
  have p0 := blk_cell HF.out.p 0
  have e0 := blk_cell HF.out.e 0
  generalize (caught (w7.alloc (.cells #[.int .i64 (p : Int), .int .i64 c] 44)) w.heap.size p c).drew = W at *
  clear hb hq hp he
  simp [Leaves, settle, results, Tryd.results9, go_sem, hu25, q0, q1, q2, q3, p0, e0]
  exact HF.out.b
end Go.Proofs.YtlmmbefejmbpeaaDoor.M
namespace Go.Proofs.YtlmmbefejmbpeaaDoor.M
open Go.RowKit Go.Shelf Go.Proofs.Qp Go.Proofs.YtlmmbefejmbpeaaDoorW.PrintWords Go.Proofs.YtlmmbefejmbpeaaDoorW.PrintLast Go.Proofs.YtlmmbefejmbpeaaDoorW.PrintMore Go.Proofs.YtlmmbefejmbpeaaDoor.PQry0 Go.Proofs.YtlmmbefejmbpeaaDoor.G
set_option linter.unusedVariables false
set_option linter.unusedSimpArgs false
/-- where Parse stands with a query read -/
structure Qst (w : World) (s : ByteArray) (a : Nat) (q : S25) (cs : List Value) (w' : World) : Prop where
  st : Pst w s a cs.toArray w'
  m : k25.M w' w.heap.size (fun k => w.heap.size + 3 < k) q cs
theorem Qst.moved {w : World} {s : ByteArray} {a : Nat} {q : S25} {cs : List Value} {w' w2 : World} (h : Qst w s a q cs w') {a' : Nat} (hr : RdAt w2 (w.heap.size + 3) s a' 0) (hk : Kp (fun k => k = w.heap.size + 3) w' w2) : Qst w s a' q cs w2 :=
  ⟨h.st.moved hr hk, Kd.M_step h.m (fun k hk2 hlt => hk.block k hlt (by omega))⟩
theorem Pst.setQ {w : World} {s : ByteArray} {a : Nat} {u0 u1 u2 u3 : Value} {w' : World} (h : Pst w s a #[u0, u1, u2, u3] w') (v0 v1 v2 v3 : Value) :
    Pst w s a #[v0, v1, v2, v3] ((((w'.setCell ⟨w.heap.size, 0, none⟩ v0).setCell ⟨w.heap.size, 1, none⟩ v1).setCell ⟨w.heap.size, 2, none⟩ v2).setCell ⟨w.heap.size, 3, none⟩ v3) := by
  have go : ∀ (W : World) (c : Array Value) (j : Nat) (v : Value) (c' : Array Value), Pst w s a c W → c.setIfInBounds j v = c' → Pst w s a c' (W.setCell ⟨w.heap.size, j, none⟩ v) := by
    intro W c j v c' H e
    exact ⟨H.rd.far (p := ⟨w.heap.size, j, none⟩) (by simp) v, below_set H.b (p := ⟨w.heap.size, j, none⟩) (by simp) v, blk_put H.q j v e, blk_other H.p (p := ⟨w.heap.size, j, none⟩) (by simp) v, blk_other H.e (p := ⟨w.heap.size, j, none⟩) (by simp) v⟩
  exact go _ _ 3 v3 _ (go _ _ 2 v2 _ (go _ _ 1 v1 _ (go _ _ 0 v0 _ h rfl) rfl) rfl) rfl
theorem M_setQ {w W : World} {n : Nat} {base : Nat} {q : S25} {cs : List Value} (h : k25.M W base (fun k => n + 3 < k) q cs) (v0 v1 v2 v3 : Value) :
    k25.M ((((W.setCell ⟨n, 0, none⟩ v0).setCell ⟨n, 1, none⟩ v1).setCell ⟨n, 2, none⟩ v2).setCell ⟨n, 3, none⟩ v3) base (fun k => n + 3 < k) q cs := by
  have go : ∀ (W : World) (j : Nat) (v : Value), k25.M W base (fun k => n + 3 < k) q cs → k25.M (W.setCell ⟨n, j, none⟩ v) base (fun k => n + 3 < k) q cs :=
    fun W j v H => Kd.M_far H (p := ⟨n, j, none⟩) (fun k hk e => by simp at e; omega) v
  exact go _ 3 _ (go _ 2 _ (go _ 1 _ (go _ 0 _ h)))
theorem Qst.fin {w : World} {s : ByteArray} {a : Nat} {q : S25} {u0 u1 u2 u3 : Value} {w' : World} (h : Qst w s a q [u0, u1, u2, u3] w') :
    Qst w s a q [u0, u1, u2, u3] ((((((w'.setCell ⟨w.heap.size, 0, none⟩ u0).setCell ⟨w.heap.size, 1, none⟩ u1).setCell ⟨w.heap.size, 2, none⟩ u2).setCell ⟨w.heap.size, 3, none⟩ u3).setCell ⟨w.heap.size + 1, 0, none⟩ (.int .i64 0)).setCell ⟨w.heap.size + 2, 0, none⟩ (.int .i64 0)) := by
  have h1 := h.st.setQ u0 u1 u2 u3
  have m1 := M_setQ (w := w) h.m u0 u1 u2 u3
  generalize ((((w'.setCell ⟨w.heap.size, 0, none⟩ u0).setCell ⟨w.heap.size, 1, none⟩ u1).setCell ⟨w.heap.size, 2, none⟩ u2).setCell ⟨w.heap.size, 3, none⟩ u3) = W at *
  have h2 : Pst w s a #[u0, u1, u2, u3] (W.setCell ⟨w.heap.size + 1, 0, none⟩ (.int .i64 0)) :=
    ⟨h1.rd.far (p := ⟨w.heap.size + 1, 0, none⟩) (by simp) _, below_set h1.b (p := ⟨w.heap.size + 1, 0, none⟩) (by simp) _, blk_other h1.q (p := ⟨w.heap.size + 1, 0, none⟩) (by simp) _, blk_put h1.p 0 _ rfl, blk_other h1.e (p := ⟨w.heap.size + 1, 0, none⟩) (by simp) _⟩
  have m2 := Kd.M_far m1 (p := ⟨w.heap.size + 1, 0, none⟩) (fun k hk e => by simp at e; omega) (.int .i64 0)
  generalize W.setCell ⟨w.heap.size + 1, 0, none⟩ (.int .i64 0) = W2 at *
  exact ⟨⟨h2.rd.far (p := ⟨w.heap.size + 2, 0, none⟩) (by simp) _, below_set h2.b (p := ⟨w.heap.size + 2, 0, none⟩) (by simp) _, blk_other h2.q (p := ⟨w.heap.size + 2, 0, none⟩) (by simp) _, blk_other h2.p (p := ⟨w.heap.size + 2, 0, none⟩) (by simp) _, blk_put h2.e 0 _ rfl⟩, Kd.M_far m2 (p := ⟨w.heap.size + 2, 0, none⟩) (fun k hk e => by simp at e; omega) _⟩
theorem pw_size (w : World) (s : ByteArray) : (pw w s).heap.size = w.heap.size + 4 := by unfold pw; simp
set_option maxHeartbeats 4000000 in
set_option maxRecDepth 100000 in
theorem parse_rest {w : World} {s : ByteArray} (hT : G.tabs w) (hs : s.size ≤ 512) {f : Nat} (hf : s.size < f) {q : S25} {a1 : Nat} (hE : orV (lt s) mkQ (andV (lt s) mkQ (notV (lt s) mkQ lf f)) 0 0 = .ok q a1 0) (ha1 : a1 ≤ s.size) (hr1 : skip (lt s) a1 < s.size) :
    Calls Tryd.prog 9 #[.string s] w fun e w' => e = .returned (.tuple #[.agg #[.int .u8 0, .string ⟨#[]⟩, .int .i64 0, .slice none 0 0], .int .i64 (skip (lt s) a1 : Int), .int .i64 4]) ∧ Below w.heap.size w w' := by
  have hs25 := Tryd.sizeOf25
  have hz25 := Tryd.zeroValue25
  have hu25 := Tryd.underlying25
  have h1 : ¬ (512 : Int) < (s.size : Int) := by omega
  have HC := Aside0.mk (or_all (g := w.heap.size + 3) (s := s) (by omega) f (pw w s) 0 0 (pw_rd w s) (pw_tt hT s) (by omega) (by omega) (by omega))
  rw [hE] at HC
  generalize hp0 : skip (lt s) a1 = p at *
  have HP0 := Aside0.mk hp0
  have hmf : ∀ (fn : Fn) (first cap : Array Value) (w : World), (Instr.makeFunc fn first cap).run Tryd.prog w = .ok (.func fn first cap) w := fun _ _ _ _ => rfl
  have hs2 : s.size ≤ 1000 := by omega
  clear hT hE hp0
  go_enter_defers Tryd.func9, Tryd.ntmps9
  go_upto_region 6 with (first
    | (go_at_call 17; refine HC.out.mono ?_; rintro e w7 ⟨⟨cs, rfl, hM⟩, hr, hk⟩; obtain ⟨A6, n6, rfl⟩ := M_opened hM; have HS := Aside0.mk ((pst_start w s).moved hr hk); have HM := Aside0.mk (k25.M_lower (base' := w.heap.size) (by rw [pw_size]; omega) (k25.M_mono (ok' := fun k => w.heap.size + 3 < k) (fun k hk => by rw [pw_size] at hk; omega) hM)); clear hM hr hk; have hq := HS.out.q; have r0 := blk_cell hq 0; have r1 := blk_cell hq 1; have r2 := blk_cell hq 2; have r3 := blk_cell hq 3; have z0 := blk_frozen hq 0; have z1 := blk_frozen hq 1; have z2 := blk_frozen hq 2; have z3 := blk_frozen hq 3; clear hq))
  have HQ : Aside0 (Qst w s a1 q [.int .u8 q.f0, .string q.f1, .int .i64 q.f2, .slice A6 q.f3.length n6] ((((w7.setCell ⟨w.heap.size, 0, none⟩ (.int .u8 q.f0)).setCell ⟨w.heap.size, 1, none⟩ (.string q.f1)).setCell ⟨w.heap.size, 2, none⟩ (.int .i64 q.f2)).setCell ⟨w.heap.size, 3, none⟩ (.slice A6 q.f3.length n6))) := ⟨⟨HS.out.setQ _ _ _ _, M_setQ (w := w) HM.out _ _ _ _⟩⟩
  clear HS HM HC r0 r1 r2 r3 z0 z1 z2 z3
  generalize ((((w7.setCell ⟨w.heap.size, 0, none⟩ (.int .u8 q.f0)).setCell ⟨w.heap.size, 1, none⟩ (.string q.f1)).setCell ⟨w.heap.size, 2, none⟩ (.int .i64 q.f2)).setCell ⟨w.heap.size, 3, none⟩ (.slice A6 q.f3.length n6)) = W8 at HQ ⊢
  clear w7
  have hlt : (p : Int) < (s.size : Int) := by omega
  go_wp2_with (first
    | (go_at_call 18; refine (skip_any HQ.out.st.rd hs2 ha1).mono ?_; rintro e w8 ⟨rfl, hR, hK⟩; rw [HP0.out] at hR; replace HQ := Aside0.mk (HQ.out.moved hR hK); clear hR hK; obtain ⟨d0, d1, d2, k1, k2⟩ := HQ.out.st.rd.cells)
    | (go_at_call 19; refine (give_any p 4 _).mono ?_; rintro e w7 ⟨rfl, rfl⟩))
  have hb := HQ.out.st.b
  have hq := HQ.out.st.q
  have hp := HQ.out.st.p
  have he := HQ.out.st.e
  clear hmf d0 d1 d2 k1 k2
  refine leaves_cons (f := 16) (args := #[.pointer (some ⟨w.heap.size, 0, none⟩), .pointer (some ⟨w.heap.size + 1, 0, none⟩), .pointer (some ⟨w.heap.size + 2, 0, none⟩)]) (by simp) (by simp [go_sem]) ?_
  refine (catch_fault w.heap.size p 4 [] w7 hq hp he).mono ?_
  rintro e u' w'' ⟨rfl, rfl, rfl⟩
  have HF := Aside0.mk (fst_caught hb hq hp he p 4 (.cells #[.int .i64 (p : Int), .int .i64 4] 44))
  have q0 := blk_cell HF.out.q 0
  have q1 := blk_cell HF.out.q 1
  have q2 := blk_cell HF.out.q 2
  have q3 := blk_cell HF.out.q 3
  have p0 := blk_cell HF.out.p 0
  have e0 := blk_cell HF.out.e 0
  generalize (caught (w7.alloc (.cells #[.int .i64 (p : Int), .int .i64 4] 44)) w.heap.size p 4).drew = W at *
  clear hb hq hp he
  simp [Leaves, settle, results, Tryd.results9, go_sem, hu25, q0, q1, q2, q3, p0, e0]
  exact HF.out.b
set_option maxHeartbeats 4000000 in
set_option maxRecDepth 100000 in
theorem parse_fine {w : World} {s : ByteArray} (hT : G.tabs w) (hs : s.size ≤ 512) {f : Nat} (hf : s.size < f) {q : S25} {a1 : Nat} (hE : orV (lt s) mkQ (andV (lt s) mkQ (notV (lt s) mkQ lf f)) 0 0 = .ok q a1 0) (ha1 : a1 ≤ s.size) (hr1 : ¬ skip (lt s) a1 < s.size) :
    Calls Tryd.prog 9 #[.string s] w fun e w' => (∃ cs : List Value, e = .returned (.tuple #[.agg cs.toArray, .int .i64 0, .int .i64 0]) ∧ k25.M w' w.heap.size (fun k => w.heap.size ≤ k) q cs) ∧ Below w.heap.size w w' := by
  have hs25 := Tryd.sizeOf25
  have hz25 := Tryd.zeroValue25
  have hu25 := Tryd.underlying25
  have h1 : ¬ (512 : Int) < (s.size : Int) := by omega
  have HC := Aside0.mk (or_all (g := w.heap.size + 3) (s := s) (by omega) f (pw w s) 0 0 (pw_rd w s) (pw_tt hT s) (by omega) (by omega) (by omega))
  rw [hE] at HC
  generalize hp0 : skip (lt s) a1 = p at *
  have HP0 := Aside0.mk hp0
  have hmf : ∀ (fn : Fn) (first cap : Array Value) (w : World), (Instr.makeFunc fn first cap).run Tryd.prog w = .ok (.func fn first cap) w := fun _ _ _ _ => rfl
  have hs2 : s.size ≤ 1000 := by omega
  clear hT hE hp0
  go_enter_defers Tryd.func9, Tryd.ntmps9
  go_upto_region 6 with (first
    | (go_at_call 17; refine HC.out.mono ?_; rintro e w7 ⟨⟨cs, rfl, hM⟩, hr, hk⟩; obtain ⟨A6, n6, rfl⟩ := M_opened hM; have HS := Aside0.mk ((pst_start w s).moved hr hk); have HM := Aside0.mk (k25.M_lower (base' := w.heap.size) (by rw [pw_size]; omega) (k25.M_mono (ok' := fun k => w.heap.size + 3 < k) (fun k hk => by rw [pw_size] at hk; omega) hM)); clear hM hr hk; have hq := HS.out.q; have r0 := blk_cell hq 0; have r1 := blk_cell hq 1; have r2 := blk_cell hq 2; have r3 := blk_cell hq 3; have z0 := blk_frozen hq 0; have z1 := blk_frozen hq 1; have z2 := blk_frozen hq 2; have z3 := blk_frozen hq 3; clear hq))
  have HQ : Aside0 (Qst w s a1 q [.int .u8 q.f0, .string q.f1, .int .i64 q.f2, .slice A6 q.f3.length n6] ((((w7.setCell ⟨w.heap.size, 0, none⟩ (.int .u8 q.f0)).setCell ⟨w.heap.size, 1, none⟩ (.string q.f1)).setCell ⟨w.heap.size, 2, none⟩ (.int .i64 q.f2)).setCell ⟨w.heap.size, 3, none⟩ (.slice A6 q.f3.length n6))) := ⟨⟨HS.out.setQ _ _ _ _, M_setQ (w := w) HM.out _ _ _ _⟩⟩
  clear HS HM HC r0 r1 r2 r3 z0 z1 z2 z3
  generalize ((((w7.setCell ⟨w.heap.size, 0, none⟩ (.int .u8 q.f0)).setCell ⟨w.heap.size, 1, none⟩ (.string q.f1)).setCell ⟨w.heap.size, 2, none⟩ (.int .i64 q.f2)).setCell ⟨w.heap.size, 3, none⟩ (.slice A6 q.f3.length n6)) = W8 at HQ ⊢
  clear w7
  have hlt : ¬ (p : Int) < (s.size : Int) := by omega
  go_upto_region 9 with (first
    | (go_at_call 18; refine (skip_any HQ.out.st.rd hs2 ha1).mono ?_; rintro e w8 ⟨rfl, hR, hK⟩; rw [HP0.out] at hR; replace HQ := Aside0.mk (HQ.out.moved hR hK); clear hR hK; obtain ⟨d0, d1, d2, k1, k2⟩ := HQ.out.st.rd.cells))
  clear d0 d1 d2 k1 k2 hlt HP0 hr1 ha1 hf
  have hq := HQ.out.st.q
  have hp := HQ.out.st.p
  have he := HQ.out.st.e
  have r0 := blk_cell hq 0
  have r1 := blk_cell hq 1
  have r2 := blk_cell hq 2
  have r3 := blk_cell hq 3
  have z0 := blk_frozen hq 0
  have z1 := blk_frozen hq 1
  have z2 := blk_frozen hq 2
  have z3 := blk_frozen hq 3
  have p0 := blk_cell hp 0
  have p1 := blk_frozen hp 0
  have e0 := blk_cell he 0
  have e1 := blk_frozen he 0
  clear hq hp he
  go_wp2
  have HR := Aside0.mk HQ.out.fin
  clear r0 r1 r2 r3 z0 z1 z2 z3 p0 p1 e0 e1
  revert HR
  generalize ((((((w8.setCell ⟨w.heap.size, 0, none⟩ (.int .u8 q.f0)).setCell ⟨w.heap.size, 1, none⟩ (.string q.f1)).setCell ⟨w.heap.size, 2, none⟩ (.int .i64 q.f2)).setCell ⟨w.heap.size, 3, none⟩ (.slice A6 q.f3.length n6)).setCell ⟨w.heap.size + 1, 0, none⟩ (.int .i64 0)).setCell ⟨w.heap.size + 2, 0, none⟩ (.int .i64 0)) = W9
  intro HR
  refine leaves_cons (f := 16) (args := #[.pointer (some ⟨w.heap.size, 0, none⟩), .pointer (some ⟨w.heap.size + 1, 0, none⟩), .pointer (some ⟨w.heap.size + 2, 0, none⟩)]) (by simp) (by simp [go_sem]) ?_
  refine (catch_idle ⟨w.heap.size, 0, none⟩ ⟨w.heap.size + 1, 0, none⟩ ⟨w.heap.size + 2, 0, none⟩ W9).mono ?_
  rintro e u' w'' ⟨rfl, rfl, rfl⟩
  have q0 := blk_cell HR.out.st.q 0
  have q1 := blk_cell HR.out.st.q 1
  have q2 := blk_cell HR.out.st.q 2
  have q3 := blk_cell HR.out.st.q 3
  have p0 := blk_cell HR.out.st.p 0
  have e0 := blk_cell HR.out.st.e 0
  clear hmf HQ
  simp [Leaves, settle, results, Tryd.results9, go_sem, hu25, q0, q1, q2, q3, p0, e0]
  exact ⟨k25.M_mono (fun k hk => by omega) HR.out.m, HR.out.st.b⟩
def zq : S25 := ⟨0, ⟨#[]⟩, 0, []⟩
/-- the query of a text, the place, the error -/
abbrev parseS (s : ByteArray) : S25 × Nat × Int := parseV (lt s) mkQ lf zq
/-- Parse answers as parseV -/
theorem parse_any_ (s : ByteArray) (w : World) (hT : G.tabs w) :
    Calls Tryd.prog 9 #[.string s] w fun e w' => (∃ cs : List Value, e = .returned (.tuple #[.agg cs.toArray, .int .i64 ((parseS s).2.1 : Int), .int .i64 (parseS s).2.2]) ∧ k25.M w' w.heap.size (fun k => w.heap.size ≤ k) (parseS s).1 cs) ∧ Below w.heap.size w w' := by
  have hz : ∀ w' : World, k25.M w' w.heap.size (fun k => w.heap.size ≤ k) zq [.int .u8 0, .string ⟨#[]⟩, .int .i64 0, .slice none 0 0] := fun w' => k25_mkM _ _ _ zq (Kd.R_nil _ _ _ _ _)
  unfold parseS parseV
  by_cases h : 512 < (lt s).length
  · rw [if_pos h]
    refine (parse_long (by simpa using h)).mono ?_
    rintro e w' ⟨rfl, hb⟩
    exact ⟨⟨_, rfl, hz w'⟩, hb⟩
  · rw [if_neg h]
    have hs5 : s.size ≤ 512 := by simpa using h
    cases hE : orV (lt s) mkQ (andV (lt s) mkQ (notV (lt s) mkQ lf ((lt s).length + 1))) 0 0 with
    | bad p c =>
      refine (parse_bad hT hs5 (by simp) hE).mono ?_
      rintro e w' ⟨rfl, hb⟩
      exact ⟨⟨_, rfl, hz w'⟩, hb⟩
    | ok q a1 o1 =>
      obtain ⟨_, g2, rfl⟩ := orV_goes (lt s) mkQ (andV_goes (lt s) mkQ (notV_goes (lt s) mkQ lf leaf_nil _)) _ _ _ _ _ (Nat.zero_le _) hE
      have ha1 : a1 ≤ s.size := by simpa using g2
      by_cases h5 : skip (lt s) a1 < (lt s).length
      · simp only [if_pos h5]
        refine (parse_rest hT hs5 (by simp) hE ha1 (by simpa using h5)).mono ?_
        rintro e w' ⟨rfl, hb⟩
        exact ⟨⟨_, rfl, hz w'⟩, hb⟩
      · simp only [if_neg h5]
        refine (parse_fine hT hs5 (by simp) hE ha1 (by simpa using h5)).mono ?_
        rintro e w' ⟨⟨cs, rfl, hm⟩, hb⟩
        exact ⟨⟨cs, rfl, hm⟩, hb⟩
end Go.Proofs.YtlmmbefejmbpeaaDoor.M
