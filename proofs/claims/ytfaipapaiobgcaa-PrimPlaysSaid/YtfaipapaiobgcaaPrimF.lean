/- The first copy's knowledge: who is needed, how much is sure, who is offered. -/
import Derived.Test.YtfaipapaiobgcaaPrimE
namespace Go.Proofs.Ytfaipapaiobgcaa.M
open Go.RowKit Go.Maps Go.ChangeMaps Go.Proofs.YtfaipapaiobgcaaW.PrintWords Go.Proofs.YtfaipapaiobgcaaW.PrintLast Go.Proofs.YtfaipapaiobgcaaW.PrintMore Go.Proofs.Ytfaipapaiobgcaa.PPrimPlays
set_option linter.unusedVariables false
set_option linter.unusedSimpArgs false
def needB (f : Int → Option Pe) (k : Int) : Bool := match f k with | some p => p.i || p.o | none => false
theorem keys_find {w : World} {M : Nat} {L : List En} {cl : Nat} (h : MapAt w M L cl) {k : Int} (hk : k ∈ keysL L) : ∃ x, find L k = some x := by
  obtain ⟨x, hx, rfl⟩ := List.mem_map.1 ((sortI_perm _).mem_iff.1 hk)
  exact ⟨x, find_of h.kd hx⟩
theorem keys_rng {w : World} {M : Nat} {L : List En} {cl : Nat} (h : MapAt w M L cl) {k : Int} (hk : k ∈ keysL L) : 0 ≤ k ∧ k ≤ 4 := by
  obtain ⟨x, hx, rfl⟩ := List.mem_map.1 ((sortI_perm _).mem_iff.1 hk)
  exact h.kw x hx
theorem keys_len {w : World} {M : Nat} {L : List En} {cl : Nat} (h : MapAt w M L cl) : (keysL L).length ≤ 5 := by
  rw [show (keysL L).length = (L.map En.k).length from (sortI_perm _).length_eq, List.length_map]; exact len5 h
theorem ints_cell {w : World} {A : Option Addr} {xs : List Int} (h : Kd.C (Kd.int .i64) w A xs.length xs) (i : Nat) (hi : i < xs.length) : ∃ ad, A = some ad ∧ w.cell? (ad.add i) = some (.int .i64 xs[i]) := by
  obtain ⟨ad, e, hc⟩ := Kd.at_int h (i : Int) (by omega) (by omega)
  refine ⟨ad, e, ?_⟩
  rw [Int.toNat_natCast] at hc
  rw [hc]
  unfold Go.Proofs.YtfaipapaiobgcaaW.PrintWords.rd
  rw [Int.toNat_natCast, List.getD_eq_getElem?_getD, List.getElem?_eq_getElem hi]; rfl
def NeedsR (w : World) (S : Nat → Prop) (B M cl : Nat) (me tm rv : Int) (L : List En) (e : Ending) (w' : World) : Prop :=
  ∃ v, e = .returned v ∧ Kd.R (Kd.int .i64) 3 w' w.heap.size (fun _ => True) v ((keysL L).filter (needB (st L))) ∧ PrimAt w' S B M cl me tm rv L ∧ Below w.heap.size w w'
theorem take_filter {l : List Int} {p : Int → Bool} {j : Nat} (h : j < l.length) : (l.take (j + 1)).filter p = (l.take j).filter p ++ if p l[j] then [l[j]] else [] := by
  rw [List.take_succ_eq_append_getElem h, List.filter_append, List.filter_cons]; simp
set_option maxHeartbeats 4000000 in
theorem needs_any {w : World} {S : Nat → Prop} {B M cl : Nat} {me tm rv : Int} {L : List En} (hP : PrimAt w S B M cl me tm rv L) :
    Calls Try.prog 16 #[pt B] w (NeedsR w S B M cl me tm rv L) := by
  have hkl := keys_len hP.mp
  have HP := Aside0.mk hP
  clear hP
  go_enter Try.func16, Try.ntmps16
  go_wp2_with (first | (go_at_call 14; refine (peers_any HP.out).mono ?_; rintro e w1 ⟨v, rfl, hR, hP1, hB⟩; obtain ⟨A, c, rfl⟩ := Kd.R_slice hR; have HR := Aside0.mk hR; have HP1 := Aside0.mk hP1; have HB := Aside0.mk hB; clear hR hP1 hB))
  go_loopw [3, 10] (fun v i wq => ∃ (j : Nat) (out : List Int), i = .int .i64 j ∧ j ≤ (keysL L).length ∧ Aside0 (Kd.R (Kd.int .i64) 3 wq w1.heap.size (fun _ => True) v out) ∧ Aside0 (out = ((keysL L).take j).filter (needB (st L))) ∧ Aside0 (Below w1.heap.size w1 wq)) (fun _ i _ => (keysL L).length - (intOf i).toNat)
  case atStart => exact ⟨0, [], rfl, Nat.zero_le _, ⟨Kd.R_nil _ _ _ _ _⟩, ⟨by simp⟩, ⟨Below.refl _ _⟩⟩
  case round =>
    obtain ⟨j, out, rfl, hj, HO, HE, HBq⟩ := hrel
    have hPq : PrimAt wr S B M cl me tm rv L := HP1.out.old (fun k _ hk => HBq.out.block k hk)
    by_cases hlt : j < (keysL L).length
    · have hC : Kd.C (Kd.int .i64) wr A (keysL L).length (keysL L) := Kd.C_below (Kd.R_reads' HR.out).2.2 HBq.out
      obtain ⟨ad, rfl, hc⟩ := ints_cell hC j hlt
      have HT := Aside0.mk (take_filter (p := needB (st L)) hlt)
      have hmem := List.getElem_mem hlt
      generalize (keysL L)[j] = y at hc HT hmem
      obtain ⟨x, hf⟩ := keys_find hPq.mp hmem
      have hrg := keys_rng hPq.mp hmem
      have hl := look hPq.mp (wf_key hrg)
      have HF := Aside0.mk hf
      rw [hf] at hl
      simp only [ptr] at hl
      clear hf hmem hC
      have hx := (find_some HF.out).1
      have d3 : wr.cell? ⟨B, 3, none⟩ = some (.map (some M)) := blk_cell hPq.hd 3
      have p0 : wr.cell? ⟨x.b, 0, none⟩ = some (.bool x.p.i) := blk_cell (hPq.pe x hx) 0
      have p1 : wr.cell? ⟨x.b, 1, none⟩ = some (.bool x.p.o) := blk_cell (hPq.pe x hx) 1
      clear hPq hx
      have hol : out.length ≤ 5 := by
        rw [HE.out]
        have h1 := List.length_filter_le (needB (st L)) ((keysL L).take j)
        have h2 := List.length_take_le j (keysL L)
        have h3 := List.length_take (i := j) (l := keysL L)
        omega
      have hnb : needB (st L) y = (x.p.i || x.p.o) := by unfold needB st; rw [HF.out]; rfl
      have HNB := Aside0.mk hnb
      clear hnb
      cases hi : x.p.i <;> cases ho : x.p.o
      all_goals
        rw [hi] at p0
        rw [ho] at p1
        have HHI := Aside0.mk hi
        have HHO := Aside0.mk ho
        clear hi ho
        go_wp2_with (first | ((with_reducible refine gate_builtin (b := .append) (xs := #[.tmp 30, .tmp 32]) rfl ?_); at_builtin; refine Kd.R_append (Kd.int .i64) w1.heap.size rfl (.tmp 30) (.tmp 32) 24 3 (.int .i64 0) 8 rfl Try.underlying24 info3 rfl (by decide) (by omega) _ out y [.int .i64 y] (fun _ => True) (fun _ => False) rfl (by first | (go_simp; done) | (go_simp; rfl)) rfl (fun _ hk => hk.elim) (fun k hk => trivial) HO.out HBq.out HBq.out.size (by omega) ?_; intro v1 w2 ho hb hg hat; have HO2 := Aside0.mk ho; have HB2 := Aside0.mk hb; clear ho hb hg hat))
        go_roundw
        case rel =>
          first
            | exact ⟨j + 1, _, by go_num, by omega, HO2, ⟨by rw [HT.out, HNB.out, HHI.out, HHO.out, HE.out]; rfl⟩, HB2⟩
            | exact ⟨j + 1, _, by go_num, by omega, HO, ⟨by rw [HT.out, HNB.out, HHI.out, HHO.out, HE.out]; simp⟩, HBq⟩
        case measure => simp [intOf]; omega
    · have hjl : j = (keysL L).length := by omega
      have HJ := Aside0.mk hjl
      clear hjl hPq
      go_wp2
      go_ret
      refine ⟨_, rfl, ?_, HP1.out.old (fun k _ hk => HBq.out.block k hk), HB.out.trans (HBq.out.mono HB.out.size)⟩
      have e : out = (keysL L).filter (needB (st L)) := by rw [HE.out, HJ.out, List.take_length]
      rw [← e]
      exact Kd.R_lower HO.out HB.out.size
def sureF (f : Int → Option Pe) : List Int → Int → Int
  | [], n => max 0 n
  | k :: r, n => match f k with
    | some p => if p.a = true then sureF f r (min n p.h) else 0
    | none => 0
def SureR (w : World) (S : Nat → Prop) (B M cl : Nat) (me tm rv : Int) (L : List En) (n : Int) (e : Ending) (w' : World) : Prop :=
  e = .returned (.int .i64 (sureF (st L) ((keysL L).filter (needB (st L))) n)) ∧ PrimAt w' S B M cl me tm rv L ∧ Below w.heap.size w w'
set_option maxHeartbeats 4000000 in
theorem sure_any {w : World} {S : Nat → Prop} {B M cl : Nat} {me tm rv : Int} {L : List En} (hP : PrimAt w S B M cl me tm rv L) (n : Int) (hn : -9223372036854775808 ≤ n ∧ n ≤ 9223372036854775807) :
    Calls Try.prog 10 #[pt B, .int .i64 n] w (SureR w S B M cl me tm rv L n) := by
  have HP := Aside0.mk hP
  have hkl : ((keysL L).filter (needB (st L))).length ≤ 5 := Nat.le_trans (List.length_filter_le _ _) (keys_len hP.mp)
  clear hP
  have hmm : ∀ k ∈ (keysL L).filter (needB (st L)), k ∈ keysL L := fun k hk => (List.mem_filter.1 hk).1
  go_enter Try.func10, Try.ntmps10
  go_wp2_with (first | (go_at_call 16; refine (needs_any HP.out).mono ?_; rintro e w1 ⟨v, rfl, hR, hP1, hB⟩; obtain ⟨A, c, rfl⟩ := Kd.R_slice hR; have HR := Aside0.mk hR; have HP1 := Aside0.mk hP1; have HB := Aside0.mk hB; clear hR hP1 hB))
  have hall : ∀ k ∈ (keysL L).filter (needB (st L)), ∃ x, x ∈ L ∧ find L k = some x ∧ 0 ≤ k ∧ k ≤ 4 := fun k hk => by
    obtain ⟨x, hf⟩ := keys_find HP.out.mp (hmm k hk)
    have := keys_rng HP.out.mp (hmm k hk)
    exact ⟨x, (find_some hf).1, hf, this.1, this.2⟩
  clear hmm
  have HALL := Aside0.mk hall
  clear hall
  generalize hnl : (keysL L).filter (needB (st L)) = nl at *
  have HNL := Aside0.mk hnl
  clear hnl
  go_loopw [1, 13] (fun nv i wq => ∃ (j : Nat) (m : Int) (d : Nat), nv = .int .i64 m ∧ i = .int .i64 j ∧ j ≤ nl.length ∧ Aside0 (sureF (st L) nl n = sureF (st L) (nl.drop j) m) ∧ -9223372036854775808 ≤ m ∧ m ≤ 9223372036854775807 ∧ wq = w1.drewN d) (fun _ i _ => nl.length - (intOf i).toNat)
  case atStart => exact ⟨0, n, 0, rfl, rfl, Nat.zero_le _, ⟨by simp⟩, hn.1, hn.2, rfl⟩
  case round =>
    obtain ⟨j, m, d, rfl, rfl, hj, HE, hm1, hm2, rfl⟩ := hrel
    have hPq : PrimAt (w1.drewN d) S B M cl me tm rv L := HP1.out.drewN d
    by_cases hlt : j < nl.length
    · have hC : Kd.C (Kd.int .i64) (w1.drewN d) A nl.length nl := Kd.C_drewN (Kd.R_reads' HR.out).2.2 d
      obtain ⟨ad, rfl, hc⟩ := ints_cell hC j hlt
      have HT := Aside0.mk (List.drop_eq_getElem_cons hlt)
      obtain ⟨x, hx, hf, hr1, hr2⟩ := HALL.out nl[j] (List.getElem_mem hlt)
      generalize nl[j] = y at hc HT hf hr1 hr2
      have hl := look hPq.mp (wf_key ⟨hr1, hr2⟩)
      have HF := Aside0.mk hf
      rw [hf] at hl
      simp only [ptr] at hl
      clear hf hC
      have d3 : (w1.drewN d).cell? ⟨B, 3, none⟩ = some (.map (some M)) := blk_cell hPq.hd 3
      have p3 : (w1.drewN d).cell? ⟨x.b, 3, none⟩ = some (.bool x.p.a) := blk_cell (hPq.pe x hx) 3
      have p4 : (w1.drewN d).cell? ⟨x.b, 4, none⟩ = some (.int .i64 x.p.h) := blk_cell (hPq.pe x hx) 4
      have hxh := hPq.hw x hx
      have hst : st L y = some x.p := by unfold st; rw [HF.out]; rfl
      have HST := Aside0.mk hst
      clear hst hPq hx
      cases ha : x.p.a
      · rw [ha] at p3
        have HA := Aside0.mk ha
        clear ha
        go_wp2
        go_ret
        refine ⟨?_, HP1.out.drewN _, ⟨HB.out.os, HB.out.tape, HB.out.output, HB.out.size, HB.out.block⟩⟩
        rw [HNL.out, HE.out, HT.out]
        show _ = Ending.returned (.int .i64 (match st L y with | some p => if p.a = true then sureF (st L) (nl.drop (j + 1)) (min m p.h) else 0 | none => 0))
        rw [HST.out]
        dsimp only
        rw [HA.out]; rfl
      · rw [ha] at p3
        have HA := Aside0.mk ha
        clear ha
        go_wp2
        all_goals
          go_roundw
          case rel =>
            refine ⟨j + 1, min m x.p.h, _, by first | rfl | (congr 1; omega), by go_num, by omega, ⟨?_⟩, by omega, by omega, rfl⟩
            rw [HE.out, HT.out]
            show (match st L y with | some p => if p.a = true then sureF (st L) (nl.drop (j + 1)) (min m p.h) else 0 | none => 0) = _
            rw [HST.out]
            dsimp only
            rw [HA.out]; rfl
          case measure => simp [intOf]; omega
    · have HD := Aside0.mk (show nl.drop j = [] from List.drop_of_length_le (by omega))
      clear hPq
      go_wp2
      all_goals
        go_ret
        refine ⟨?_, HP1.out.drewN _, ⟨HB.out.os, HB.out.tape, HB.out.output, HB.out.size, HB.out.block⟩⟩
        rw [HNL.out, HE.out, HD.out]
        show _ = Ending.returned (.int .i64 (max 0 m))
        first | (congr 2; done) | (congr 2; omega) | rfl
/-! ### Offer -/
theorem R_int_ok {e : Nat} {w : World} {base : Nat} {ok : Nat → Prop} {v : Value} {xs : List Int} (h : Kd.R (Kd.int .i64) e w base ok v xs) : Kd.R (Kd.int .i64) e w base (fun k => base ≤ k) v xs := ⟨fun k hk => Kd.R_base h k hk, h.2⟩
def offB (len : Int) (p : Pe) : Bool := !p.i && (p.o || (p.a && decide (p.h ≥ len)))
def offP (rv len : Int) (p : Pe) : Pe := if offB len p then { p with o := true, t := rv } else p
def offK (f : Int → Option Pe) (len k : Int) : Bool := match f k with | some p => offB len p | none => false
def OfferR (w : World) (S : Nat → Prop) (B M cl : Nat) (me tm rv : Int) (L : List En) (len : Int) (e : Ending) (w' : World) : Prop :=
  ∃ v L', e = .returned v ∧ Kd.R (Kd.int .i64) 3 w' w.heap.size (fun k => w.heap.size ≤ k) v ((keysL L).filter (offK (st L) len)) ∧ PrimAt w' S B M cl me tm rv L' ∧ (∀ k, st L' k = (st L k).map (offP rv len)) ∧ Kp S w w'
theorem st_set {L : List En} {k : Int} {p : Pe} (j : Int) : st (setE L k p) j = if j = k ∧ st L j ≠ none then some p else st L j := by
  induction L with
  | nil => simp [setE, st, find]
  | cons x r ih =>
    unfold st find setE at *
    rw [List.map_cons, List.find?_cons, List.find?_cons]
    by_cases hx : x.k = j
    · have h1 : (x.k == j) = true := by simpa using hx
      have h2 : ((if x.k = k then { x with p := p } else x).k == j) = true := by split <;> exact h1
      rw [h1, h2]
      by_cases hk : j = k
      · rw [if_pos (hx.trans hk), if_pos ⟨hk, by simp⟩]; rfl
      · rw [if_neg (fun e => hk (hx.symm.trans e)), if_neg (fun e => hk e.1)]
    · have h1 : (x.k == j) = false := by simpa using hx
      have h2 : ((if x.k = k then { x with p := p } else x).k == j) = false := by split <;> exact h1
      rw [h1, h2]
      exact ih
theorem keys_nodup {L : List En} (h : (L.map En.k).Nodup) : (keysL L).Nodup := (sortI_perm _).nodup_iff.2 h
theorem keys_mem {L : List En} {k : Int} : k ∈ keysL L ↔ st L k ≠ none := by
  unfold keysL
  rw [(sortI_perm _).mem_iff, ne_eq, st_none]
  constructor
  · intro h e
    obtain ⟨x, hx, rfl⟩ := List.mem_map.1 h
    exact find_none e x hx rfl
  · intro h
    cases hf : find L k with
    | none => exact absurd hf h
    | some x => exact List.mem_map.2 ⟨x, (find_some hf).1, (find_some hf).2⟩
theorem Kp.belowB {S : Nat → Prop} {a b c : World} (h : Kp S a b) (k : Below a.heap.size b c) : Kp S a c :=
  ⟨k.os.trans h.os, k.tape.trans h.tape, k.output.trans h.output, Nat.le_trans h.size k.size, fun i hi hs => (k.block i hi).trans (h.block i hi hs)⟩
theorem PrimAt.old2 {w w' : World} {S : Nat → Prop} {B M cl : Nat} {me tm rv : Int} {L : List En} (h : PrimAt w S B M cl me tm rv L) {Z : Nat} (hB : B < Z) (hM : M < Z) (hx : ∀ b ∈ L.map En.b, b < Z) (ho : ∀ k, k < Z → w'.heap[k]? = w.heap[k]?) : PrimAt w' S B M cl me tm rv L :=
  ⟨(ho B hB).trans h.hd, ⟨(ho M hM).trans h.mp.blk, h.mp.kd, h.mp.kw, h.mp.bd, h.mp.bl⟩, fun x hm => (ho x.b (hx _ (List.mem_map.2 ⟨x, hm, rfl⟩))).trans (h.pe x hm), h.nd, h.sB, h.sM, h.sb, h.tw, h.hw⟩
theorem offB_eq (len : Int) (p : Pe) {i o a : Bool} (hi : p.i = i) (ho : p.o = o) (ha : p.a = a) {g : Bool} (hg : decide (len ≤ p.h) = g) : offB len p = (!i && (o || (a && g))) := by
  unfold offB; rw [hi, ho, ha]; rw [← hg]
set_option maxHeartbeats 8000000 in
theorem offer_any {w : World} {S : Nat → Prop} {B M cl : Nat} {me tm rv : Int} {L : List En} (hP : PrimAt w S B M cl me tm rv L) (hS : ∀ k, w.heap.size ≤ k → S k) (len : Int) :
    Calls Try.prog 15 #[pt B, .int .i64 len] w (OfferR w S B M cl me tm rv L len) := by
  have hkl := keys_len hP.mp
  have HP := Aside0.mk hP
  have HS := Aside0.mk hS
  have htw := hP.tw
  clear hP hS
  go_enter Try.func15, Try.ntmps15
  go_wp2_with (first | (go_at_call 14; refine (peers_any HP.out).mono ?_; rintro e w1 ⟨v, rfl, hR, hP1, hB⟩; obtain ⟨A, c, rfl⟩ := Kd.R_slice hR; have HR := Aside0.mk hR; have HP1 := Aside0.mk hP1; have HB := Aside0.mk hB; clear hR hP1 hB))
  go_loopw [5, 12] (fun v i wq => ∃ (j : Nat) (out : List Int) (Lq : List En), i = .int .i64 j ∧ j ≤ (keysL L).length ∧ Aside0 (Kd.R (Kd.int .i64) 3 wq w1.heap.size (fun k => w1.heap.size ≤ k) v out) ∧ Aside0 (out = ((keysL L).take j).filter (offK (st L) len)) ∧
      Aside0 (PrimAt wq S B M cl me tm rv Lq) ∧ Aside0 (∀ k, st Lq k = if k ∈ (keysL L).take j then (st L k).map (offP rv len) else st L k) ∧ Aside0 (Lq.map En.b = L.map En.b) ∧ Aside0 (Kp (fun b => b ∈ L.map En.b) w1 wq)) (fun _ i _ => (keysL L).length - (intOf i).toNat)
  case atStart => exact ⟨0, [], L, rfl, Nat.zero_le _, ⟨Kd.R_nil _ _ _ _ _⟩, ⟨by simp⟩, HP1, ⟨fun k => by simp⟩, ⟨rfl⟩, ⟨Kp.refl _ _⟩⟩
  case round =>
    obtain ⟨j, out, Lq, rfl, hj, HO, HE, HPq, HST, HBS, HK⟩ := hrel
    have hPq := HPq.out
    have hsz : w1.heap.size ≤ wr.heap.size := HK.out.size
    have hold : ∀ b ∈ L.map En.b, b < w.heap.size := fun b hb => by
      obtain ⟨x, hx, rfl⟩ := List.mem_map.1 hb
      exact blk_lt (HP.out.pe x hx)
    have HOLD := Aside0.mk hold
    clear hold
    by_cases hlt : j < (keysL L).length
    · have hC : Kd.C (Kd.int .i64) wr A (keysL L).length (keysL L) :=
        Kd.C_kept_own (S := fun b => b ∈ L.map En.b) (R_int_ok HR.out) (fun k hk hm => by have := HOLD.out k hm; omega) wr ⟨HK.out.size, HK.out.block⟩
      obtain ⟨ad, rfl, hc⟩ := ints_cell hC j hlt
      have HT := Aside0.mk (take_filter (p := offK (st L) len) hlt)
      have htk : (keysL L).take (j + 1) = (keysL L).take j ++ [(keysL L)[j]] := by rw [List.take_succ_eq_append_getElem hlt]
      have HTK := Aside0.mk htk
      clear htk
      have hnin : (keysL L)[j] ∉ (keysL L).take j := by
        have hd := keys_nodup HP.out.mp.kd
        rw [← List.take_append_drop j (keysL L), List.nodup_append] at hd
        intro hm
        exact hd.2.2 _ hm _ (by rw [List.drop_eq_getElem_cons hlt]; exact List.mem_cons_self ..) rfl
      have HNI := Aside0.mk hnin
      have hmem := List.getElem_mem hlt
      clear hnin
      generalize (keysL L)[j] = y at hc HT hmem HTK HNI
      have hrg := keys_rng HP.out.mp hmem
      have hsy : st Lq y = st L y := by rw [HST.out y, if_neg HNI.out]
      obtain ⟨x, hf⟩ : ∃ x, find Lq y = some x := by
        cases h : find Lq y with
        | some x => exact ⟨x, rfl⟩
        | none => exact absurd (hsy ▸ st_none.2 h) (keys_mem.1 hmem)
      have hl := look hPq.mp (wf_key hrg)
      have HF := Aside0.mk hf
      rw [hf] at hl
      simp only [ptr] at hl
      clear hf hmem hC
      have hx := (find_some HF.out).1
      have HXK := Aside0.mk (find_some HF.out).2
      have d2 : wr.cell? ⟨B, 2, none⟩ = some (.int .u64 rv) := blk_cell hPq.hd 2
      have d3 : wr.cell? ⟨B, 3, none⟩ = some (.map (some M)) := blk_cell hPq.hd 3
      have p0 : wr.cell? ⟨x.b, 0, none⟩ = some (.bool x.p.i) := blk_cell (hPq.pe x hx) 0
      have p1 : wr.cell? ⟨x.b, 1, none⟩ = some (.bool x.p.o) := blk_cell (hPq.pe x hx) 1
      have p2 : wr.cell? ⟨x.b, 2, none⟩ = some (.int .u64 x.p.t) := blk_cell (hPq.pe x hx) 2
      have p3 : wr.cell? ⟨x.b, 3, none⟩ = some (.bool x.p.a) := blk_cell (hPq.pe x hx) 3
      have p4 : wr.cell? ⟨x.b, 4, none⟩ = some (.int .i64 x.p.h) := blk_cell (hPq.pe x hx) 4
      have f1 : wr.frozen? ⟨x.b, 1, none⟩ = false := blk_frozen (hPq.pe x hx) 1
      have f2 : wr.frozen? ⟨x.b, 2, none⟩ = false := blk_frozen (hPq.pe x hx) 2
      have hxb : x.b ∈ L.map En.b := by rw [← HBS.out]; exact List.mem_map.2 ⟨x, hx, rfl⟩
      have HXB := Aside0.mk hxb
      have HX := Aside0.mk hx
      have hsx : st L y = some x.p := by rw [← hsy]; unfold st; rw [HF.out]; rfl
      have HSX := Aside0.mk hsx
      clear hPq hx hsy hsx hxb
      have hol : out.length ≤ 5 := by
        rw [HE.out]
        have h1 := List.length_filter_le (offK (st L) len) ((keysL L).take j)
        have h3 := List.length_take (i := j) (l := keysL L)
        omega
      have hob : offK (st L) len y = offB len x.p := by unfold offK; rw [HSX.out]
      have HOB := Aside0.mk hob
      clear hob
      have HSTS : Aside0 (offB len x.p = false → ∀ k, st Lq k = if k ∈ (keysL L).take (j + 1) then (st L k).map (offP rv len) else st L k) := ⟨fun hn k => by
        rw [HTK.out, HST.out k]
        by_cases h1 : k ∈ (keysL L).take j
        · rw [if_pos h1, if_pos (List.mem_append_left _ h1)]
        · by_cases h2 : k = y
          · rw [if_neg h1, if_pos (by rw [h2]; simp), h2, HSX.out, Option.map_some]; unfold offP; rw [hn]; rfl
          · rw [if_neg h1, if_neg (by simp [h1, h2])]⟩
      have HSTY : Aside0 (offB len x.p = true → ∀ k, st (setE Lq x.k { x.p with o := true, t := rv }) k = if k ∈ (keysL L).take (j + 1) then (st L k).map (offP rv len) else st L k) := ⟨fun hn k => by
        rw [HTK.out, st_set, HXK.out, HST.out k]
        by_cases h2 : k = y
        · rw [if_pos ⟨h2, by rw [h2, if_neg HNI.out, HSX.out]; simp⟩, if_pos (by rw [h2]; simp), h2, HSX.out, Option.map_some]; unfold offP; rw [hn]; rfl
        · rw [if_neg (fun h => h2 h.1)]
          by_cases h1 : k ∈ (keysL L).take j
          · rw [if_pos h1, if_pos (List.mem_append_left _ h1)]
          · rw [if_neg h1, if_neg (by simp [h1, h2])]⟩
      have HBM : Aside0 (B < w1.heap.size ∧ M < w1.heap.size) := ⟨blk_lt HP1.out.hd, blk_lt HP1.out.mp.blk⟩
      have hxb1 : x.b < w1.heap.size := Nat.lt_of_lt_of_le (HOLD.out _ HXB.out) HB.out.size
      have HR1 : Aside0 (Kd.R (Kd.int .i64) 3 ((wr.setCell ⟨x.b, 1, none⟩ (.bool true)).setCell ⟨x.b, 2, none⟩ (.int .u64 rv)) w1.heap.size (fun k => w1.heap.size ≤ k) u5 out) :=
        ⟨Kd.R_far (p := ⟨x.b, 2, none⟩) (Kd.R_far (p := ⟨x.b, 1, none⟩) HO.out (fun k hk => by show k ≠ x.b; omega) (.bool true)) (fun k hk => by show k ≠ x.b; omega) (.int .u64 rv)⟩
      have HPY : Aside0 (PrimAt ((wr.setCell ⟨x.b, 1, none⟩ (.bool true)).setCell ⟨x.b, 2, none⟩ (.int .u64 rv)) S B M cl me tm rv (setE Lq x.k { x.p with o := true, t := rv })) :=
        ⟨HPq.out.put HX.out _ (blk_put (blk_put (HPq.out.pe x HX.out) 1 _ rfl) 2 _ rfl) (fun j hj _ => (Below.heap_setCell _ _ _ j hj).trans (Below.heap_setCell _ _ _ j hj)) (HPq.out.hw x HX.out)⟩
      have HKY : Aside0 (Kp (fun b => b ∈ L.map En.b) w1 ((wr.setCell ⟨x.b, 1, none⟩ (.bool true)).setCell ⟨x.b, 2, none⟩ (.int .u64 rv))) :=
        ⟨(HK.out.setCell (p := ⟨x.b, 1, none⟩) HXB.out _).setCell (p := ⟨x.b, 2, none⟩) HXB.out _⟩
      clear hxb1
      cases hi : x.p.i <;> cases ho : x.p.o <;> cases ha : x.p.a <;> cases hh : decide (len ≤ x.p.h)
      all_goals
        have hob2 := offB_eq len x.p hi ho ha hh
        simp only [Bool.not_true, Bool.not_false, Bool.true_and, Bool.false_and, Bool.and_false, Bool.and_true, Bool.or_true, Bool.true_or, Bool.or_false, Bool.false_or] at hob2
        have HO2 := Aside0.mk hob2
        rw [hi] at p0
        rw [ho] at p1
        rw [ha] at p3
        clear hi ho ha hob2
        go_wp2_with (first | ((with_reducible refine gate_builtin (b := .append) (xs := #[.tmp 57, .tmp 59]) rfl ?_); at_builtin; refine Kd.R_append (Kd.int .i64) w1.heap.size rfl (.tmp 57) (.tmp 59) 24 3 (.int .i64 0) 8 rfl Try.underlying24 info3 rfl (by decide) (by omega) _ out y [.int .i64 y] (fun k => w1.heap.size ≤ k) (fun _ => False) rfl (by first | (go_simp; done) | (go_simp; rfl)) rfl (fun _ hk => hk.elim) (fun k hk => by simp at hk; omega) HR1.out (Below.refl _ _) (by simp; omega) (by omega) ?_; intro v1 w2 ho hb hg hat; have HA2 := Aside0.mk ho; have HB2 := Aside0.mk hb; clear ho hb hg hat))
        go_roundw
        case rel =>
          first
            | exact ⟨j + 1, _, _, by go_num, by omega, HA2, ⟨by rw [HT.out, HOB.out, HO2.out, HE.out]; rfl⟩, ⟨HPY.out.old2 HBM.out.1 HBM.out.2 (fun b hb => by rw [setE_b, HBS.out] at hb; exact Nat.lt_of_lt_of_le (HOLD.out b hb) HB.out.size) HB2.out.block⟩, ⟨HSTY.out HO2.out⟩, ⟨by rw [setE_b]; exact HBS.out⟩, ⟨HKY.out.belowB HB2.out⟩⟩
            | exact ⟨j + 1, _, _, by go_num, by omega, HO, ⟨by rw [HT.out, HOB.out, HO2.out, HE.out]; simp⟩, HPq, ⟨HSTS.out HO2.out⟩, HBS, HK⟩
        case measure => simp [intOf]; omega
    · have hjl : j = (keysL L).length := by omega
      have HJ := Aside0.mk hjl
      clear hjl hPq
      go_wp2
      go_ret
      refine ⟨_, Lq, rfl, ?_, HPq.out, fun k => ?_, (Kp.of_below HB.out).trans (HK.out.mono fun b hb => ?_)⟩
      · have e : out = (keysL L).filter (offK (st L) len) := by rw [HE.out, HJ.out, List.take_length]
        rw [← e]
        exact R_int_ok (Kd.R_lower HO.out HB.out.size)
      · rw [HST.out k, HJ.out, List.take_length]
        by_cases hk : k ∈ keysL L
        · rw [if_pos hk]
        · rw [if_neg hk]
          have : st L k = none := Classical.byContradiction fun h => hk (keys_mem.2 h)
          rw [this]; rfl
      · obtain ⟨x, hx, rfl⟩ := List.mem_map.1 hb
        exact HP.out.sb x hx
end Go.Proofs.Ytfaipapaiobgcaa.M
