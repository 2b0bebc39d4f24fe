/- The first copy's knowledge: its beginning; who is told of. -/
import Derived.Carry
import Derived.Test.YtfaipapaiobgcaaPrimD
import Derived.Test.YtfaipapaiobgcaaPrimS
import Derived.Deep.RegionLaw
namespace Go.Proofs.Ytfaipapaiobgcaa.M
open Go.RowKit Go.Maps Go.ChangeMaps Go.Proofs.YtfaipapaiobgcaaW.PrintWords Go.Proofs.YtfaipapaiobgcaaW.PrintLast Go.Proofs.YtfaipapaiobgcaaW.PrintMore Go.Proofs.Ytfaipapaiobgcaa.PPrimPlays
set_option linter.unusedVariables false
set_option linter.unusedSimpArgs false
def f0 (k : Int) : Option Pe := none
def newF (me rv : Int) (xs : List Int) (k : Int) : Option Pe := (tab1 me xs f0 k).bind (updP xs rv k)
def NewR (w : World) (S : Nat → Prop) (me tm rv : Int) (xs : List Int) (e : Ending) (w' : World) : Prop :=
  ∃ B M, e = .returned (pt B) ∧ TabR w S B M me tm rv (newF me rv xs) w'
theorem st_nil (k : Int) : st [] k = f0 k := rfl
theorem new_any {w : World} {S : Nat → Prop} (hS : ∀ k, w.heap.size ≤ k → S k) (me tm rv : Int) (hr : 0 ≤ rv ∧ rv ≤ 18446744073709551615) {A : Option Addr} {c : Nat} {xs : List Int} (hI : IntsAt w S A c xs) (hx : ∀ x ∈ xs, 0 ≤ x ∧ x ≤ 4) :
    Calls Try.prog 9 #[.int .i64 me, .int .u64 tm, .int .u64 rv, .slice A xs.length c] w (NewR w S me tm rv xs) := by
  have hmm := @run_makeMap Try.prog
  have hP : PrimAt ((w.alloc (.map #[] 0)).alloc (.cells #[.int .i64 me, .int .u64 tm, .int .u64 rv, .map (some w.heap.size)] 59)) S (w.heap.size + 1) w.heap.size 0 me tm rv [] := by
    refine ⟨?_, ⟨?_, by simp, by simp, by simp, by simp⟩, by simp, by simp, hS _ (by omega), hS _ (Nat.le_refl _), by simp, hr, by simp⟩
    · have := heap_alloc_new (w.alloc (.map #[] 0)) (.cells #[.int .i64 me, .int .u64 tm, .int .u64 rv, .map (some w.heap.size)] 59)
      simpa using this
    · exact (Below.heap_alloc _ _ _ (by simp)).trans (heap_alloc_new w _)
  have hK : Kp S w ((w.alloc (.map #[] 0)).alloc (.cells #[.int .i64 me, .int .u64 tm, .int .u64 rv, .map (some w.heap.size)] 59)) := ((Kp.refl S w).alloc _).alloc _
  have HT := Aside0.mk (table_any hP (fun k hk => hS k (by simp at hk; omega)) (hI.kp hK) hx rv (Int.le_refl _) hr.2)
  have HK := Aside0.mk hK
  clear hP hK hI hx hS
  go_enter Try.func9, Try.ntmps9
  go_wp2_with (first | (go_at_call 13; refine HT.out.mono ?_; rintro e w' ⟨rfl, HR⟩; have HR0 := Aside0.mk HR; clear HR))
  go_ret
  obtain ⟨cl', L', h1, h2, h3⟩ := HR0.out
  exact ⟨_, _, rfl, cl', L', h1, HK.out.trans h2, h3⟩
/-! ### Peers -/
theorem filter_push {L : List En} (hn : (L.map En.n).Nodup) {s : Array Nat} {y : En} (hy : y ∈ L) (hs : s.contains y.n = false) :
    ((L.filter fun x => (s.push y.n).contains x.n).map En.k).Perm (((L.filter fun x => s.contains x.n).map En.k) ++ [y.k]) := by
  induction L with
  | nil => cases hy
  | cons a r ih =>
    rw [List.map_cons, List.nodup_cons] at hn
    rcases List.mem_cons.1 hy with rfl | hy
    · have e : (r.filter fun x => (s.push y.n).contains x.n) = r.filter fun x => s.contains x.n := by
        apply List.filter_congr
        intro x hx
        rw [contains_push, show (x.n == y.n) = false by simpa using fun e => hn.1 (List.mem_map.2 ⟨x, hx, e⟩), Bool.or_false]
      rw [List.filter_cons, List.filter_cons, hs, e, contains_push]
      simp only [beq_self_eq_true, Bool.or_true, if_true, Bool.false_eq_true, if_false, List.map_cons]
      exact (List.perm_append_singleton _ _).symm
    · have ih := ih hn.2 hy
      have ha : (a.n == y.n) = false := by simpa using fun e => hn.1 (List.mem_map.2 ⟨y, hy, e.symm⟩)
      rw [List.filter_cons, List.filter_cons, contains_push, ha, Bool.or_false]
      split
      · rw [List.map_cons, List.map_cons, List.cons_append]; exact ih.cons _
      · exact ih
theorem sortI_perm_eq {l m : List Int} (h : l.Perm m) : sortI l = sortI m :=
  List.Perm.eq_of_pairwise (le := fun x y : Int => x ≤ y) (fun a b _ _ h1 h2 => Int.le_antisymm h1 h2) (sortI_rising l) (sortI_rising m) ((sortI_perm l).trans (h.trans (sortI_perm m).symm))
theorem nodup_le : ∀ (n : Nat) (l : List Int), l.Nodup → (∀ x ∈ l, 0 ≤ x ∧ x < (n : Int)) → l.length ≤ n
  | 0, [], _, _ => Nat.le_refl _
  | 0, x :: r, _, h => by have := h x (by simp); omega
  | n + 1, l, hd, h => by
    have ih := nodup_le n (l.erase (n : Int)) (hd.erase _) (fun x hx => by
      have := (hd.mem_erase_iff).1 hx
      have h2 := h x this.2
      have h3 := this.1
      omega)
    rw [List.length_erase] at ih
    split at ih <;> omega
theorem len5 {w : World} {M : Nat} {L : List En} {cl : Nat} (h : MapAt w M L cl) : L.length ≤ 5 := by
  have h1 := h.kd
  have h2 : ∀ k ∈ L.map En.k, k ∈ ([0, 1, 2, 3, 4] : List Int) := by
    intro k hk
    obtain ⟨x, hx, rfl⟩ := List.mem_map.1 hk
    have := h.kw x hx
    simp; omega
  have := nodup_le 5 _ h1 (fun x hx => by have := h2 x hx; simp at this; omega)
  simpa using this
theorem info3 : (Try.prog.info? 3).map (fun i => (i.zero, i.size, i.bytes)) = some (some (.int .i64 0), 1, 8) := by kernel_rfl
def keysL (L : List En) : List Int := sortI (L.map En.k)
def PeersR (w : World) (S : Nat → Prop) (B M cl : Nat) (me tm rv : Int) (L : List En) (e : Ending) (w' : World) : Prop :=
  ∃ v, e = .returned v ∧ Kd.R (Kd.int .i64) 3 w' w.heap.size (fun _ => True) v (keysL L) ∧ PrimAt w' S B M cl me tm rv L ∧ Below w.heap.size w w'
set_option maxHeartbeats 4000000 in
theorem peers_any {w : World} {S : Nat → Prop} {B M cl : Nat} {me tm rv : Int} {L : List En} (hP : PrimAt w S B M cl me tm rv L) :
    Calls Try.prog 14 #[pt B] w (PeersR w S B M cl me tm rv L) := by
  have c3 : w.cell? ⟨B, 3, none⟩ = some (.map (some M)) := blk_cell hP.hd 3
  have hrg := run_range_map (P := Try.prog) w 57 3 60 M _ _ Try.underlying57 hP.mp.blk
  have hlen := len5 hP.mp
  have HP := Aside0.mk hP
  clear hP
  go_enter Try.func14, Try.ntmps14
  go_wp2
  clear c3 hrg
  go_loopw [3] (fun v wq => ∃ (seen : Array Nat) (out : List Int), Aside0 (Kd.R (Kd.int .i64) 3 wq w.heap.size (fun k => w.heap.size < k) v out) ∧ Aside0 (wq.heap[w.heap.size]? = some (.mapIter (some M) cl seen cl)) ∧
      Aside0 (out.Perm ((L.filter fun x => seen.contains x.n).map En.k)) ∧ Aside0 (Below w.heap.size w wq) ∧ Aside0 (out = [] → v = .slice none 0 0)) (fun _ wq => unseen L (seenOf wq w.heap.size))
  case atStart =>
    refine ⟨#[], [], ⟨Kd.R_nil _ _ _ _ _⟩, ⟨heap_alloc_new w _⟩, ⟨?_⟩, ⟨(Below.refl _ _).alloc (Nat.le_refl _) _⟩, ⟨fun _ => rfl⟩⟩
    rw [show (L.filter fun x => (#[] : Array Nat).contains x.n) = [] by simp]
    exact List.Perm.refl _
  case round =>
    obtain ⟨seen, out, HO, HI, HPM, HB, HN⟩ := hrel
    have hPq : PrimAt wr S B M cl me tm rv L := HP.out.old (fun k _ hk => HB.out.block k hk)
    rcases step_next hPq HI.out with ⟨hall, hn⟩ | ⟨y, hy, hs, w1, hn, hen, hPn, hrn, hKn⟩
    · have HA := Aside0.mk hall
      clear hall hPq
      have hfin : out.Perm (L.map En.k) := by
        have := HPM.out
        rw [List.filter_eq_self.2 HA.out] at this; exact this
      have HF := Aside0.mk (sortI_perm_eq hfin)
      have hlo : out.length ≤ 5 := by rw [hfin.length_eq, List.length_map]; exact hlen
      clear hfin
      by_cases he : out = []
      · have hv := HN.out he
        subst hv
        have HE := Aside0.mk he
        clear he
        go_wp2_with (first | (go_at_call 27; refine (sort_nil _).mono ?_; rintro e w' ⟨rfl, rfl⟩))
        go_ret
        refine ⟨_, rfl, ?_, HP.out.old (fun k _ hk => HB.out.block k hk), HB.out⟩
        rw [show keysL L = [] by unfold keysL; rw [← HF.out, HE.out]; rfl]
        exact Kd.R_nil _ _ _ _ _
      · have HE := Aside0.mk he
        clear he
        have hso : slices_Sort_int_int.f out = some (sortI out) := by unfold slices_Sort_int_int.f; rw [if_neg HE.out, if_pos (by omega)]
        have HSO := Aside0.mk hso
        clear hso
        go_wp2_with (first | (go_at_call 27; refine (slices_Sort_int_int.calls (fun k => w.heap.size < k) _ out _ w _ HB.out HO.out HSO.out).mono ?_; rintro e w' ⟨rfl, hR, hB2, _⟩; have HR2 := Aside0.mk hR; have HB2 := Aside0.mk hB2; clear hR hB2))
        go_ret
        refine ⟨_, rfl, ?_, HP.out.old (fun k _ hk => HB2.out.block k hk), HB2.out⟩
        rw [show keysL L = sortI out from HF.out.symm]
        exact Kd.R_mono HR2.out (fun _ _ => trivial)
    · have HY := Aside0.mk hy
      have HSS := Aside0.mk hs
      have HRN := Aside0.mk hrn
      have hk2 : Kept wr w1 (fun k => k = w.heap.size) := ⟨hKn.size, hKn.block⟩
      have HO1 := Aside0.mk (Kd.R_kept HO.out hk2 (fun k hk e => by omega))
      have hB1 : Below w.heap.size w w1 := HB.out.trans (hKn.below (fun k hk => by omega) HB.out.size)
      have HB1 := Aside0.mk hB1
      have hsz : w.heap.size < w1.heap.size := Nat.lt_of_lt_of_le (blk_lt HI.out) hKn.size
      have HSZ := Aside0.mk hsz
      have hol : out.length ≤ 5 := by
        have h1 := HPM.out.length_eq
        have h2 := List.length_filter_le (fun x : En => seen.contains x.n) L
        rw [List.length_map] at h1; omega
      have HMS : Aside0 (unseen L (seen.push y.n) < unseen L (seenOf wr w.heap.size)) := ⟨by rw [seenOf_of HI.out]; exact unseen_lt HY.out HSS.out⟩
      clear hy hs hrn hk2 hB1 hsz hPn hKn hPq
      go_wp2_with (first | ((with_reducible refine gate_builtin (b := .append) (xs := #[.tmp 16, .tmp 18]) rfl ?_); at_builtin; refine Kd.R_append (Kd.int .i64) w.heap.size rfl (.tmp 16) (.tmp 18) 24 3 (.int .i64 0) 8 rfl Try.underlying24 info3 rfl (by decide) (by omega) _ out y.k [.int .i64 y.k] (fun k => w.heap.size < k) (fun _ => False) rfl (by first | (go_simp; done) | (go_simp; rfl)) rfl (fun _ hk => hk.elim) (fun k hk => by have := HSZ.out; omega) HO1.out HB1.out (by have := HSZ.out; omega) (by omega) ?_; intro v1 w2 ho hb hg hat; have HO2 := Aside0.mk ho; have HB2 := Aside0.mk hb; have HG := Aside0.mk hg; clear ho hb hg hat))
      have hrr : w2.heap[w.heap.size]? = some (.mapIter (some M) cl (seen.push y.n) cl) := by
        refine (HG.out.block _ HSZ.out ?_).trans HRN.out
        intro e
        have := HO1.out.1 _ e.symm
        omega
      have HRR := Aside0.mk hrr
      clear hrr
      go_roundw
      case rel =>
        refine ⟨seen.push y.n, out ++ [y.k], HO2, HRR, ⟨?_⟩, HB2, ⟨fun e => by simp at e⟩⟩
        exact (HPM.out.append_right _).trans (filter_push HP.out.mp.bd HY.out HSS.out).symm
      case measure =>
        rw [seenOf_of HRR.out]; exact HMS.out
end Go.Proofs.Ytfaipapaiobgcaa.M
