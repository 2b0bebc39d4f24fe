/- The reference's peers in memory: a struct and a row of five structs. -/
import Derived.Test.YtfaipapaiobgcaaPrimY
namespace Go.Proofs.Ytfaipapaiobgcaa.M
open Go.RowKit Go.Maps Go.ChangeMaps Go.Proofs.YtfaipapaiobgcaaW.PrintWords Go.Proofs.YtfaipapaiobgcaaW.PrintLast Go.Proofs.YtfaipapaiobgcaaW.PrintMore Go.Proofs.Ytfaipapaiobgcaa.PPrimPlays
set_option linter.unusedVariables false
set_option linter.unusedSimpArgs false
def encC (o : Option Pe) (c : Nat) : Value := match o with
  | none => if c < 4 then .bool false else if c = 4 then .int .u64 0 else .int .i64 0
  | some p => if c = 0 then .bool true else if c = 1 then .bool p.i else if c = 2 then .bool p.o else if c = 3 then .bool p.a else if c = 4 then .int .u64 p.t else .int .i64 p.h
structure XA (w : World) (X Y : Nat) (me rv : Int) (f : PF) : Prop where
  hd : w.heap[X]? = some (.cells #[.int .i64 me, .int .u64 rv, .slice (some ⟨Y, 0, none⟩) 5 5, .bool false] 48 (0, 0))
  bl : ∃ cs, w.heap[Y]? = some (.cells cs 45 (0, 0)) ∧ cs.size = 30 ∧ ∀ n : Nat, n < 5 → ∀ c : Nat, c < 6 → cs[n * 6 + c]? = some (encC (f n) c)
theorem XA.cell {w : World} {X Y : Nat} {me rv : Int} {f : PF} (h : XA w X Y me rv f) (n c : Nat) (hn : n < 5) (hc : c < 6) : w.cell? ⟨Y, n * 6 + c, none⟩ = some (encC (f n) c) ∧ w.frozen? ⟨Y, n * 6 + c, none⟩ = false := by
  obtain ⟨cs, h1, h2, h3⟩ := h.bl
  exact ⟨(blk_cell h1 _).trans (h3 n hn c hc), blk_frozen h1 _⟩
theorem XA.ne {w : World} {X Y : Nat} {me rv : Int} {f : PF} (h : XA w X Y me rv f) : X ≠ Y := fun e => by
  obtain ⟨cs, h1, _⟩ := h.bl
  have := h.hd
  rw [e, h1] at this; cases this
theorem XA.old {w w' : World} {X Y : Nat} {me rv : Int} {f : PF} (h : XA w X Y me rv f) (ho : ∀ k, k < w.heap.size → (k = X ∨ k = Y) → w'.heap[k]? = w.heap[k]?) : XA w' X Y me rv f := by
  obtain ⟨cs, h1, h2⟩ := h.bl
  exact ⟨(ho X (blk_lt h.hd) (.inl rfl)).trans h.hd, cs, (ho Y (blk_lt h1) (.inr rfl)).trans h1, h2⟩
theorem XA.drewN {w : World} {X Y : Nat} {me rv : Int} {f : PF} (h : XA w X Y me rv f) (n : Nat) : XA (w.drewN n) X Y me rv f := h.old fun _ _ _ => rfl
theorem XA.alloc {w : World} {X Y : Nat} {me rv : Int} {f : PF} (h : XA w X Y me rv f) (o : Obj) : XA (w.alloc o) X Y me rv f := h.old fun k hk _ => Below.heap_alloc w o k hk
theorem XA.below {w w' : World} {X Y : Nat} {me rv : Int} {f : PF} (h : XA w X Y me rv f) (hb : Below w.heap.size w w') : XA w' X Y me rv f := h.old fun k hk _ => hb.block k hk
theorem XA.set {w : World} {X Y : Nat} {me rv : Int} {f f' : PF} (h : XA w X Y me rv f) (n c : Nat) (hn : n < 5) (hc : c < 6) (v : Value)
    (hf : ∀ m : Nat, m < 5 → ∀ d : Nat, d < 6 → encC (f' m) d = if m = n ∧ d = c then v else encC (f m) d) : XA (w.setCell ⟨Y, n * 6 + c, none⟩ v) X Y me rv f' := by
  obtain ⟨cs, h1, h2, h3⟩ := h.bl
  refine ⟨(Below.heap_setCell w _ _ X h.ne).trans h.hd, cs.setIfInBounds (n * 6 + c) v, blk_set h1 _ _, by simp [h2], fun m hm d hd => ?_⟩
  rw [hf m hm d hd, Array.getElem?_setIfInBounds]
  by_cases he : m = n ∧ d = c
  · rw [if_pos he, if_pos (by rw [he.1, he.2]), if_pos (by omega)]
  · rw [if_neg he, if_neg (by omega)]
    exact h3 m hm d hd
theorem XA.rev {w : World} {X Y : Nat} {me rv : Int} {f : PF} (h : XA w X Y me rv f) (rv' : Int) : XA (w.setCell ⟨X, 1, none⟩ (.int .u64 rv')) X Y me rv' f := by
  obtain ⟨cs, h1, h2⟩ := h.bl
  exact ⟨blk_put h.hd 1 _ rfl, cs, (Below.heap_setCell w _ _ Y h.ne.symm).trans h1, h2⟩
def setO (f : PF) (n : Nat) (o : Option Pe) : PF := fun k => if k = (n : Int) then o else f k
theorem setO_self {f : PF} {n : Nat} {o : Option Pe} (h : f n = o) : setO f n o = f := by
  funext k; unfold setO; split
  · rename_i e; rw [e, h]
  · rfl
theorem setO_same (f : PF) (n : Nat) (o : Option Pe) : setO f n o (n : Int) = o := by unfold setO; rw [if_pos rfl]
theorem setO_twice (f : PF) (n : Nat) (o o' : Option Pe) : setO (setO f n o) n o' = setO f n o' := by funext k; unfold setO; split <;> rfl
theorem XA.one {w : World} {X Y : Nat} {me rv : Int} {f : PF} (h : XA w X Y me rv f) (n c : Nat) (hn : n < 5) (hc : c < 6) (v : Value) (o : Option Pe)
    (hf : ∀ d : Nat, d < 6 → encC o d = if d = c then v else encC (f n) d) : XA (w.setCell ⟨Y, n * 6 + c, none⟩ v) X Y me rv (setO f n o) := by
  refine h.set n c hn hc v fun m hm d hd => ?_
  unfold setO
  by_cases he : m = n
  · subst he
    rw [if_pos rfl, hf d hd]
    by_cases hdc : d = c
    · rw [if_pos hdc, if_pos ⟨rfl, hdc⟩]
    · rw [if_neg hdc, if_neg (fun e => hdc e.2)]
  · rw [if_neg (by omega), if_neg (fun e => he e.1)]
theorem d6 {d : Nat} (h : d < 6) : d = 0 ∨ d = 1 ∨ d = 2 ∨ d = 3 ∨ d = 4 ∨ d = 5 := by omega
theorem XA.set1 {w : World} {X Y : Nat} {me rv : Int} {f : PF} (h : XA w X Y me rv f) {n : Nat} (hn : n < 5) {p : Pe} (hp : f n = some p) (b : Bool) : XA (w.setCell ⟨Y, n * 6 + 1, none⟩ (.bool b)) X Y me rv (setO f n (some { p with i := b })) :=
  h.one n 1 hn (by omega) _ _ fun d hd => by rw [hp]; rcases d6 hd with rfl | rfl | rfl | rfl | rfl | rfl <;> rfl
theorem XA.set2 {w : World} {X Y : Nat} {me rv : Int} {f : PF} (h : XA w X Y me rv f) {n : Nat} (hn : n < 5) {p : Pe} (hp : f n = some p) (b : Bool) : XA (w.setCell ⟨Y, n * 6 + 2, none⟩ (.bool b)) X Y me rv (setO f n (some { p with o := b })) :=
  h.one n 2 hn (by omega) _ _ fun d hd => by rw [hp]; rcases d6 hd with rfl | rfl | rfl | rfl | rfl | rfl <;> rfl
theorem XA.set3 {w : World} {X Y : Nat} {me rv : Int} {f : PF} (h : XA w X Y me rv f) {n : Nat} (hn : n < 5) {p : Pe} (hp : f n = some p) (b : Bool) : XA (w.setCell ⟨Y, n * 6 + 3, none⟩ (.bool b)) X Y me rv (setO f n (some { p with a := b })) :=
  h.one n 3 hn (by omega) _ _ fun d hd => by rw [hp]; rcases d6 hd with rfl | rfl | rfl | rfl | rfl | rfl <;> rfl
theorem XA.set4 {w : World} {X Y : Nat} {me rv : Int} {f : PF} (h : XA w X Y me rv f) {n : Nat} (hn : n < 5) {p : Pe} (hp : f n = some p) (b : Int) : XA (w.setCell ⟨Y, n * 6 + 4, none⟩ (.int .u64 b)) X Y me rv (setO f n (some { p with t := b })) :=
  h.one n 4 hn (by omega) _ _ fun d hd => by rw [hp]; rcases d6 hd with rfl | rfl | rfl | rfl | rfl | rfl <;> rfl
theorem XA.set5 {w : World} {X Y : Nat} {me rv : Int} {f : PF} (h : XA w X Y me rv f) {n : Nat} (hn : n < 5) {p : Pe} (hp : f n = some p) (b : Int) : XA (w.setCell ⟨Y, n * 6 + 5, none⟩ (.int .i64 b)) X Y me rv (setO f n (some { p with h := b })) :=
  h.one n 5 hn (by omega) _ _ fun d hd => by rw [hp]; rcases d6 hd with rfl | rfl | rfl | rfl | rfl | rfl <;> rfl
theorem XA.fill {w : World} {X Y : Nat} {me rv : Int} {f : PF} (h : XA w X Y me rv f) {n : Nat} (hn : n < 5) (o : Option Pe) :
    XA ((((((w.setCell ⟨Y, n * 6, none⟩ (encC o 0)).setCell ⟨Y, n * 6 + 1, none⟩ (encC o 1)).setCell ⟨Y, n * 6 + 2, none⟩ (encC o 2)).setCell ⟨Y, n * 6 + 3, none⟩ (encC o 3)).setCell ⟨Y, n * 6 + 4, none⟩ (encC o 4)).setCell ⟨Y, n * 6 + 5, none⟩ (encC o 5)) X Y me rv (setO f n o) := by
  obtain ⟨cs, h1, h2, h3⟩ := h.bl
  have hX : ∀ (W : World) (i : Nat) (v : Value), (W.setCell ⟨Y, i, none⟩ v).heap[X]? = W.heap[X]? := fun W i v => Below.heap_setCell W _ _ X h.ne
  refine ⟨by rw [hX, hX, hX, hX, hX, hX]; exact h.hd, _, blk_set (blk_set (blk_set (blk_set (blk_set (blk_set h1 _ _) _ _) _ _) _ _) _ _) _ _, by simp [h2], fun m hm d hd => ?_⟩
  unfold setO
  simp only [Array.getElem?_setIfInBounds, Array.size_setIfInBounds, h2]
  by_cases he : m = n
  · subst he
    rw [if_pos rfl]
    rcases d6 hd with rfl | rfl | rfl | rfl | rfl | rfl <;> simp <;> omega
  · rw [if_neg (show ¬ ((m : Int) = (n : Int)) by omega), if_neg (by omega), if_neg (by omega), if_neg (by omega), if_neg (by omega), if_neg (by omega), if_neg (by omega)]
    exact h3 m hm d hd
abbrev KX (X Y : Nat) := Kp (fun k => k = X ∨ k = Y)
theorem KX.put {X Y : Nat} {w a : World} (h : KX X Y w a) (i : Nat) (v : Value) : KX X Y w (a.setCell ⟨Y, i, none⟩ v) := Kp.setCell h (.inr rfl) v
/-- what the reference's Table makes of one -/
def tabX (me rv : Int) (xs : List Int) (f : PF) : PF := fun k => if k = me then f k else match f k with
  | none => if k ∈ xs then some ⟨true, false, 0, false, 0⟩ else none
  | some p => updP xs rv k p
def upTo (n : Nat) (g f : PF) : PF := fun k => if 0 ≤ k ∧ k < (n : Int) then g k else f k
theorem upTo_0 (g f : PF) : upTo 0 g f = f := by funext k; unfold upTo; rw [if_neg (by omega)]
theorem upTo_succ (n : Nat) (g f : PF) : upTo (n + 1) g f = setO (upTo n g f) n (g n) := by
  funext k
  unfold upTo setO
  by_cases h1 : k = (n : Int)
  · rw [if_pos (by omega), if_pos h1, h1]
  · rw [if_neg h1]
    by_cases h2 : 0 ≤ k ∧ k < (n : Int)
    · rw [if_pos (by omega)]
      simp only [if_pos h2]
    · rw [if_neg (by omega)]
      simp only [if_neg h2]
theorem upTo_at (n : Nat) (g f : PF) : upTo n g f (n : Int) = f n := by unfold upTo; rw [if_neg (by omega)]
theorem upTo_skip {n : Nat} {g f : PF} (h : g n = f n) : upTo (n + 1) g f = upTo n g f := by rw [upTo_succ]; exact setO_self ((upTo_at n g f).trans h.symm)
theorem two_sets {w : World} {X Y : Nat} {me rv : Int} {f : PF} (h : XA w X Y me rv f) {n : Nat} (hn : n < 5) {p : Pe} (hp : f n = some p) (b : Bool) :
    XA ((w.setCell ⟨Y, n * 6 + 1, none⟩ (.bool b)).setCell ⟨Y, n * 6 + 2, none⟩ (.bool false)) X Y me rv (setO f n (some { p with i := b, o := false })) := by
  have q := (h.set1 hn hp b).set2 hn (setO_same _ _ _) false
  rw [setO_twice] at q
  exact q
set_option maxHeartbeats 4000000 in
theorem xtable_any {w : World} {X Y : Nat} {me rv : Int} {f : PF} (h : XA w X Y me rv f) {A : Option Addr} {c : Nat} {xs : List Int} (hI : IntsAt w (fun k => k = X ∨ k = Y) A c xs) (rv' : Int) (hr : rv ≤ rv') :
    Calls Try.prog 28 #[pt X, .int .u64 rv', .slice A xs.length c] w fun e w' => e = .returned (.tuple #[]) ∧ XA w' X Y me rv' (upTo 5 (tabX me rv' xs f) f) ∧ KX X Y w w' := by
  have c1 : w.cell? ⟨X, 1, none⟩ = some (.int .u64 rv) := blk_cell h.hd 1
  have f1 : w.frozen? ⟨X, 1, none⟩ = false := blk_frozen h.hd 1
  have e0 : decide (rv' < rv) = false := decide_eq_false (by omega)
  have HI := Aside0.mk hI
  have H0 := Aside0.mk (h.rev rv')
  have HK0 := Aside0.mk ((Kp.refl (fun k => k = X ∨ k = Y) w).setCell (p := ⟨X, 1, none⟩) (.inl rfl) (.int .u64 rv'))
  clear h hI
  go_enter Try.func28, Try.ntmps28
  go_wp2
  clear c1 f1 e0
  go_loopw [6] (fun i wq => ∃ n : Nat, i = .int .i64 n ∧ n ≤ 5 ∧ Aside0 (XA wq X Y me rv' (upTo n (tabX me rv' xs f) f)) ∧ Aside0 (KX X Y w wq)) (fun i _ => 5 - (intOf i).toNat)
  case atStart => exact ⟨0, rfl, by omega, ⟨by rw [upTo_0]; exact H0.out⟩, HK0⟩
  case round =>
    obtain ⟨n, rfl, hn, HX, HK⟩ := hrel
    have c0 : wr.cell? ⟨X, 0, none⟩ = some (.int .i64 me) := blk_cell HX.out.hd 0
    have c2 : wr.cell? ⟨X, 2, none⟩ = some (.slice (some ⟨Y, 0, none⟩) 5 5) := blk_cell HX.out.hd 2
    by_cases hlt : n < 5
    · have hIw := HI.out.kp HK.out
      have HIW := Aside0.mk hIw
      clear hIw
      have hcells := fun c hc => HX.out.cell n c hlt hc
      have hcur : upTo n (tabX me rv' xs f) f (n : Int) = f (n : Int) := by unfold upTo; rw [if_neg (by omega)]
      rw [hcur] at hcells
      have HCUR := Aside0.mk hcur
      clear hcur
      have x0 := hcells 0 (by omega)
      have x1 := hcells 1 (by omega)
      have x2 := hcells 2 (by omega)
      have x3 := hcells 3 (by omega)
      have x4 := hcells 4 (by omega)
      have x5 := hcells 5 (by omega)
      clear hcells
      by_cases hme : (n : Int) = me
      · have b1 : ((n : Int) == me) = true := by simpa using hme
        have HM := Aside0.mk hme
        clear hme x0 x1 x2 x3 x4 x5
        go_wp2_with fail
        refine (in_any HIW.out.rd HIW.out.cap HIW.out.len (n : Int)).mono ?_
        rintro e w2 ⟨rfl, nd, rfl⟩
        go_wp2
        go_roundw
        case rel => exact ⟨n + 1, by go_num, by omega, ⟨by rw [upTo_skip (show tabX me rv' xs f (n : Int) = f n by unfold tabX; rw [if_pos HM.out])]; exact HX.out.drewN _⟩, ⟨HK.out.drewN _⟩⟩
        case measure => simp [intOf]; omega
      · have b1 : ((n : Int) == me) = false := by simpa using hme
        have HM := Aside0.mk hme
        clear hme
        generalize hnow : decide ((n : Int) ∈ xs) = now
        cases hfn : f (n : Int) with
        | none =>
          rw [hfn] at x0 x1 x2 x3 x4 x5
          simp only [encC] at x0 x1 x2 x3 x4 x5
          obtain ⟨x0, y0⟩ := x0
          replace y0 : wr.frozen? ⟨Y, n * 6, none⟩ = false := y0
          obtain ⟨x1, y1⟩ := x1
          obtain ⟨x2, y2⟩ := x2
          obtain ⟨x3, y3⟩ := x3
          obtain ⟨x4, y4⟩ := x4
          obtain ⟨x5, y5⟩ := x5
          have HFN := Aside0.mk hfn
          clear hfn
          have HNOW := Aside0.mk hnow
          clear hnow
          simp at x0 x1 x2 x3 x4 x5
          cases now
          · go_wp2_with fail
            refine (in_any HIW.out.rd HIW.out.cap HIW.out.len (n : Int)).mono ?_
            rintro e w2 ⟨rfl, nd, rfl⟩
            rw [HNOW.out]
            go_wp2
            go_roundw
            case rel =>
              refine ⟨n + 1, by go_num, by omega, ⟨?_⟩, ⟨HK.out.drewN _⟩⟩
              rw [upTo_skip (show tabX me rv' xs f (n : Int) = f n by unfold tabX; rw [if_neg HM.out, HFN.out]; dsimp only; rw [if_neg (of_decide_eq_false HNOW.out)])]; exact HX.out.drewN _
            case measure => simp [intOf]; omega
          · go_wp2_with fail
            refine (in_any HIW.out.rd HIW.out.cap HIW.out.len (n : Int)).mono ?_
            rintro e w2 ⟨rfl, nd, rfl⟩
            rw [HNOW.out]
            go_wp2
            go_roundw
            case rel =>
              refine ⟨n + 1, by go_num, by omega, ⟨?_⟩, ⟨KX.put (KX.put (KX.put (KX.put (KX.put (KX.put (HK.out.drewN _) _ _) _ _) _ _) _ _) _ _) _ _⟩⟩
              rw [upTo_succ, show tabX me rv' xs f (n : Int) = some ⟨true, false, 0, false, 0⟩ by unfold tabX; rw [if_neg HM.out, HFN.out]; dsimp only; rw [if_pos (of_decide_eq_true HNOW.out)]]
              exact (HX.out.drewN _).fill hlt (some ⟨true, false, 0, false, 0⟩)
            case measure => simp [intOf]; omega
        | some p =>
          rw [hfn] at x0 x1 x2 x3 x4 x5
          simp only [encC] at x0 x1 x2 x3 x4 x5
          obtain ⟨x0, y0⟩ := x0
          replace y0 : wr.frozen? ⟨Y, n * 6, none⟩ = false := y0
          obtain ⟨x1, y1⟩ := x1
          obtain ⟨x2, y2⟩ := x2
          obtain ⟨x3, y3⟩ := x3
          obtain ⟨x4, y4⟩ := x4
          obtain ⟨x5, y5⟩ := x5
          have HFN := Aside0.mk hfn
          clear hfn
          have HNOW := Aside0.mk hnow
          clear hnow
          simp at x0 x1 x2 x3 x4 x5
          have hg : tabX me rv' xs f (n : Int) = if p.i = true ∧ now = false then none else some { p with i := now, o := p.o && !now && (p.t == rv') } := by
            unfold tabX
            rw [if_neg HM.out, HFN.out]
            dsimp only
            unfold updP
            have e1 : ((n : Int) ∉ xs) ↔ (now = false) := by rw [← HNOW.out]; simp
            simp only [HNOW.out, e1]
          have HG := Aside0.mk hg
          clear hg
          by_cases hdel : p.i = true ∧ now = false
          · have hG2 := HG.out
            rw [if_pos hdel] at hG2
            have HG2 := Aside0.mk hG2
            clear hG2
            obtain ⟨hi, hno⟩ := hdel
            subst hno
            rw [hi] at x1
            clear hi
            go_wp2_with fail
            refine (in_any HIW.out.rd HIW.out.cap HIW.out.len (n : Int)).mono ?_
            rintro e w2 ⟨rfl, nd, rfl⟩
            rw [HNOW.out]
            go_wp2
            go_roundw
            case rel =>
              refine ⟨n + 1, by go_num, by omega, ⟨?_⟩, ⟨KX.put (KX.put (KX.put (KX.put (KX.put (KX.put (HK.out.drewN _) _ _) _ _) _ _) _ _) _ _) _ _⟩⟩
              rw [upTo_succ, HG2.out]
              exact (HX.out.drewN _).fill hlt none
            case measure => simp [intOf]; omega
          · have hG2 := HG.out
            rw [if_neg hdel] at hG2
            have HG2 := Aside0.mk hG2
            have HD := Aside0.mk hdel
            clear hG2 hdel
            have HF0 : Aside0 (upTo n (tabX me rv' xs f) f (n : Int) = some p) := ⟨(upTo_at n _ f).trans HFN.out⟩
            cases hi : p.i <;> cases now <;> cases ht : (p.t == rv')
            all_goals try (exfalso; refine HD.out (And.intro ?_ ?_) <;> first | assumption | rfl; done)
            all_goals
              rw [hi] at x1
              have HHT := Aside0.mk ht
              have ht2 : (p.t != rv') = !(p.t == rv') := rfl
              rw [ht] at ht2
              simp only [Bool.not_true, Bool.not_false] at ht2
              clear hi
              go_wp2_with fail
              refine (in_any HIW.out.rd HIW.out.cap HIW.out.len (n : Int)).mono ?_
              rintro e w2 ⟨rfl, nd, rfl⟩
              rw [HNOW.out]
              go_wp2
              go_roundw
              case rel =>
                first
                  | (refine ⟨n + 1, by go_num, by omega, ⟨?_⟩, ⟨KX.put (KX.put (HK.out.drewN _) _ _) _ _⟩⟩
                     rw [upTo_succ, HG2.out, HHT.out]
                     have q := two_sets (HX.out.drewN nd) hlt HF0.out
                     simp only [Bool.not_true, Bool.not_false, Bool.and_false, Bool.false_and]
                     exact q _)
                  | (refine ⟨n + 1, by go_num, by omega, ⟨?_⟩, ⟨KX.put (HK.out.drewN _) _ _⟩⟩
                     rw [upTo_succ, HG2.out, HHT.out]
                     have q := (HX.out.drewN nd).set1 hlt HF0.out false
                     simp only [Bool.not_true, Bool.not_false, Bool.and_true, Bool.true_and]
                     exact q)
              case measure => simp [intOf]; omega
    · have h5 : n = 5 := by omega
      subst h5
      go_wp2
      go_end0
      exact ⟨rfl, HX.out, HK.out⟩
end Go.Proofs.Ytfaipapaiobgcaa.M
