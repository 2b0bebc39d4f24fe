/- The law of pages: its contracts, its words. -/
import Derived.Test.YtaediecdpgndjaaPagesA
namespace Go.Proofs.Ytaediecdpgndjaa.M
open Go.RowKit Go.Proofs.YtaediecdpgndjaaW.PrintWords Go.Proofs.YtaediecdpgndjaaW.PrintLast Go.Proofs.YtaediecdpgndjaaW.PrintMore Go.Proofs.Ytaediecdpgndjaa.PMergePages Go.Proofs.Ytaediecdpgndjaa.Pure
set_option linter.unusedVariables false
set_option linter.unusedSimpArgs false
abbrev docP (x : PMergePages.S31) : Value := .agg #[.string x.f0, .int .i64 x.f1, .string x.f2]
theorem awake_p (w : World) : Calls Try.prog 7 #[] w fun e w' => e = .returned (.bool true) ∧ Below w.heap.size w w' := fascinelaw17_awake.calls true w awake_eq
theorem rises_p {w : World} {A : Option Addr} {c : Nat} {l : List PMergePages.S31} (hr : Kd.C PMergePages.k31 w A l.length l) (hc : l.length ≤ c) (hl : l.length ≤ 1000) : Calls Try.prog 9 #[.slice A l.length c] w fun e w' => e = .returned (.bool (ordS l)) ∧ Below w.heap.size w w' := by
  obtain ⟨K, hK⟩ := rises_ev l (by omega)
  exact fascinelaw17_rises.calls K A c l _ w hr hc (hK K (Nat.le_refl _))
theorem put_p {w : World} {A : Option Addr} {c : Nat} {l : List PMergePages.S31} (hr : Kd.C PMergePages.k31 w A l.length l) (hc : l.length ≤ c) (hl : l.length ≤ 1000) (x : PMergePages.S31) : Calls Try.prog 10 #[.slice A l.length c, docP x] w fun e w' => ∃ v, e = .returned v ∧ Kd.R PMergePages.k31 31 w' w.heap.size (fun _ => True) v (Mg.put ltS l x) ∧ Below w.heap.size w w' := by
  obtain ⟨K, hK⟩ := put_ev l x (by omega)
  exact fascineref07_Put.calls K A c l _ _ _ _ w hr hc (hK K (Nat.le_refl _))
theorem ahead_p (x y : PMergePages.S31) (w : World) : Calls Try.prog 12 #[docP x, docP y] w fun e w' => e = .returned (.bool (ltS x y)) ∧ Below w.heap.size w w' := fascineref07_Ahead.calls _ _ _ _ _ _ _ w (Pure.ahead_eq x y)
theorem same_p {w : World} {A A' : Option Addr} {c c' : Nat} {l : List PMergePages.S31} (hr : Kd.C PMergePages.k31 w A l.length l) (hc : l.length ≤ c) (hr' : Kd.C PMergePages.k31 w A' l.length l) (hc' : l.length ≤ c') (hl : l.length ≤ 1000) : Calls Try.prog 11 #[.slice A l.length c, .slice A' l.length c'] w fun e w' => e = .returned (.bool true) ∧ Below w.heap.size w w' := by
  obtain ⟨K, hK⟩ := same_ev l (by omega)
  refine (fascineref07_Same.calls K A c l A' c' l _ w hr hc hr' hc' (hK K (Nat.le_refl _))).mono ?_
  rintro e w' ⟨rfl, hd⟩
  exact ⟨rfl, hd.below⟩
theorem merge_p {w : World} {A : Option Addr} {c : Nat} {rs : List (List PMergePages.S31)} (hr : Kd.C (Kd.slice 31 PMergePages.k31) w A rs.length rs) (hc : rs.length ≤ c) (hl : rs.length ≤ 1000) (hf : rs.flatten.length ≤ 1000) (ho : ∀ x ∈ rs, ordS x = true) (n : Nat) : Calls Try.prog 8 #[.slice A rs.length c, .int .i64 (n : Int)] w fun e w' => ∃ v, e = .returned (.tuple #[v, .bool (decide ((n : Int) < ((sl rs).length : Int))), .int .i64 0]) ∧ Kd.R PMergePages.k31 31 w' w.heap.size (fun _ => True) v ((sl rs).take n) ∧ Below w.heap.size w w' :=
  merge_Merge.calls A c rs _ _ _ _ w hr hc (by rw [merge_ev hl (by omega), mergeS_ok ho])
theorem behind_p {w : World} {A : Option Addr} {c : Nat} {l : List PMergePages.S31} (hr : Kd.C PMergePages.k31 w A l.length l) (hc : l.length ≤ c) (hl : l.length ≤ 1000) (x : PMergePages.S31) : Calls Try.prog 13 #[.slice A l.length c, .int .i64 x.f1, .string x.f0] w fun e w' => ∃ v, e = .returned v ∧ Kd.R PMergePages.k31 31 w' w.heap.size (fun _ => True) v (l.filter (ltS x)) ∧ Below w.heap.size w w' := by
  obtain ⟨K, hK⟩ := behind_ev l x.f1 x.f0 (by omega)
  rw [plc_eq] at hK
  exact merge_Behind.calls K A c l _ _ _ w hr hc (hK K (Nat.le_refl _))
/-- the rest: the lists as they came in, or rows of the law's own -/
def RestAt (w0 w : World) (g : Value) (v : Value) (rs : List (List PMergePages.S31)) : Prop :=
  (∃ A c, v = .slice A rs.length c ∧ rs.length ≤ c ∧ Kd.C (Kd.slice 31 PMergePages.k31) w0 A rs.length rs) ∨ Kd.R (Kd.slice 31 PMergePages.k31) 24 w w0.heap.size (fun k => True ∧ some k ≠ g.ownBlock) v rs
theorem RestAt.reads {w0 w : World} {g v : Value} {rs : List (List PMergePages.S31)} (h : RestAt w0 w g v rs) (hb : Below w0.heap.size w0 w) : ∃ A c, v = .slice A rs.length c ∧ rs.length ≤ c ∧ Kd.C (Kd.slice 31 PMergePages.k31) w A rs.length rs := by
  rcases h with ⟨A, c, e, hl, hc⟩ | h
  · exact ⟨A, c, e, hl, Kd.C_below hc hb⟩
  · exact Kd.R_reads h
theorem RestAt.below {w0 w w' : World} {g v : Value} {rs : List (List PMergePages.S31)} (h : RestAt w0 w g v rs) (hb : Below w.heap.size w w') : RestAt w0 w' g v rs := by
  rcases h with h | h
  · exact .inl h
  · exact .inr (Kd.R_below h hb)
theorem RestAt.after {w0 w w' : World} {g g' v : Value} {rs : List (List PMergePages.S31)} (h : RestAt w0 w g v rs) (hg : w.grownBy w' g.ownBlock) (hat : g'.ownBlock = g.ownBlock ∨ ∃ b, g'.ownBlock = some b ∧ w.heap.size ≤ b) : RestAt w0 w' g' v rs := by
  rcases h with h | h
  · exact .inl h
  · exact .inr (Kd.R_after h hg hat)
theorem k31p_E : ∀ q, q ∈ 31 :: PMergePages.k31.E → q = 31 := fun q hq => by simpa using (show q ∈ [31] from hq)
def lenP : Value → Nat
  | .slice _ n _ => n
  | _ => 0
/-- what is left of the pages -/
structure PagesLeft (w wb wq : World) (all : List PMergePages.S31) (g r : Value) (got : List PMergePages.S31) (rs : List (List PMergePages.S31)) : Prop where
  hg : Kd.R PMergePages.k31 31 wq wb.heap.size (fun _ => True) g got
  hbb : Below wb.heap.size wb wq
  hr : RestAt w wq g r rs
  he : all = got ++ sl rs
  ho : ∀ x ∈ rs, ordS x = true
  hn : rs.length ≤ 8
  hb : Below w.heap.size w wq
def SixP (w : World) (p : Addr) (y : PMergePages.S31) (q : Addr) (z : PMergePages.S31) : Prop := (w.cell? p = some (.string y.f0) ∧ w.cell? ⟨p.block, p.off + 1, none⟩ = some (.int .i64 y.f1) ∧ w.cell? ⟨p.block, p.off + 2, none⟩ = some (.string y.f2)) ∧ (w.cell? q = some (.string z.f0) ∧ w.cell? ⟨q.block, q.off + 1, none⟩ = some (.int .i64 z.f1) ∧ w.cell? ⟨q.block, q.off + 2, none⟩ = some (.string z.f2))
theorem SixP.below {w w' : World} {p : Addr} {y : PMergePages.S31} {q : Addr} {z : PMergePages.S31} (h : SixP w p y q z) (hb : Below w.heap.size w w') : SixP w' p y q z := by
  have e : ∀ {p : Addr} {v : Value}, w.cell? p = some v → w'.cell? p = some v := fun {p v} hp => (hb.cell (World.block_lt_of_cell? w p hp)).trans hp
  obtain ⟨⟨a, b, c⟩, a', b', c'⟩ := h
  exact ⟨⟨e a, e b, e c⟩, e a', e b', e c'⟩
theorem three_keep {w w' : World} {p q r : Addr} {a b c : Value} (h : w.cell? p = some a ∧ w.cell? q = some b ∧ w.cell? r = some c) (hb : Below w.heap.size w w') : w'.cell? p = some a ∧ w'.cell? q = some b ∧ w'.cell? r = some c := by
  have e : ∀ {p : Addr} {v : Value}, w.cell? p = some v → w'.cell? p = some v := fun {p v} hp => (hb.cell (World.block_lt_of_cell? w p hp)).trans hp
  exact ⟨e h.1, e h.2.1, e h.2.2⟩
theorem flat_le_p : ∀ {l : List (List PMergePages.S31)} {x : List PMergePages.S31}, x ∈ l → x.length ≤ l.flatten.length
  | y :: l, x, h => by
    rw [List.flatten_cons, List.length_append]
    rcases List.mem_cons.1 h with h | h
    · rw [h]; omega
    · have := flat_le_p h; omega
theorem flat_bound : ∀ {L : List (List PMergePages.S31)}, (∀ x ∈ L, x.length ≤ 30) → L.flatten.length ≤ L.length * 30
  | [], _ => by simp
  | x :: L, h => by
    have h1 := h x (List.mem_cons_self ..)
    have h2 := flat_bound (L := L) fun y hy => h y (List.mem_cons_of_mem _ hy)
    rw [List.flatten_cons, List.length_append, List.length_cons, Nat.succ_mul]; omega
end Go.Proofs.Ytaediecdpgndjaa.M
