/- A row that is copied whole, and one element of it laid anew. -/
import Derived.Maps.AppendAt
import Derived.Deep.AppendLies
import Derived.Test.YtkoaeiiaagipeaaMetaB
namespace Go.Proofs.Ytkoaeiiaagipeaa.M
open Go.RowKit Go.Proofs.YtkoaeiiaagipeaaW.PrintWords Go.Proofs.YtkoaeiiaagipeaaW.PrintLast Go.Proofs.YtkoaeiiaagipeaaW.PrintMore Go.Proofs.Ytkoaeiiaagipeaa.PMetaApplies Go.Proofs.Ytkoaeiiaagipeaa.Pure
set_option linter.unusedVariables false
set_option linter.unusedSimpArgs false
structure Cells42 (w : World) (ad : Addr) (l : List S42) (news : List Value) : Prop where
  len : news.length = l.length * 4
  cell : ∀ j u, news[j]? = some u → w.cell? (ad.add j) = some u
  one : ∀ u ∈ news, u.oneCell' = true
  k : ∀ j p, l[j]? = some p → k42.K w p ((news.drop (j * 4)).take 4)
theorem C_cells {w : World} {ad : Addr} {l : List S42} (h : Kd.C k42 w (some ad) l.length l) (hp : 0 < l.length) : ∃ news, Cells42 w ad l news := by
  obtain ⟨ad', e, hc⟩ := h.2.2 hp
  cases e
  have key : ∀ m, m ≤ l.length → ∃ news : List Value, news.length = m * 4 ∧ (∀ j u, news[j]? = some u → w.cell? (ad.add j) = some u) ∧ (∀ u ∈ news, u.oneCell' = true) ∧ ∀ j p, j < m → l[j]? = some p → k42.K w p ((news.drop (j * 4)).take 4) := by
    intro m
    induction m with
    | zero => intro _; exact ⟨[], rfl, fun j u h => by simp at h, fun u h => by simp at h, fun j p h => by omega⟩
    | succ m ih =>
      intro hm
      obtain ⟨news, h1, h2, h3, h4⟩ := ih (by omega)
      obtain ⟨c, g1, g2, g3⟩ := hc m _ (List.getElem?_eq_getElem (by omega))
      have g1 : c.length = 4 := g1
      refine ⟨news ++ c, by rw [List.length_append, h1, g1]; omega, fun j u hj => ?_, fun u hu => ?_, fun j p hj hlp => ?_⟩
      · rcases Nat.lt_or_ge j news.length with hl | hl
        · rw [List.getElem?_append_left hl] at hj; exact h2 j u hj
        · rw [List.getElem?_append_right hl] at hj
          have := g3 _ u hj
          rw [show m * k42.sz + (j - news.length) = j by have : k42.sz = 4 := rfl; rw [this]; omega] at this
          exact this
      · rcases List.mem_append.1 hu with h | h
        · exact h3 u h
        · exact k42.K_one g2 u h
      · by_cases hjm : j = m
        · subst hjm
          rw [List.getElem?_eq_getElem (by omega)] at hlp
          cases hlp
          rw [← h1, List.drop_left, ← g1, List.take_length]
          exact g2
        · have hj' : j < m := by omega
          have hle : j * 4 + 4 ≤ news.length := by omega
          rw [List.drop_append_of_le_length (by omega), List.take_append_of_le_length (by rw [List.length_drop]; omega)]
          exact h4 j p hj' hlp
  obtain ⟨news, h1, h2, h3, h4⟩ := key l.length (Nat.le_refl _)
  exact ⟨news, h1, h2, h3, fun j p hj => h4 j p (List.getElem?_eq_some_iff.1 hj).1 hj⟩
theorem Cells42.below {w w' : World} {ad : Addr} {l : List S42} {news : List Value} (h : Cells42 w ad l news) (hb : Below w.heap.size w w') : Cells42 w' ad l news :=
  ⟨h.len, fun j u hj => (hb.cell (World.block_lt_of_cell? w _ (h.cell j u hj))).trans (h.cell j u hj), h.one, fun j p hj => k42.K_below hb (h.k j p hj)⟩
abbrev four (w : World) (g o : Nat) (a b c d : Value) : World := (((w.setCell ⟨g, o, none⟩ a).setCell ⟨g, o + 1, none⟩ b).setCell ⟨g, o + 2, none⟩ c).setCell ⟨g, o + 3, none⟩ d
theorem four_below {B : Nat} {w0 w : World} (h : Below B w0 w) {g o : Nat} (hg : B ≤ g) (a b c d : Value) : Below B w0 (four w g o a b c d) := (((h.setCell (p := ⟨g, o, none⟩) hg a).setCell (p := ⟨g, o + 1, none⟩) hg b).setCell (p := ⟨g, o + 2, none⟩) hg c).setCell (p := ⟨g, o + 3, none⟩) hg d
theorem four_blk {w : World} {g : Nat} {cs : Array Value} {t : TypeId} (h : w.heap[g]? = some (.cells cs t (0, 0))) (o : Nat) (a b c d : Value) : (four w g o a b c d).heap[g]? = some (.cells ((((cs.setIfInBounds o a).setIfInBounds (o + 1) b).setIfInBounds (o + 2) c).setIfInBounds (o + 3) d) t (0, 0)) := blk_set (blk_set (blk_set (blk_set h _ _) _ _) _ _) _ _
theorem four_far {w : World} {g k : Nat} (o : Nat) (a b c d : Value) (hk : k ≠ g) : (four w g o a b c d).heap[k]? = w.heap[k]? :=
  (Below.heap_setCell _ ⟨g, o + 3, none⟩ _ k hk).trans ((Below.heap_setCell _ ⟨g, o + 2, none⟩ _ k hk).trans ((Below.heap_setCell _ ⟨g, o + 1, none⟩ _ k hk).trans (Below.heap_setCell _ ⟨g, o, none⟩ _ k hk)))
/-- the copied row, one element laid anew: it reads as the list with that one set -/
theorem four_C {W W' : World} {base g m cap : Nat} {l : List S42} {news : List Value} (ho : W.ownsRow base 42 4 (.slice (some ⟨g, 0, none⟩) m cap) m news) (hm : m = l.length) (hc : news.length = l.length * 4) {i : Nat} (hi : i < l.length) {s' : S42} {A' : Option Addr} {c' : Nat}
    (hg : ∀ j p, l[j]? = some p → k42.K W' p ((news.drop (j * 4)).take 4))
    (hs : s'.f3.length ≤ c') (hC : Kd.C (Kd.int .i64) W' A' s'.f3.length s'.f3) (hmax : l.length ≤ 9223372036854775807) (hW : W'.heap[g]? = (four W g (i * 4) (.int .u64 s'.f0) (.int .u64 s'.f1) (.int .i64 s'.f2) (.slice A' s'.f3.length c')).heap[g]?) :
    Kd.C k42 W' (some ⟨g, 0, none⟩) (l.set i s').length (l.set i s') := by
  subst hm
  rcases ho.2 with ⟨h0, _⟩ | ⟨g', cap', cur, he, _, hh, hle, _, hsz, htk⟩
  · cases h0
  obtain ⟨rfl, rfl⟩ : g' = g ∧ cap' = cap := by
    simp only [Value.slice.injEq, Option.some.injEq, Addr.mk.injEq, and_true] at he
    exact ⟨he.1.symm, he.2.2.symm⟩
  have hb := hW.trans (four_blk hh (i * 4) (.int .u64 s'.f0) (.int .u64 s'.f1) (.int .i64 s'.f2) (.slice A' s'.f3.length c'))
  refine ⟨rfl, by rw [List.length_set]; exact hmax, fun _ => ⟨⟨g', 0, none⟩, rfl, fun j p hj => ?_⟩⟩
  have hadd : ∀ q, (⟨g', 0, none⟩ : Addr).add q = ⟨g', q, none⟩ := fun q => by unfold Addr.add; split <;> simp_all
  have hcell : ∀ q v, ((((cur.setIfInBounds (i * 4) (.int .u64 s'.f0)).setIfInBounds (i * 4 + 1) (.int .u64 s'.f1)).setIfInBounds (i * 4 + 2) (.int .i64 s'.f2)).setIfInBounds (i * 4 + 3) (.slice A' s'.f3.length c'))[q]? = some v →
      W'.cell? ((⟨g', 0, none⟩ : Addr).add q) = some v := fun q v hv => by
    rw [hadd]; exact (blk_cell hb q).trans hv
  have hjl : j < l.length := by have := (List.getElem?_eq_some_iff.1 hj).1; rwa [List.length_set] at this
  have hcs : cur.size = cap' * 4 := hsz
  by_cases hji : j = i
  · subst hji
    rw [List.getElem?_set_self hjl] at hj
    cases hj
    refine ⟨[.int .u64 s'.f0, .int .u64 s'.f1, .int .i64 s'.f2, .slice A' s'.f3.length c'], rfl, k42_mk _ s' hs hC, fun q u hq => ?_⟩
    have hk : k42.sz = 4 := rfl
    rw [hk]
    refine hcell _ _ ?_
    have hj4 : j * 4 + 4 ≤ cur.size := by rw [hcs]; omega
    match q, hq with
    | 0, hq =>
      simp only [List.getElem?_cons_zero, Option.some.injEq] at hq; subst hq
      rw [Array.getElem?_setIfInBounds, if_neg (by omega), Array.getElem?_setIfInBounds, if_neg (by omega), Array.getElem?_setIfInBounds, if_neg (by omega), Array.getElem?_setIfInBounds, if_pos (by omega), if_pos (by omega)]
    | 1, hq =>
      simp only [List.getElem?_cons_succ, List.getElem?_cons_zero, Option.some.injEq] at hq; subst hq
      rw [Array.getElem?_setIfInBounds, if_neg (by omega), Array.getElem?_setIfInBounds, if_neg (by omega), Array.getElem?_setIfInBounds, if_pos (by omega), if_pos (by simp; omega)]
    | 2, hq =>
      simp only [List.getElem?_cons_succ, List.getElem?_cons_zero, Option.some.injEq] at hq; subst hq
      rw [Array.getElem?_setIfInBounds, if_neg (by omega), Array.getElem?_setIfInBounds, if_pos (by omega), if_pos (by simp; omega)]
    | 3, hq =>
      simp only [List.getElem?_cons_succ, List.getElem?_cons_zero, Option.some.injEq] at hq; subst hq
      rw [Array.getElem?_setIfInBounds, if_pos (by omega), if_pos (by simp; omega)]
    | q + 4, hq => simp at hq
  · rw [List.getElem?_set_ne (fun e => hji e.symm)] at hj
    have hlen4 : ((news.drop (j * 4)).take 4).length = 4 := by rw [List.length_take, List.length_drop, hc]; omega
    refine ⟨_, hlen4, hg j p hj, fun q u hq => ?_⟩
    have hq4 : q < 4 := by have := (List.getElem?_eq_some_iff.1 hq).1; omega
    have hk : k42.sz = 4 := rfl
    rw [hk]
    refine hcell _ _ ?_
    rw [List.getElem?_take, if_pos hq4, List.getElem?_drop, ← htk, List.getElem?_take, if_pos (by omega)] at hq
    rw [Array.getElem?_setIfInBounds, if_neg (by omega), Array.getElem?_setIfInBounds, if_neg (by omega), Array.getElem?_setIfInBounds, if_neg (by omega), Array.getElem?_setIfInBounds, if_neg (by omega)]
    simpa using hq
end Go.Proofs.Ytkoaeiiaagipeaa.M
