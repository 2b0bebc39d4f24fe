/- Rows told by other words of the same shape. -/
import Derived.Test.YtaediecdpgndjaaMrgP
namespace Go.Proofs.Ytaediecdpgndjaa.M
open Go.RowKit Go.Proofs.Mg Go.Proofs.YtaediecdpgndjaaW.PrintWords Go.Proofs.YtaediecdpgndjaaW.PrintLast Go.Proofs.YtaediecdpgndjaaW.PrintMore
theorem C_map {α β : Type} {d : Kd α} {d' : Kd β} (f : β → α) (hs : d.sz = d'.sz) (h : ∀ w x cs, d'.K w x cs → d.K w (f x) cs) {w : World} {A : Option Addr} {n : Nat} {xs : List β} (hc : Kd.C d' w A n xs) : Kd.C d w A n (xs.map f) := by
  refine ⟨by rw [List.length_map]; exact hc.1, hc.2.1, fun hn => ?_⟩
  obtain ⟨ad, e, hj⟩ := hc.2.2 hn
  refine ⟨ad, e, fun j p hp => ?_⟩
  rw [List.getElem?_map] at hp
  cases hq : xs[j]? with
  | none => rw [hq] at hp; cases hp
  | some q =>
    rw [hq] at hp
    cases hp
    obtain ⟨c, h1, h2, h3⟩ := hj j q hq
    exact ⟨c, by rw [hs]; exact h1, h _ _ _ h2, by rw [hs]; exact h3⟩
theorem R_map {α β : Type} {d : Kd α} {d' : Kd β} (f : α → β) (hs : d.sz = d'.sz) (h : ∀ w base ok x cs, d.M w base ok x cs → d'.M w base ok (f x) cs) {e : Nat} {w : World} {base : Nat} {ok : Nat → Prop} {v : Value} {xs : List α} (hr : Kd.R d e w base ok v xs) : Kd.R d' e w base ok v (xs.map f) := by
  obtain ⟨h0, inner, ho, hrr⟩ := hr
  refine ⟨h0, inner, by rw [List.length_map, ← hs]; exact ho, by rw [List.length_map, ← hs]; exact hrr.1, fun j p hp => ?_⟩
  rw [List.getElem?_map] at hp
  cases hq : xs[j]? with
  | none => rw [hq] at hp; cases hp
  | some q =>
    rw [hq] at hp
    cases hp
    have := hrr.2 j q hq
    rw [← hs]
    exact h _ _ _ _ _ this
theorem slice_map {α β : Type} {d : Kd α} {d' : Kd β} (e : Nat) (f : β → α) (hs : d.sz = d'.sz) (h : ∀ w x cs, d'.K w x cs → d.K w (f x) cs) (w : World) (x : List β) (cs : List Value) (hk : (Kd.slice e d').K w x cs) : (Kd.slice e d).K w (x.map f) cs := by
  obtain ⟨A, c, rfl, hl, hc⟩ := hk
  exact ⟨A, c, by rw [List.length_map], by rw [List.length_map]; exact hl, by rw [List.length_map]; exact C_map f hs h hc⟩
end Go.Proofs.Ytaediecdpgndjaa.M
