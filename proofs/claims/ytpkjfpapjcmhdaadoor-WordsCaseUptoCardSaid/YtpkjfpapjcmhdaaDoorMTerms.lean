/- Plain facts on the terms of a text: sorted, each once. -/
import Derived.Test.YtpkjfpapjcmhdaaDoorGSortStr
import Derived.Test.YtpkjfpapjcmhdaaDoorMWords
namespace Go.Proofs.YtpkjfpapjcmhdaaDoor.M
open Go.RowKit Go.Lib Go.Proofs.YtpkjfpapjcmhdaaDoor.G Go.Proofs.YtpkjfpapjcmhdaaDoorW.PrintWords Go.Proofs.YtpkjfpapjcmhdaaDoorW.PrintLast Go.Proofs.YtpkjfpapjcmhdaaDoorW.PrintMore
set_option linter.unusedVariables false
set_option linter.unusedSimpArgs false

/-- rising, each once -/
def Rise (l : List ByteArray) : Prop := l.Pairwise (chrs · < chrs ·)
theorem Rise.nodup {l : List ByteArray} (h : Rise l) : l.Nodup := h.imp (fun {a b} hab e => by subst e; exact List.lt_irrefl _ hab)
theorem Rise.eq {l m : List ByteArray} (hl : Rise l) (hm : Rise m) (h : ∀ x, x ∈ l ↔ x ∈ m) : l = m := by
  refine List.Perm.eq_of_pairwise (le := fun x y : ByteArray => chrs x < chrs y) (fun a b _ _ h1 h2 => absurd (List.lt_trans h1 h2) (List.lt_irrefl _)) hl hm ?_
  exact (List.perm_ext_iff_of_nodup hl.nodup hm.nodup).2 h
theorem compB_ok : ∀ (t : List ByteArray) (x : ByteArray), (x :: t).Pairwise (chrs · ≤ chrs ·) → Rise (x :: compB x t) ∧ ∀ z, z ∈ x :: compB x t ↔ z ∈ x :: t
  | [], x, _ => by simp [compB, Rise]
  | y :: t, x, h => by
    have h1 := List.pairwise_cons.1 h
    have h2 := List.pairwise_cons.1 h1.2
    unfold compB
    split
    · rename_i e
      obtain rfl := chrs_inj e
      have ih := compB_ok t y h1.2
      refine ⟨ih.1, fun z => ?_⟩
      rw [ih.2 z]; simp
    · rename_i e
      have ih := compB_ok t y h1.2
      have hlt : chrs x < chrs y := by
        rcases List.le_iff_lt_or_eq.1 (h1.1 y (List.mem_cons_self)) with h | h
        · exact h
        · exact absurd h.symm e
      refine ⟨List.pairwise_cons.2 ⟨fun z hz => ?_, ih.1⟩, fun z => ?_⟩
      · rcases List.mem_cons.1 ((ih.2 z).1 hz) with rfl | hz
        · exact hlt
        · rcases List.le_iff_lt_or_eq.1 (h2.1 z hz) with h | h
          · exact List.lt_trans hlt h
          · exact h ▸ hlt
      · rw [List.mem_cons, ih.2 z, List.mem_cons (a := z) (b := x)]
theorem compS_ok (l : List ByteArray) (h : l.Pairwise (chrs · ≤ chrs ·)) : Rise (compS l) ∧ ∀ z, z ∈ compS l ↔ z ∈ l := by
  cases l with
  | nil => simp [compS, Rise]
  | cons x t => exact compB_ok t x h
/-- sorted, each once -/
def uniq (l : List ByteArray) : List ByteArray := compS (sortS l)
theorem uniq_ok (l : List ByteArray) : Rise (uniq l) ∧ ∀ z, z ∈ uniq l ↔ z ∈ l := by
  have h := compS_ok (sortS l) (sortS_rising l)
  exact ⟨h.1, fun z => (h.2 z).trans (sortS_perm l).mem_iff⟩
/-- one put among others -/
def putB (s : ByteArray) : List ByteArray → List ByteArray
  | [] => [s]
  | x :: t => if chrs x < chrs s then x :: putB s t else if chrs x = chrs s then x :: t else s :: x :: t
theorem putB_mem (s : ByteArray) : ∀ (l : List ByteArray) (z : ByteArray), z ∈ putB s l ↔ z = s ∨ z ∈ l
  | [], z => by simp [putB]
  | x :: t, z => by
    unfold putB
    split
    · rw [List.mem_cons, putB_mem s t z, List.mem_cons]
      constructor
      · rintro (h | h | h) <;> simp [h]
      · rintro (h | h | h) <;> simp [h]
    · split
      · rename_i e
        obtain rfl := chrs_inj e
        simp
      · simp
theorem putB_rise (s : ByteArray) : ∀ l : List ByteArray, Rise l → Rise (putB s l)
  | [], _ => by simp [putB, Rise]
  | x :: t, h => by
    have h1 := List.pairwise_cons.1 h
    unfold putB
    split
    · rename_i hlt
      refine List.pairwise_cons.2 ⟨fun z hz => ?_, putB_rise s t h1.2⟩
      rcases (putB_mem s t z).1 hz with rfl | hz
      · exact hlt
      · exact h1.1 z hz
    · split
      · exact h
      · rename_i hn he
        have hle : chrs s ≤ chrs x := List.not_lt.1 hn
        have hlt : chrs s < chrs x := by
          rcases List.le_iff_lt_or_eq.1 hle with h | h
          · exact h
          · exact absurd h.symm he
        refine List.pairwise_cons.2 ⟨fun z hz => ?_, h⟩
        rcases List.mem_cons.1 hz with rfl | hz
        · exact hlt
        · exact List.lt_trans hlt (h1.1 z hz)
theorem puts_ok (l : List ByteArray) : ∀ acc : List ByteArray, Rise acc → Rise (l.foldl (fun a s => putB s a) acc) ∧ ∀ z, z ∈ l.foldl (fun a s => putB s a) acc ↔ z ∈ acc ∨ z ∈ l := by
  induction l with
  | nil => intro acc h; exact ⟨h, fun z => by simp⟩
  | cons x t ih =>
    intro acc h
    have h2 := ih (putB x acc) (putB_rise x acc h)
    refine ⟨h2.1, fun z => ?_⟩
    rw [List.foldl_cons, h2.2 z, putB_mem, List.mem_cons]
    constructor
    · rintro ((h | h) | h) <;> simp [h]
    · rintro (h | h | h) <;> simp [h]
/-- Sorted and made unique, or put in one by one: the same. -/
theorem uniq_puts (l : List ByteArray) : uniq l = l.foldl (fun a s => putB s a) [] := by
  have h1 := uniq_ok l
  have h2 := puts_ok l [] List.Pairwise.nil
  exact h1.1.eq h2.1 (fun x => by rw [h1.2 x, h2.2 x]; simp)
/-- The terms of words: the words, and the pairs. -/
def tms (s : List UInt8) : Option Wd → List Wd → List (List UInt8)
  | _, [] => []
  | p, w :: r => w.text :: ((match p with | some v => if v.en + 1 = w.st ∧ s.getD (w.st - 1) 0 = 61 then [v.text ++ 61 :: w.text] else [] | none => []) ++ tms s (some w) r)
def terms (s : List UInt8) : List ByteArray := uniq ((tms s none (wds s)).map unchrs)
theorem gw_in (L : Nat) : ∀ (f : Nat) (l : List UInt8) (i : Nat) (cur : Option Wd), i + l.length ≤ L → (∀ c, cur = some c → c.st ≤ L ∧ c.en ≤ L) → ∀ w ∈ gw (toksF f l) i cur, w.st ≤ L ∧ w.en ≤ L := by
  intro f
  induction f with
  | zero => intro l i cur hi hc w hw; simp only [toksF, gw, Option.mem_toList] at hw; exact hc w hw
  | succ f ih =>
    intro l i cur hi hc w hw
    cases l with
    | nil => simp only [toksF, gw, Option.mem_toList] at hw; exact hc w hw
    | cons b t =>
      have hp := tok_pos (b :: t)
      have hle := tok_le (b :: t) (by simp)
      have h1 : i + (tok (b :: t)).2 + ((b :: t).drop (tok (b :: t)).2).length ≤ L := by rw [List.length_drop]; omega
      simp only [toksF, gw] at hw
      split at hw
      · rcases List.mem_append.1 hw with h | h
        · exact hc w (by simpa using h)
        · exact ih _ _ none h1 (fun c e => by cases e) w h
      · cases cur with
        | none => exact ih _ _ _ h1 (fun c e => by cases e; simp only; omega) w hw
        | some c =>
          have hcl := hc c rfl
          simp only at hw
          split at hw
          · rcases List.mem_cons.1 hw with rfl | h
            · exact hcl
            · exact ih _ _ _ h1 (fun c e => by cases e; simp only; omega) w h
          · exact ih _ _ _ h1 (fun c e => by cases e; simp only; omega) w hw
theorem wds_in (l : List UInt8) : ∀ w ∈ wds l, w.st ≤ l.length ∧ w.en ≤ l.length := gw_in l.length l.length l 0 none (by omega) (fun c e => by cases e)
end Go.Proofs.YtpkjfpapjcmhdaaDoor.M
