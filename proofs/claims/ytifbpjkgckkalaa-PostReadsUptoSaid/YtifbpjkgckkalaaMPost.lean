/- Plain facts on rising lists: their bytes, the sets that they are. No program in sight. -/
import Derived.Test.YtifbpjkgckkalaaMPack
namespace Go.Proofs.Ytifbpjkgckkalaa.M
open Go.RowKit Go.Proofs.YtifbpjkgckkalaaW.PrintWords Go.Proofs.YtifbpjkgckkalaaW.PrintLast Go.Proofs.YtifbpjkgckkalaaW.PrintMore
set_option linter.unusedVariables false
set_option linter.unusedSimpArgs false

/-- rising, from behind a number on -/
def rise : Int → List Int → Bool
  | _, [] => true
  | last, n :: t => decide (last < n) && rise n t
/-- by how much each is greater than the one ahead of it, less one -/
def enc : Int → List Int → List Int
  | _, [] => []
  | last, n :: t => uv (n - last - 1).toNat ++ enc n t
def I64 (l : List Int) : Prop := ∀ x ∈ l, -9223372036854775808 ≤ x ∧ x ≤ 9223372036854775807
theorem I64.of_wf {l : List Int} (h : ∀ x ∈ l, (Lit.int .i64 x).wf = true) : I64 l := fun x hx => wf_i64 (h x hx)
theorem I64.tail {a : Int} {b : List Int} (h : I64 (a :: b)) : I64 b := fun x hx => h x (List.mem_cons_of_mem _ hx)
theorem I64.head {a : Int} {b : List Int} (h : I64 (a :: b)) : -9223372036854775808 ≤ a ∧ a ≤ 9223372036854775807 := h a List.mem_cons_self

theorem uv_len_gap {g : Nat} (h : g < 18446744073709551616) : (uv g).length ≤ 4 + g / 268435456 := by
  rcases Nat.lt_or_ge g 268435456 with h1 | h1
  · have := uv_len 3 g (by simpa using h1); omega
  · rcases Nat.lt_or_ge g 34359738368 with h2 | h2
    · have := uv_len 4 g (by simpa using h2); omega
    · have := uv_len64 h; omega
theorem enc_len : ∀ (l : List Int) (last : Int), -1 ≤ last → rise last l = true → I64 l → (enc last l).length ≤ 4 * l.length + 34359738368 - ((last + 1) / 268435456).toNat
  | [], last, _, _, _ => by simp [enc]
  | n :: t, last, h0, hr, hi => by
    simp only [rise, Bool.and_eq_true, decide_eq_true_eq] at hr
    have ih := enc_len t n (by omega) hr.2 hi.tail
    have hg := uv_len_gap (g := (n - last - 1).toNat) (by have := hi.head; omega)
    have := hi.head
    simp only [enc, List.length_append, List.length_cons]
    omega
theorem enc_by : ∀ (l : List Int) (last : Int), By (enc last l)
  | [], last => fun x hx => by simp [enc] at hx
  | n :: t, last => by simp only [enc]; exact (uv_by _).append (enc_by t n)
theorem rise_lt : ∀ {l : List Int} {last x : Int}, rise last l = true → x ∈ l → last < x
  | [], _, _, _, hx => by simp at hx
  | n :: t, last, x, h, hx => by
    simp only [rise, Bool.and_eq_true, decide_eq_true_eq] at h
    rcases List.mem_cons.1 hx with rfl | hx
    · exact h.1
    · have := rise_lt h.2 hx; omega
theorem rise_mono : ∀ {l : List Int} {a b : Int}, b ≤ a → rise a l = true → rise b l = true
  | [], _, _, _, _ => rfl
  | n :: t, a, b, h, hr => by
    simp only [rise, Bool.and_eq_true, decide_eq_true_eq] at hr ⊢
    exact ⟨by omega, hr.2⟩
theorem rise_of_mem : ∀ {l : List Int} {a b : Int}, rise a l = true → (∀ x ∈ l, b < x) → rise b l = true
  | [], _, _, _, _ => rfl
  | n :: t, a, b, hr, h => by
    simp only [rise, Bool.and_eq_true, decide_eq_true_eq] at hr ⊢
    exact ⟨h n List.mem_cons_self, hr.2⟩

/-! ### lists of numbers read again -/
def decs (p : List Int) (below : Int) : Nat → Int → Int → List Int → List Int × Int × Int
  | 0, at_, _, acc => (acc, at_, 0)
  | m + 1, at_, next, acc =>
    match readU p at_ with
    | (g, at2, e) => if e = 0 then (if g ≥ below - next then ([], 0, 6) else decs p below m at2 (next + g + 1) (acc ++ [next + g])) else ([], 0, e)
def decU (p : List Int) (at_ below : Int) : List Int × Int × Int :=
  match readU p at_ with
  | (n, at2, e) => if e = 0 then (if below < 0 ∨ n > below then ([], 0, 6) else decs p below n.toNat at2 0 []) else ([], 0, e)

/-- what was written is read: all below the bound -/
theorem decs_enc (p : List Int) (below : Int) (hb : below ≤ 9223372036854775807) : ∀ (l : List Int) (i : Nat) (next : Int) (acc r : List Int), 0 ≤ next → p.drop i = enc (next - 1) l ++ r → i ≤ p.length → rise (next - 1) l = true → (∀ x ∈ l, x < below) →
    decs p below l.length (i : Int) next acc = (acc ++ l, ((i + (enc (next - 1) l).length : Nat) : Int), 0)
  | [], i, next, acc, r, _, _, _, _, _ => by simp [decs, enc]
  | n :: t, i, next, acc, r, h0, hp, hi, hr, hx => by
    simp only [rise, Bool.and_eq_true, decide_eq_true_eq] at hr
    have hn := hx n List.mem_cons_self
    simp only [enc, List.append_assoc] at hp ⊢
    have e := readU_at hp hi (by omega)
    have hp2 := drop_append_eq hp
    have hl := le_of_drop_append hp hi
    simp only [List.length_cons, decs]
    rw [e]
    simp only [if_true]
    have e3 : next + ((n - (next - 1) - 1).toNat : Int) = n := by omega
    rw [if_neg (by omega), e3, show (i : Int) + ((uv (n - (next - 1) - 1).toNat).length : Int) = ((i + (uv (n - (next - 1) - 1).toNat).length : Nat) : Int) from by omega]
    rw [decs_enc p below hb t _ (n + 1) (acc ++ [n]) r (by omega) (by rw [show n + 1 - 1 = n from by omega]; exact hp2) (by omega) (by rw [show n + 1 - 1 = n from by omega]; exact hr.2) (fun x h => hx x (List.mem_cons_of_mem _ h))]
    simp only [List.append_assoc, List.cons_append, List.nil_append, List.length_append, show n + 1 - 1 = n from by omega, Prod.mk.injEq, and_true, true_and]
    omega
/-- one of them is not below the bound -/
theorem decs_enc_bad (p : List Int) (below : Int) (hb : below ≤ 9223372036854775807) : ∀ (l : List Int) (i : Nat) (next : Int) (acc r : List Int), 0 ≤ next → p.drop i = enc (next - 1) l ++ r → i ≤ p.length → rise (next - 1) l = true → I64 l → (∃ x ∈ l, below ≤ x) →
    decs p below l.length (i : Int) next acc = ([], 0, 6)
  | [], i, next, acc, r, _, _, _, _, _, hx => by obtain ⟨x, h, _⟩ := hx; simp at h
  | n :: t, i, next, acc, r, h0, hp, hi, hr, h64, hx => by
    simp only [rise, Bool.and_eq_true, decide_eq_true_eq] at hr
    have hn := h64.head
    simp only [enc, List.append_assoc] at hp
    have e := readU_at hp hi (by omega)
    have hp2 := drop_append_eq hp
    have hl := le_of_drop_append hp hi
    simp only [List.length_cons, decs]
    rw [e]
    simp only [if_true]
    by_cases hnb : below ≤ n
    · rw [if_pos (by omega)]
    · have e3 : next + ((n - (next - 1) - 1).toNat : Int) = n := by omega
      rw [if_neg (by omega), e3, show (i : Int) + ((uv (n - (next - 1) - 1).toNat).length : Int) = ((i + (uv (n - (next - 1) - 1).toNat).length : Nat) : Int) from by omega]
      refine decs_enc_bad p below hb t _ (n + 1) (acc ++ [n]) r (by omega) (by rw [show n + 1 - 1 = n from by omega]; exact hp2) (by omega) (by rw [show n + 1 - 1 = n from by omega]; exact hr.2) h64.tail ?_
      obtain ⟨x, h, hx⟩ := hx
      rcases List.mem_cons.1 h with rfl | h
      · omega
      · exact ⟨x, h, hx⟩
/-- the last byte is missing -/
theorem decs_enc_short (p : List Int) (below : Int) (hb : below ≤ 9223372036854775807) (hp0 : By p) : ∀ (l : List Int) (i : Nat) (next : Int) (acc : List Int), l ≠ [] → 0 ≤ next → p.drop i = (enc (next - 1) l).take ((enc (next - 1) l).length - 1) → i ≤ p.length → rise (next - 1) l = true → (∀ x ∈ l, x < below) →
    (decs p below l.length (i : Int) next acc).2.2 = 3
  | [], i, next, acc, hne, _, _, _, _, _ => absurd rfl hne
  | n :: t, i, next, acc, hne, h0, hp, hi, hr, hx => by
    simp only [rise, Bool.and_eq_true, decide_eq_true_eq] at hr
    have hn := hx n List.mem_cons_self
    have hpos := uv_pos (n - (next - 1) - 1).toNat
    simp only [List.length_cons, decs]
    cases t with
    | nil =>
      simp only [enc, List.append_nil] at hp
      have hlen := uv_len64 (n := (n - (next - 1) - 1).toNat) (by omega)
      have e : readU p (i : Int) = (0, 0, 3) := by
        unfold readU
        rw [if_neg (by omega), Int.toNat_natCast, hp, ru_short _ _ 0 (by omega) (by omega)]
      rw [e]
      simp
    | cons m t =>
      have hl2 : 1 ≤ (enc n (m :: t)).length := by
        have := uv_pos (m - n - 1).toNat
        simp only [enc, List.length_append]; omega
      have hp1 : p.drop i = uv (n - (next - 1) - 1).toNat ++ (enc n (m :: t)).take ((enc n (m :: t)).length - 1) := by
        rw [hp, show enc (next - 1) (n :: m :: t) = uv (n - (next - 1) - 1).toNat ++ enc n (m :: t) from rfl, List.length_append, List.take_append]
        rw [List.take_of_length_le (by omega)]
        congr 1; congr 1; omega
      have e := readU_at hp1 hi (by omega)
      have hp2 := drop_append_eq hp1
      have hl := le_of_drop_append hp1 hi
      rw [e]
      simp only [if_true]
      have e3 : next + ((n - (next - 1) - 1).toNat : Int) = n := by omega
      rw [if_neg (by omega), e3, show (i : Int) + ((uv (n - (next - 1) - 1).toNat).length : Int) = ((i + (uv (n - (next - 1) - 1).toNat).length : Nat) : Int) from by omega]
      exact decs_enc_short p below hb hp0 (m :: t) _ (n + 1) (acc ++ [n]) (by simp) (by omega) (by rw [show n + 1 - 1 = n from by omega]; exact hp2) (by omega) (by rw [show n + 1 - 1 = n from by omega]; exact hr.2) (fun x h => hx x (List.mem_cons_of_mem _ h))

/-- rising numbers from next on, below a bound: no more than there is room for -/
theorem rise_count : ∀ (l : List Int) (next below : Int), rise (next - 1) l = true → (∀ x ∈ l, x < below) → next ≤ below → (l.length : Int) ≤ below - next
  | [], next, below, _, _, h => by simp; omega
  | n :: t, next, below, hr, hx, h => by
    simp only [rise, Bool.and_eq_true, decide_eq_true_eq] at hr
    have hn := hx n List.mem_cons_self
    have := rise_count t (n + 1) below (by rw [show n + 1 - 1 = n from by omega]; exact hr.2) (fun x h => hx x (List.mem_cons_of_mem _ h)) (by omega)
    simp; omega

/-! ### sets as rising lists -/
theorem rise_ext : ∀ {a b : List Int} {l : Int}, rise l a = true → rise l b = true → (∀ x, x ∈ a ↔ x ∈ b) → a = b
  | [], [], _, _, _, _ => rfl
  | [], y :: b, _, _, _, h => by have := (h y).2 List.mem_cons_self; simp at this
  | x :: a, [], _, _, _, h => by have := (h x).1 List.mem_cons_self; simp at this
  | x :: a, y :: b, l, ha, hb, h => by
    simp only [rise, Bool.and_eq_true, decide_eq_true_eq] at ha hb
    have hxy : x = y := by
      have h1 := (h x).1 List.mem_cons_self
      have h2 := (h y).2 List.mem_cons_self
      rcases List.mem_cons.1 h1 with h1 | h1
      · exact h1
      · rcases List.mem_cons.1 h2 with h2 | h2
        · exact h2.symm
        · have := rise_lt hb.2 h1; have := rise_lt ha.2 h2; omega
    subst hxy
    congr 1
    refine rise_ext ha.2 hb.2 fun z => ?_
    constructor
    · intro hz
      rcases List.mem_cons.1 ((h z).1 (List.mem_cons_of_mem _ hz)) with e | e
      · have := rise_lt ha.2 hz; omega
      · exact e
    · intro hz
      rcases List.mem_cons.1 ((h z).2 (List.mem_cons_of_mem _ hz)) with e | e
      · have := rise_lt hb.2 hz; omega
      · exact e
def andL : List Int → List Int → List Int
  | [], _ => []
  | _ :: _, [] => []
  | x :: a, y :: b => if x < y then andL a (y :: b) else if x > y then andL (x :: a) b else x :: andL a b
termination_by a b => a.length + b.length
def orL : List Int → List Int → List Int
  | [], b => b
  | x :: a, [] => x :: a
  | x :: a, y :: b => if x < y then x :: orL a (y :: b) else if x > y then y :: orL (x :: a) b else x :: orL a b
termination_by a b => a.length + b.length
def lessL : List Int → List Int → List Int
  | [], _ => []
  | x :: a, [] => x :: lessL a []
  | x :: a, y :: b => if y < x then lessL (x :: a) b else if y = x then lessL a (y :: b) else x :: lessL a (y :: b)
termination_by a b => a.length + b.length
theorem orL_nil (b : List Int) : orL [] b = b := by rw [orL]
theorem orL_nil' (a : List Int) : orL a [] = a := by cases a <;> rw [orL]
theorem orL_cons (x y : Int) (a b : List Int) : orL (x :: a) (y :: b) = if x < y then x :: orL a (y :: b) else if x > y then y :: orL (x :: a) b else x :: orL a b := by rw [orL]
theorem lessL_nil (b : List Int) : lessL [] b = [] := by rw [lessL]
theorem lessL_nil' (x : Int) (a : List Int) : lessL (x :: a) [] = x :: lessL a [] := by rw [lessL]
theorem lessL_cons (x y : Int) (a b : List Int) : lessL (x :: a) (y :: b) = if y < x then lessL (x :: a) b else if y = x then lessL a (y :: b) else x :: lessL a (y :: b) := by rw [lessL]
theorem rise_cons {l x : Int} {a : List Int} : rise l (x :: a) = true ↔ l < x ∧ rise x a = true := by simp [rise]
theorem mem_andL (a b : List Int) : ∀ {l m : Int}, rise l a = true → rise m b = true → ∀ z, z ∈ andL a b ↔ z ∈ a ∧ z ∈ b := by
  fun_induction andL a b with
  | case1 b => intro l m ha hb z; simp
  | case2 x a => intro l m ha hb z; simp
  | case3 x a y b h ih =>
    intro l m ha hb z
    rw [ih (rise_cons.1 ha).2 hb]
    constructor
    · exact fun h => ⟨List.mem_cons_of_mem _ h.1, h.2⟩
    · intro ⟨h1, h2⟩
      rcases List.mem_cons.1 h1 with rfl | h1
      · exfalso
        rcases List.mem_cons.1 h2 with rfl | h2
        · omega
        · have := rise_lt (rise_cons.1 hb).2 h2; omega
      · exact ⟨h1, h2⟩
  | case4 x a y b h h' ih =>
    intro l m ha hb z
    rw [ih ha (rise_cons.1 hb).2]
    constructor
    · exact fun h => ⟨h.1, List.mem_cons_of_mem _ h.2⟩
    · intro ⟨h1, h2⟩
      rcases List.mem_cons.1 h2 with rfl | h2
      · exfalso
        rcases List.mem_cons.1 h1 with rfl | h1
        · omega
        · have := rise_lt (rise_cons.1 ha).2 h1; omega
      · exact ⟨h1, h2⟩
  | case5 x a y b h h' ih =>
    intro l m ha hb z
    have e : x = y := by omega
    subst e
    have ih := ih (rise_cons.1 ha).2 (rise_cons.1 hb).2 z
    simp only [List.mem_cons, ih]
    constructor
    · rintro (rfl | h)
      · exact ⟨Or.inl rfl, Or.inl rfl⟩
      · exact ⟨Or.inr h.1, Or.inr h.2⟩
    · rintro ⟨h1, h2⟩
      rcases h1 with rfl | h1
      · exact Or.inl rfl
      · rcases h2 with rfl | h2
        · exact Or.inl rfl
        · exact Or.inr ⟨h1, h2⟩
theorem rise_andL (a b : List Int) : ∀ {l : Int}, rise l a = true → rise l (andL a b) = true := by
  fun_induction andL a b with
  | case1 b => intro l ha; rfl
  | case2 x a => intro l ha; rfl
  | case3 x a y b h ih => intro l ha; have := rise_cons.1 ha; exact rise_mono (by omega) (ih this.2)
  | case4 x a y b h h' ih => intro l ha; exact ih ha
  | case5 x a y b h h' ih => intro l ha; have := rise_cons.1 ha; exact rise_cons.2 ⟨this.1, ih this.2⟩
theorem mem_orL (a b : List Int) : ∀ z, z ∈ orL a b ↔ z ∈ a ∨ z ∈ b := by
  fun_induction orL a b with
  | case1 b => intro z; simp
  | case2 x a => intro z; simp
  | case3 x a y b h ih => intro z; simp only [List.mem_cons, ih, or_assoc]
  | case4 x a y b h h' ih =>
    intro z
    simp only [List.mem_cons, ih]
    constructor
    · rintro (h | (h | h) | h) <;> simp [h]
    · rintro ((h | h) | h | h) <;> simp [h]
  | case5 x a y b h h' ih =>
    intro z
    have e : x = y := by omega
    subst e
    simp only [List.mem_cons, ih]
    constructor
    · rintro (h | h | h) <;> simp [h]
    · rintro ((h | h) | h | h) <;> simp [h]
theorem rise_orL (a b : List Int) : ∀ {l : Int}, rise l a = true → rise l b = true → rise l (orL a b) = true := by
  fun_induction orL a b with
  | case1 b => intro l ha hb; exact hb
  | case2 x a => intro l ha hb; exact ha
  | case3 x a y b h ih =>
    intro l ha hb
    have ha := rise_cons.1 ha
    have hb := rise_cons.1 hb
    exact rise_cons.2 ⟨ha.1, ih ha.2 (rise_cons.2 ⟨h, hb.2⟩)⟩
  | case4 x a y b h h' ih =>
    intro l ha hb
    have ha := rise_cons.1 ha
    have hb := rise_cons.1 hb
    exact rise_cons.2 ⟨hb.1, ih (rise_cons.2 ⟨by omega, ha.2⟩) hb.2⟩
  | case5 x a y b h h' ih =>
    intro l ha hb
    have ha := rise_cons.1 ha
    have hb := rise_cons.1 hb
    have e : x = y := by omega
    subst e
    exact rise_cons.2 ⟨ha.1, ih ha.2 hb.2⟩
theorem mem_lessL (a b : List Int) : ∀ {l m : Int}, rise l a = true → rise m b = true → ∀ z, z ∈ lessL a b ↔ z ∈ a ∧ z ∉ b := by
  fun_induction lessL a b with
  | case1 b => intro l m ha hb z; simp
  | case2 x a ih =>
    intro l m ha hb z
    have := ih (rise_cons.1 ha).2 hb z
    simp only [List.mem_cons, this]; simp
  | case3 x a y b h ih =>
    intro l m ha hb z
    rw [ih ha (rise_cons.1 hb).2]
    simp only [List.mem_cons, not_or]
    constructor
    · rintro ⟨h1, h2⟩
      refine ⟨h1, ?_, h2⟩
      rintro rfl
      rcases h1 with rfl | h1
      · omega
      · have := rise_lt (rise_cons.1 ha).2 h1; omega
    · exact fun h => ⟨h.1, h.2.2⟩
  | case4 x a b h ih =>
    intro l m ha hb z
    rw [ih (rise_cons.1 ha).2 hb]
    constructor
    · exact fun h => ⟨List.mem_cons_of_mem _ h.1, h.2⟩
    · rintro ⟨h1, h2⟩
      rcases List.mem_cons.1 h1 with rfl | h1
      · exact absurd List.mem_cons_self h2
      · exact ⟨h1, h2⟩
  | case5 x a y b h h' ih =>
    intro l m ha hb z
    have := ih (rise_cons.1 ha).2 hb z
    simp only [List.mem_cons (a := z) (b := x), this]
    constructor
    · rintro (rfl | h1)
      · refine ⟨Or.inl rfl, fun hz => ?_⟩
        rcases List.mem_cons.1 hz with rfl | hz
        · exact h' rfl
        · have := rise_lt (rise_cons.1 hb).2 hz; omega
      · exact ⟨Or.inr h1.1, h1.2⟩
    · rintro ⟨h1 | h1, h2⟩
      · exact Or.inl h1
      · exact Or.inr ⟨h1, h2⟩
theorem rise_lessL (a b : List Int) : ∀ {l : Int}, rise l a = true → rise l (lessL a b) = true := by
  fun_induction lessL a b with
  | case1 b => intro l ha; rfl
  | case2 x a ih => intro l ha; have := rise_cons.1 ha; exact rise_cons.2 ⟨this.1, ih this.2⟩
  | case3 x a y b h ih => intro l ha; exact ih ha
  | case4 x a b h ih => intro l ha; have := rise_cons.1 ha; exact rise_mono (by omega) (ih this.2)
  | case5 x a y b h h' ih => intro l ha; have := rise_cons.1 ha; exact rise_cons.2 ⟨this.1, ih this.2⟩
/-- how many there are of both, of either -/
theorem len_and_or (a b : List Int) : (andL a b).length + (orL a b).length = a.length + b.length := by
  fun_induction andL a b with
  | case1 b => simp [orL]
  | case2 x a => simp [orL]
  | case3 x a y b h ih => rw [orL, if_pos h]; simp only [List.length_cons] at ih ⊢; omega
  | case4 x a y b h h' ih => rw [orL, if_neg h, if_pos h']; simp only [List.length_cons] at ih ⊢; omega
  | case5 x a y b h h' ih => rw [orL, if_neg h, if_neg h']; simp only [List.length_cons] at ih ⊢; omega
end Go.Proofs.Ytifbpjkgckkalaa.M
