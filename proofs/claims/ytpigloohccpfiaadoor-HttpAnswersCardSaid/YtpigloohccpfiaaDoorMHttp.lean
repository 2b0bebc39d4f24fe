/- Plain facts on requests: texts, lines, the request. -/
import Derived.Lib.MapLaws
import Derived.Lib.AtoiTie
import Derived.Lib.ItoaMem
import Derived.Lib.SplitLaws
import Derived.Lib.CountLaws
import Derived.Lib.IndexBytes
import Derived.Lib.SpaceUEq
import Derived.Test.YtpigloohccpfiaaDoorGLib
import Derived.Test.YtpigloohccpfiaaDoorMArith
namespace Go.Proofs.YtpigloohccpfiaaDoor.M
open Go.RowKit Go.Lib Go.Proofs.YtpigloohccpfiaaDoor.G Go.Proofs.YtpigloohccpfiaaDoorW.PrintWords Go.Proofs.YtpigloohccpfiaaDoorW.PrintLast Go.Proofs.YtpigloohccpfiaaDoorW.PrintMore
set_option linter.unusedVariables false
set_option linter.unusedSimpArgs false

abbrev Tx := List UInt8
def ba (l : Tx) : ByteArray := ⟨l.toArray⟩
theorem ba_data (l : Tx) : (ba l).data.toList = l := rfl
theorem ba_list (l : Tx) : (ba l).toList = l := by rw [Lib.toList_data]; rfl
theorem ba_size (l : Tx) : (ba l).size = l.length := by simp [ba, ByteArray.size]
theorem ba_of (s : ByteArray) : ba s.data.toList = s := rfl
theorem ba_ext (l : Tx) (i j : Nat) : (ba l).extract i j = ba ((l.drop i).take (j - i)) := by
  apply ByteArray.ext; apply Array.toList_inj.1
  rw [Lib.extract_data]; rfl
theorem ba_inj {a b : Tx} (h : ba a = ba b) : a = b := congrArg (fun s : ByteArray => s.data.toList) h
theorem bt_ba (l : Tx) (j : Nat) (h : j < l.length) : bt (ba l) (j : Int) = ((l[j]).toNat : Int) := by
  have e := Lib.data_getElem? (ba l) j (by rw [ba_size]; exact h)
  unfold bt
  have h2 : (j : Int).toNat < (ba l).size := by rw [ba_size]; exact h
  simp only [h2, dif_pos]
  simp only [Int.toNat_natCast]
  rw [ba_data, List.getElem?_eq_getElem h] at e
  rw [Option.some.inj e]
/-- the first place of a byte -/
def ix : Tx → UInt8 → Option Nat
  | [], _ => none
  | b :: t, c => if b = c then some 0 else (ix t c).map (· + 1)
def ixI (o : Option Nat) : Int := match o with | none => -1 | some i => (i : Int)
theorem ix_index (c : UInt8) : ∀ l : Tx, Lib.indexByte l c = ixI (ix l c)
  | [] => rfl
  | b :: t => by
    unfold Lib.indexByte ix
    rw [ix_index c t]
    by_cases h : b = c
    · subst h; simp [ixI]
    · rw [if_neg (by simpa using h), if_neg h]
      cases ix t c with
      | none => simp [ixI]
      | some i => simp [ixI] <;> omega
theorem ix_lt (c : UInt8) : ∀ (l : Tx) (i : Nat), ix l c = some i → i < l.length
  | [], i, h => by cases h
  | b :: t, i, h => by
    unfold ix at h
    split at h
    · cases h; simp
    · cases hi : ix t c with
      | none => rw [hi] at h; cases h
      | some j =>
        rw [hi] at h
        cases h
        have := ix_lt c t j hi
        simp; omega
theorem ix_mem (c : UInt8) : ∀ l : Tx, ix l c = none ↔ c ∉ l
  | [] => by simp [ix]
  | b :: t => by
    unfold ix
    by_cases h : b = c
    · subst h; simp
    · rw [if_neg h, Option.map_eq_none_iff, ix_mem c t]
      simp [Ne.symm h]
/-- letters, digits, - and _ -/
def tokc (b : UInt8) : Bool := decide ((97 ≤ b.toNat ∧ b.toNat ≤ 122) ∨ (65 ≤ b.toNat ∧ b.toNat ≤ 90) ∨ (48 ≤ b.toNat ∧ b.toNat ≤ 57) ∨ b.toNat = 45 ∨ b.toNat = 95)
def tokB (l : Tx) : Bool := l.all tokc && !l.isEmpty
def pathc (b : UInt8) : Bool := decide (33 ≤ b.toNat ∧ b.toNat ≤ 126)
def http11 : Tx := [72, 84, 84, 80, 47, 49, 46, 49]
/-- what the first line says -/
def firstV (l : Tx) : Option (Tx × Tx) :=
  match ix l 32 with
  | none => none
  | some i => match ix (l.drop (i + 1)) 32 with
    | none => none
    | some j => if (l.drop (i + 1)).drop (j + 1) = http11 ∧ tokB (l.take i) = true ∧ ((l.drop (i + 1)).take j).head? = some 47 ∧ ((l.drop (i + 1)).take j).all pathc = true then some (l.take i, (l.drop (i + 1)).take j) else none
/-- without blanks and tabs about it -/
def rt (l : Tx) : Tx := (l.reverse.dropWhile strings_Trim.sp).reverse
theorem rt_cons (x : UInt8) (t : Tx) : rt (x :: t) = if rt t = [] then (if strings_Trim.sp x = true then [] else [x]) else x :: rt t := by
  unfold rt
  rw [List.reverse_cons, List.dropWhile_append]
  by_cases h : List.dropWhile strings_Trim.sp t.reverse = []
  · rw [h]
    simp only [List.isEmpty_nil, if_true, List.reverse_nil]
    by_cases hs : strings_Trim.sp x = true <;> simp [List.dropWhile_cons, hs]
  · rw [if_neg (by simpa using h), if_neg (by simpa using h)]
    simp
theorem trim_comm : ∀ l : Tx, (rt l).dropWhile strings_Trim.sp = rt (l.dropWhile strings_Trim.sp)
  | [] => rfl
  | x :: t => by
    have ih := trim_comm t
    rw [rt_cons, List.dropWhile_cons]
    by_cases hs : strings_Trim.sp x = true
    · rw [if_pos hs, if_pos hs]
      by_cases hr : rt t = []
      · rw [if_pos hr, ← ih, hr]
      · rw [if_neg hr, List.dropWhile_cons, if_pos hs, ih]
    · rw [if_neg hs, if_neg hs, rt_cons, if_neg hs]
      by_cases hr : rt t = []
      · rw [if_pos hr, List.dropWhile_cons, if_neg hs]
      · rw [if_neg hr, List.dropWhile_cons, if_neg hs]
def trimV (l : Tx) : Tx := strings_Trim.t l
theorem trimV_eq (l : Tx) : trimV l = rt (l.dropWhile strings_Trim.sp) := by rw [← trim_comm]; rfl
theorem dw_le (l : Tx) : (l.dropWhile strings_Trim.sp).length ≤ l.length := (List.dropWhile_suffix _).length_le
theorem trim_le (l : Tx) : (trimV l).length ≤ l.length := by
  unfold trimV strings_Trim.t
  refine Nat.le_trans (dw_le _) ?_
  rw [List.length_reverse]
  refine Nat.le_trans (dw_le _) ?_
  rw [List.length_reverse]; exact Nat.le_refl _
def charOk (b : UInt8) : Bool := decide ((32 ≤ b.toNat ∨ b.toNat = 9) ∧ b.toNat ≠ 127)
/-- great letters as small ones -/
def tb (b : UInt8) : UInt8 := if 65 ≤ b.toNat ∧ b.toNat ≤ 90 then UInt8.ofNat (b.toNat + 32) else b
theorem tb_low : ∀ b : Fin 256, (b.val < 128 ↔ (tb (UInt8.ofNat b.val)).toNat < 128) ∧ (b.val < 128 → ((http_small.lo (b.val : Int)).toNat = (tb (UInt8.ofNat b.val)).toNat ∧ 0 ≤ http_small.lo (b.val : Int))) := by decide +kernel
theorem enc_one (n : Nat) (h : n < 128) : encodeRune (n : Int) = [UInt8.ofNat n] := by
  unfold encodeRune
  rw [encodeRuneZ_one (by omega) (by omega)]
  simp
theorem enc_big (n : Nat) (h : 128 ≤ n) (hm : n ≤ 1114111) : ∃ b t, encodeRune (n : Int) = b :: t ∧ 128 ≤ b.toNat := by
  unfold encodeRune encodeRuneZ
  rw [if_neg (by omega)]
  split
  · refine ⟨_, _, rfl, ?_⟩
    simp only [Nat.toUInt8, UInt8.toNat_ofNat']; omega
  · split
    · refine ⟨_, _, rfl, ?_⟩
      simp only [Nat.toUInt8, UInt8.toNat_ofNat']; omega
    · split
      · refine ⟨_, _, rfl, ?_⟩
        simp only [Nat.toUInt8, UInt8.toNat_ofNat']; omega
      · refine ⟨_, _, rfl, ?_⟩
        simp only [Nat.toUInt8, UInt8.toNat_ofNat']; omega
theorem dec_ge (b : UInt8) (u : Tx) (hb : ¬ b.toNat < 128) : 128 ≤ (decodeL (b :: u)).1 := by
  have hN := decodeL_N (b :: u)
  have k0 : ((b :: u).getD 0 0).toNat = b.toNat := rfl
  rw [k0] at hN
  rw [hN]
  rcases decodeN_shape (b :: u).length b.toNat ((b :: u).getD 1 0).toNat ((b :: u).getD 2 0).toNat ((b :: u).getD 3 0).toNat with ⟨c, e⟩ | ⟨c1, c2, c3, cv, e⟩ | ⟨c1, c2, c3, c4, cv, cs, e⟩ | ⟨c1, c2, c3, c4, c5, cv, cw, e⟩ | e
  · exact absurd c hb
  · rw [e]; simp only; omega
  · rw [e]; simp only; omega
  · rw [e]; simp only; omega
  · rw [e]; simp
theorem map_small : ∀ (n : Nat) (l t : Tx), l.length ≤ n → (∀ b ∈ t, b.toNat < 128) → (mapGoD http_small.lo n l = t ↔ l.map tb = t)
  | 0, l, t, h, _ => by
    obtain rfl := List.eq_nil_of_length_eq_zero (Nat.le_zero.1 h)
    simp [mapGoD]
  | n + 1, [], t, h, _ => by simp [mapGoD]
  | n + 1, b :: u, t, h, ht => by
    have tl := tb_low ⟨b.toNat, b.toNat_lt⟩
    simp only [UInt8.ofNat_toNat] at tl
    unfold mapGoD
    rw [if_neg (by simp)]
    by_cases hb : b.toNat < 128
    · have hd := decodeL_ascii b u hb
      obtain ⟨h1, h2⟩ := tl.2 hb
      have h3 : http_small.lo (b.toNat : Int) = ((tb b).toNat : Int) := by omega
      rw [hd]
      simp only
      rw [if_pos h2, h3, enc_one _ (tl.1.1 hb), List.drop_succ_cons, List.drop_zero, List.map_cons, UInt8.ofNat_toNat]
      cases t with
      | nil => simp
      | cons c t =>
        have ih := map_small n u t (by simp at h; omega) (fun x hx => ht x (List.mem_cons_of_mem _ hx))
        simp only [List.singleton_append, List.cons.injEq]
        rw [ih]
    · have hg := dec_ge b u hb
      have hm := decodeL_rune (b :: u)
      have hl : http_small.lo ((decodeL (b :: u)).1 : Int) = ((decodeL (b :: u)).1 : Int) := by unfold http_small.lo; rw [if_neg (by omega)]
      rw [hl, if_pos (by omega)]
      obtain ⟨c, v, hc, hc2⟩ := enc_big _ hg hm
      rw [hc, List.map_cons]
      constructor
      · intro e
        have := ht c (by rw [← e]; simp)
        omega
      · intro e
        have h4 := ht (tb b) (by rw [← e]; simp)
        exact absurd (tl.1.2 h4) hb
theorem mapD_small (l t : Tx) (ht : ∀ b ∈ t, b.toNat < 128) : Lib.mapD http_small.lo l = t ↔ l.map tb = t := map_small _ l t (Nat.le_refl _) ht
/-! ### whole numbers -/
def lenV (l : Tx) : Option Nat := if l.length < 1 ∨ 9 < l.length ∨ (1 < l.length ∧ l.head? = some 48) then none else Lib.decFrom 0 l
theorem decFrom_snoc (b : UInt8) : ∀ (l : Tx) (acc : Nat), Lib.decFrom acc (l ++ [b]) = (Lib.decFrom acc l).bind fun n => (Lib.digitVal b).map fun d => n * 10 + d
  | [], acc => by simp [Lib.decFrom]; cases Lib.digitVal b <;> rfl
  | c :: r, acc => by
    simp only [List.cons_append, Lib.decFrom]
    cases Lib.digitVal c with
    | none => rfl
    | some d => exact decFrom_snoc b r _
theorem digit_of (n : Nat) (h : n < 10) : Lib.digitVal (UInt8.ofNat (48 + n)) = some n := by
  have e : (UInt8.ofNat (48 + n)).toNat = 48 + n := by simp only [UInt8.toNat_ofNat']; omega
  unfold Lib.digitVal
  rw [e, if_pos (by omega)]
  congr 1; omega
theorem head_app {a b : Tx} (h : a ≠ []) : (a ++ b).head? = a.head? := by
  cases a with
  | nil => exact absurd rfl h
  | cons x r => rfl
theorem dec_digits : ∀ (u : Nat), Lib.decFrom 0 (Lib.decDigits u) = some u ∧ Lib.decDigits u ≠ [] ∧ ((Lib.decDigits u).head? = some 48 → u = 0) := by
  intro u
  induction u using Nat.strongRecOn with
  | ind u ih =>
    by_cases h : u < 10
    · rw [Lib.decDigits_one h]
      refine ⟨by simp only [Lib.decFrom]; rw [digit_of u h]; simp only [Nat.zero_mul, Nat.zero_add], by simp, fun e => ?_⟩
      have e2 := congrArg UInt8.toNat (Option.some.inj e)
      simp only [UInt8.toNat_ofNat'] at e2
      have : (48 : UInt8).toNat = 48 := rfl
      rw [this] at e2
      omega
    · obtain ⟨h1, h2, h3⟩ := ih (u / 10) (by omega)
      have e : Lib.decDigits u = Lib.decDigits (u / 10) ++ [UInt8.ofNat (48 + u % 10)] := by rw [Lib.decDigits, dif_neg h]
      rw [e]
      refine ⟨?_, by simp, fun e2 => ?_⟩
      · rw [decFrom_snoc, h1, digit_of _ (by omega)]
        simp; omega
      · rw [head_app h2] at e2
        have := h3 e2
        omega
theorem digits_dec : ∀ (n : Nat) (l : Tx) (u : Nat), l.length = n → l ≠ [] → (l.head? = some 48 → l.length = 1) → Lib.decFrom 0 l = some u → Lib.decDigits u = l := by
  intro n
  induction n with
  | zero => intro l u hn h0; exact absurd (List.eq_nil_of_length_eq_zero hn) h0
  | succ n ih =>
    intro l u hn h0 hh hd
    obtain ⟨m, b, rfl⟩ : ∃ m b, l = m ++ [b] := ⟨l.dropLast, l.getLast h0, (List.dropLast_concat_getLast h0).symm⟩
    rw [decFrom_snoc] at hd
    obtain ⟨q, hq, hd⟩ := Option.bind_eq_some_iff.1 hd
    obtain ⟨d, hdv, rfl⟩ := Option.map_eq_some_iff.1 hd
    obtain ⟨d1, d2, rfl⟩ := Lib.digitVal_eq hdv
    have hb : UInt8.ofNat (48 + (b.toNat - 48)) = b := by rw [show 48 + (b.toNat - 48) = b.toNat by omega]; simp
    cases m with
    | nil =>
      simp only [Lib.decFrom, Option.some.injEq] at hq
      subst hq
      rw [Nat.zero_mul, Nat.zero_add, Lib.decDigits_one (by omega), hb]; rfl
    | cons c r =>
      have hlen : (c :: r).length = n := by simp at hn ⊢; omega
      have hc : c ≠ 48 := fun e => by
        have := hh (by rw [e]; rfl)
        simp at this
      have hm := ih (c :: r) q hlen (by simp) (fun e => absurd (Option.some.inj e) hc) hq
      have hq10 : 1 ≤ q := by
        rcases Nat.eq_zero_or_pos q with h | h
        · subst h
          rw [Lib.decDigits_one (by omega)] at hm
          have := List.cons.inj hm
          exact absurd this.1.symm (by simpa using hc)
        · exact h
      have e : Lib.decDigits (q * 10 + (b.toNat - 48)) = Lib.decDigits ((q * 10 + (b.toNat - 48)) / 10) ++ [UInt8.ofNat (48 + (q * 10 + (b.toNat - 48)) % 10)] := by rw [Lib.decDigits, dif_neg (by omega)]
      rw [e, show (q * 10 + (b.toNat - 48)) / 10 = q by omega, show (q * 10 + (b.toNat - 48)) % 10 = b.toNat - 48 by omega, hm, hb]
theorem lenV_some {l : Tx} {m : Nat} (h : lenV l = some m) : Lib.atoiAll l = .ok (m : Int) ∧ Lib.itoa (m : Int) = l ∧ l.length ≤ 9 ∧ m < 1000000000 := by
  unfold lenV at h
  split at h
  · cases h
  · rename_i hc
    have h1 : 1 ≤ l.length := by omega
    have h9 : l.length ≤ 9 := by omega
    cases l with
    | nil => simp at h1
    | cons c r =>
      have hdig := Lib.digit_of_decFrom (c :: r) 0 m h 0 c rfl
      obtain ⟨d, hd⟩ := hdig
      obtain ⟨d1, d2, _⟩ := Lib.digitVal_eq hd
      have hlt := Lib.decFrom_lt (c :: r) 0 m h
      have hp : 10 ^ (c :: r).length ≤ 10 ^ 9 := Nat.pow_le_pow_right (by decide) h9
      have hm : m < 1000000000 := by
        have : (0 + 1) * 10 ^ (c :: r).length ≤ 1000000000 := by simpa using hp
        omega
      refine ⟨?_, ?_, h9, hm⟩
      · rw [Lib.atoiAll_plain c r (by omega) (by omega), Lib.signless_short (by omega)]
        simp [Lib.decNat, h, Lib.NumEnd.ofOption]
      · rw [Lib.itoa_nonneg]
        exact digits_dec _ (c :: r) m rfl (by simp) (fun e => by
          by_cases hl : (c :: r).length = 1
          · exact hl
          · exact absurd (Or.inr (Or.inr ⟨by omega, e⟩)) hc) h
theorem lenV_none {l : Tx} (h : lenV l = none) {k : Int} (ha : Lib.atoiAll l = .ok k) (h9 : l.length ≤ 9) (hk : 0 ≤ k) : Lib.itoa k ≠ l := by
  intro e
  obtain ⟨u, rfl⟩ := Int.eq_ofNat_of_zero_le hk
  rw [Lib.itoa_nonneg] at e
  obtain ⟨h1, h2, h3⟩ := dec_digits u
  rw [e] at h1 h2 h3
  unfold lenV at h
  rw [if_neg] at h
  · rw [h1] at h; cases h
  · rintro (hc | hc | ⟨hc, hc2⟩)
    · exact h2 (List.eq_nil_of_length_eq_zero (by omega))
    · omega
    · have := h3 hc2
      subst this
      rw [Lib.decDigits_one (by omega)] at e
      rw [← e] at hc
      simp at hc
/-! ### the other lines -/
def lineV (s : Tx) : Option (Tx × Tx) :=
  match ix s 58 with
  | none => none
  | some k => if tokB (s.take k) = true ∧ (trimV (s.drop (k + 1))).all charOk = true then some ((s.take k).map tb, trimV (s.drop (k + 1))) else none
abbrev hostT : Tx := [104, 111, 115, 116]
abbrev clenT : Tx := [99, 111, 110, 116, 101, 110, 116, 45, 108, 101, 110, 103, 116, 104]
abbrev tencT : Tx := [116, 114, 97, 110, 115, 102, 101, 114, 45, 101, 110, 99, 111, 100, 105, 110, 103]
abbrev connT : Tx := [99, 111, 110, 110, 101, 99, 116, 105, 111, 110]
abbrev closeT : Tx := [99, 108, 111, 115, 101]
/-- what the other lines say: the length of the body, the state, does it close -/
def hd : List Tx → Nat → Nat → Nat → Bool → Nat × Nat × Bool
  | [], n, h, c, cl => if h = 1 ∧ c ≤ 1 then (if n > 8192 then (0, 413, cl) else (n, 0, cl)) else (0, 400, cl)
  | s :: r, n, h, c, cl => match lineV s with
    | none => (0, 400, cl)
    | some (nm, v) => if nm = hostT then hd r n (h + 1) c cl
      else if nm = clenT then (match lenV v with | none => (0, 400, cl) | some m => hd r m h (c + 1) cl)
      else if nm = tencT then (0, 400, cl)
      else if nm = connT then hd r n h c (cl || decide (v.map tb = closeT))
      else hd r n h c cl
abbrev Res := ByteArray × ByteArray × ByteArray × Bool × Int × Int
def no (s : Nat) : Res := (⟨#[]⟩, ⟨#[]⟩, ⟨#[]⟩, false, 0, (s : Int))
def fin2 (p : Tx) (at_ : Nat) (m q : Tx) (h : Nat × Nat × Bool) : Res :=
  if h.2.1 > 0 then no h.2.1 else if p.length - at_ < h.1 then no 0 else (ba m, ba q, ba ((p.drop at_).take h.1), h.2.2, ((at_ + h.1 : Nat) : Int), 0)
def finV (p : Tx) (ls : List Tx) (at_ : Nat) : Res :=
  match firstV (ls.headD []) with
  | none => no 400
  | some (m, q) => fin2 p at_ m q (hd (ls.drop 1) 0 0 0 false)
def crV (l : Tx) : Option Tx := if l.getLast? = some 13 then some l.dropLast else none
def rdV (p : Tx) : Nat → List Tx → Nat → Res
  | 0, _, _ => no 0
  | f + 1, ls, at_ => if ls.length > 32 then no 431 else
    match ix (p.drop at_) 10 with
    | none => if p.length > 2048 then no 431 else no 0
    | some i => if at_ + i + 1 > 2048 then no 431 else
      match crV ((p.drop at_).take i) with
      | none => no 400
      | some line => if line = [] ∧ ls ≠ [] then finV p ls (at_ + i + 1) else rdV p f (ls ++ [line]) (at_ + i + 1)
def readV (p : Tx) : Res := rdV p (p.length + 1) [] 0
/-! ### cuts at blanks -/
theorem ix_B (l : Tx) (c : UInt8) : Lib.indexB (ba l) (ba [c]) = ixI (ix l c) := by
  show Lib.index l [c] = _
  rw [Lib.index_one, ix_index]
theorem sp_miss (l : Tx) (c : UInt8) (h : ix l c = none) : Lib.splitB (ba [c]) 0 (Lib.countB (ba l) (ba [c])) (ba l) = [ba l] :=
  Lib.splitB_miss _ _ _ _ (by rw [ix_B, h]; rfl)
theorem sp_hit (l : Tx) (c : UInt8) (i : Nat) (h : ix l c = some i) : Lib.splitB (ba [c]) 0 (Lib.countB (ba l) (ba [c])) (ba l) = ba (l.take i) :: Lib.splitB (ba [c]) 0 (Lib.countB (ba (l.drop (i + 1))) (ba [c])) (ba (l.drop (i + 1))) := by
  have h1 : Lib.indexB (ba l) (ba [c]) = ((i : Nat) : Int) := by rw [ix_B, h]; rfl
  have e : (ba l).extract (i + (ba [c]).size) (ba l).size = ba (l.drop (i + 1)) := by
    rw [ba_ext, ba_size, ba_size]
    congr 1
    exact List.take_of_length_le (by rw [List.length_drop]; simp)
  rw [Lib.countB_hit _ _ i (by rw [ba_size]; simp) h1, e, Nat.add_comm, Lib.splitB_hit _ _ _ _ i h1, e, ba_ext]
  simp
theorem sp_len (l : Tx) (c : UInt8) : (Lib.splitB (ba [c]) 0 (Lib.countB (ba l) (ba [c])) (ba l)).length = Lib.countB (ba l) (ba [c]) + 1 := Lib.splitB_all _ (by rw [ba_size]; simp) 0 _ _ rfl
end Go.Proofs.YtpigloohccpfiaaDoor.M
