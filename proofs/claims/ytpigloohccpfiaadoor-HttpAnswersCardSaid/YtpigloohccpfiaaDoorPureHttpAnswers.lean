/- On the printed functions of HttpAnswers: what each of them answers, in plain words. -/
import Derived.Test.YtpigloohccpfiaaDoorPHttpAnswersx
import Derived.Test.YtpigloohccpfiaaDoorMAns
import Derived.Test.YtpigloohccpfiaaDoorQHttpAnswers
namespace Go.Proofs.YtpigloohccpfiaaDoor.Pure
open Go.RowKit Go.Proofs.YtpigloohccpfiaaDoor.G Go.Proofs.YtpigloohccpfiaaDoor.PHttpAnswers Go.Proofs.YtpigloohccpfiaaDoorW.PrintWords Go.Proofs.YtpigloohccpfiaaDoorW.PrintLast Go.Proofs.YtpigloohccpfiaaDoorW.PrintMore Go.Proofs.YtpigloohccpfiaaDoor.M
set_option linter.unusedVariables false
set_option linter.unusedSimpArgs false

theorem ev_some {α : Type} {g : Nat → Option α} {r : α} (h : ∀ k, g (k + 1) = some r) : Ev g r := Ev.step (f := fun _ => some r) h (Ev.now r)
theorem ev_mono {α : Type} {g : Nat → Option α} {r : α} (hg : ∀ k, LeO (g k) (g (k + 1))) {k : Nat} (h : g k = some r) : Ev g r := Ev.of hg h
theorem up1 {i : Nat} (h : i ≤ 140737488351232) : wrap64 ((i : Int) + 1) = ((i + 1 : Nat) : Int) := by rw [M.w64 (by omega) (by omega)]; omega
theorem ba_from (l : Tx) (i : Nat) : (ba l).extract i (ba l).size = ba (l.drop i) := by
  rw [ba_ext, ba_size, List.take_of_length_le (by rw [List.length_drop]; exact Nat.le_refl _)]
theorem ba_to (l : Tx) (i : Nat) : (ba l).extract 0 i = ba (l.take i) := by
  rw [ba_ext, List.drop_zero, Nat.sub_zero]
theorem tokc_iff (b : UInt8) : tokc b = true ↔ ((97 ≤ b.toNat ∧ b.toNat ≤ 122) ∨ (65 ≤ b.toNat ∧ b.toNat ≤ 90) ∨ (48 ≤ b.toNat ∧ b.toNat ≤ 57) ∨ b.toNat = 45 ∨ b.toNat = 95) := by simp [tokc]
theorem bits_tab : ∀ b : Fin 256, (97 ≤ Go.bits .or .u8 (b.val : Int) 32 ∧ Go.bits .or .u8 (b.val : Int) 32 ≤ 122) ↔ ((97 ≤ b.val ∧ b.val ≤ 122) ∨ (65 ≤ b.val ∧ b.val ≤ 90)) := by decide +kernel
theorem token_loop (l : Tx) (hl : l.length ≤ 140737488351232) : ∀ (d i : Nat), l.length - i = d → i ≤ l.length → Ev (fun k => http_token.l0 k (ba l) (l.length : Int) (i : Int)) ((l.drop i).all tokc && !l.isEmpty) := by
  intro d
  induction d with
  | zero =>
    intro i hd hi
    refine ev_some fun k => ?_
    simp only [http_token.l0]
    rw [if_neg (by omega), ba_list, List.drop_of_length_le (by omega)]
    cases l <;> simp
  | succ d ih =>
    intro i hd hi
    have hlt : i < l.length := by omega
    have h2 := ih (i + 1) (by omega) (by omega)
    have e64 := up1 (i := i) (by omega)
    rw [List.drop_eq_getElem_cons hlt, List.all_cons]
    have hb := bits_tab ⟨l[i].toNat, l[i].toNat_lt⟩
    have hq := tokc_iff l[i]
    by_cases ht : tokc l[i] = true
    · rw [ht, Bool.true_and]
      refine Ev.step (fun k => ?_) h2
      simp only [http_token.l0]
      rw [if_pos (by omega), if_pos (by omega), if_pos (by rw [ba_size]; omega), bt_ba l i hlt, e64]
      replace hq := hq.1 ht
      dsimp only at hb
      generalize Go.bits .or .u8 ((l[i]).toNat : Int) 32 = x at *
      generalize (l[i]).toNat = b at *
      repeat' split
      all_goals first | rfl | (exfalso; omega)
    · rw [Bool.eq_false_iff.2 ht, Bool.false_and]
      refine ev_some fun k => ?_
      simp only [http_token.l0]
      rw [if_pos (by omega), if_pos (by omega), if_pos (by rw [ba_size]; omega), bt_ba l i hlt, e64]
      replace hq := mt hq.2 ht
      dsimp only at hb
      generalize Go.bits .or .u8 ((l[i]).toNat : Int) 32 = x at *
      generalize (l[i]).toNat = b at *
      repeat' split
      all_goals first | rfl | (exfalso; omega)
theorem token_ev (l : Tx) (hl : l.length ≤ 140737488351232) : Ev (fun k => http_token.f k (ba l)) (tokB l) := by
  have h := token_loop l hl _ 0 rfl (by omega)
  rw [List.drop_zero] at h
  refine Ev.congr (fun k => ?_) h
  simp only [http_token.f]
  rw [ba_size]; rfl
theorem prefix_eq (q : Tx) : strings_HasPrefix.f (ba q) (⟨#[47]⟩ : ByteArray) = some (decide (q.head? = some 47)) := by
  have e1 : (⟨#[47]⟩ : ByteArray) = ba [47] := rfl
  unfold strings_HasPrefix.f stringslite_HasPrefix.f
  rw [e1]
  cases q with
  | nil => rw [if_neg (by simp only [ba_size, List.length_nil, List.length_cons]; omega)]; rfl
  | cons a r =>
    rw [if_pos (by simp only [ba_size, List.length_cons, List.length_nil]; omega), if_pos (by omega), if_pos (by simp only [ba_size, List.length_cons, List.length_nil]; omega)]
    rw [show ((((ba [47]).size : Int)).toNat) = 1 by rw [ba_size]; rfl, ba_to, ba_list, ba_list]
    simp only [List.take_succ_cons, List.take_zero, Option.bind_some, List.head?_cons]
    congr 1
    by_cases h : a = 47 <;> simp [h]
theorem suffix_eq (l : Tx) (hl : l.length ≤ 140737488351232) : strings_CutSuffix.f (ba l) (⟨#[13]⟩ : ByteArray) = some (match crV l with | some m => (ba m, true) | none => (ba l, false)) := by
  have e1 : (⟨#[13]⟩ : ByteArray) = ba [13] := rfl
  unfold strings_CutSuffix.f stringslite_CutSuffix.f stringslite_HasSuffix.f
  rw [e1]
  rcases List.eq_nil_or_concat l with rfl | ⟨m, b, hmb⟩
  · rw [if_neg (by simp only [ba_size, List.length_nil, List.length_cons]; omega)]; rfl
  · rw [List.concat_eq_append] at hmb
    subst hmb
    have hz : (m ++ [b]).length = m.length + 1 := by simp
    rw [hz] at hl
    have hw : wrap64 (((ba (m ++ [b])).size : Int) - ((ba [13]).size : Int)) = (m.length : Int) := by
      rw [ba_size, ba_size, hz, M.w64 (by simp only [List.length_cons, List.length_nil]; omega) (by simp only [List.length_cons, List.length_nil]; omega)]; simp
    rw [if_pos (by simp only [ba_size, hz, List.length_cons, List.length_nil]; omega), hw, if_pos (by omega), if_pos (by rw [ba_size, hz]; omega), Int.toNat_natCast, ba_from, ba_list, ba_list]
    simp only [List.drop_left, Option.bind_some]
    unfold crV
    rw [show (m ++ [b]).getLast? = some b by simp, ba_to]
    by_cases h : b = 13
    · subst h
      rw [if_pos (by simp), if_pos (by omega), if_pos (by rw [ba_size, hz]; omega)]
      simp
    · rw [if_neg (by simpa using h)]
      simp [h]
/-! ### the first line -/
abbrev eB : ByteArray := ⟨#[]⟩
def firstR (o : Option (Tx × Tx)) : ByteArray × ByteArray × ByteArray × Bool × Bool := match o with
  | none => (eB, eB, eB, false, false)
  | some (m, q) => (ba m, ba q, eB, false, true)
theorem pathc_iff (b : UInt8) : pathc b = true ↔ (33 ≤ b.toNat ∧ b.toNat ≤ 126) := by simp [pathc]
theorem hpath_loop (a q c : ByteArray) (q' : Tx) (hqq : q = ba q') (hq : q'.length ≤ 140737488351232) : ∀ (d i : Nat), q'.length - i = d → i ≤ q'.length → Ev (fun k => http_first.l0 k [a, q, c] (q'.length : Int) (i : Int)) (if (q'.drop i).all pathc = true then (a, q, eB, false, true) else (eB, eB, eB, false, false)) := by
  subst hqq
  intro d
  induction d with
  | zero =>
    intro i hd hi
    rw [List.drop_of_length_le (by omega)]
    refine ev_some fun k => ?_
    simp only [http_first.l0]
    rw [if_neg (by omega), if_pos (by simp), if_pos (by simp)]; rfl
  | succ d ih =>
    intro i hd hi
    have hlt : i < q'.length := by omega
    have h2 := ih (i + 1) (by omega) (by omega)
    have e64 := up1 (i := i) (by omega)
    rw [List.drop_eq_getElem_cons hlt, List.all_cons]
    have hb := pathc_iff q'[i]
    have e1 : rdOf ByteArray.empty [a, ba q', c] 1 = ba q' := rfl
    by_cases ht : pathc q'[i] = true
    · rw [ht, Bool.true_and]
      refine Ev.step (fun k => ?_) h2
      simp only [http_first.l0]
      have := hb.1 ht
      rw [if_pos (by omega), if_pos (by simp), if_pos (by omega), e1, if_pos (by rw [ba_size]; omega), bt_ba q' i hlt, if_neg (by omega), if_neg (by omega), e64]
    · rw [Bool.eq_false_iff.2 ht, Bool.false_and]
      refine ev_some fun k => ?_
      simp only [http_first.l0]
      have := mt hb.2 ht
      rw [if_pos (by omega), if_pos (by simp), if_pos (by omega), e1, if_pos (by rw [ba_size]; omega), bt_ba q' i hlt]
      by_cases h33 : ((q'[i].toNat : Nat) : Int) ≤ 32
      · rw [if_pos h33]; rfl
      · rw [if_neg h33, if_pos (by omega)]; rfl
theorem hj0_no (k : Nat) (xs : List ByteArray) : http_first.j0 (k + 1) xs true = some (firstR none) := by
  simp only [http_first.j0]; rw [if_pos trivial]; rfl
theorem hfirst_ev (l : Tx) (hl : l.length ≤ 2048) : Ev (fun k => http_first.f k (ba l)) (firstR (firstV l)) := by
  have hsp : strings_Split.f (ba l) (⟨#[32]⟩ : ByteArray) = some (Lib.splitB (ba [32]) 0 (Lib.countB (ba l) (ba [32])) (ba l)) := by
    unfold strings_Split.f
    rw [if_pos ⟨by rw [ba_size]; omega, by show 1 ≤ (ba [32]).size; rw [ba_size]; simp⟩]; rfl
  unfold firstV
  cases hi : ix l 32 with
  | none =>
    refine ev_some fun k => ?_
    simp only [http_first.f]
    rw [hsp, Option.bind_some, sp_miss _ _ hi, if_neg (by simp), hj0_no]
  | some i =>
    have hil := ix_lt _ _ _ hi
    rw [sp_hit _ _ _ hi] at hsp
    have hrl : (l.drop (i + 1)).length ≤ 2048 := by rw [List.length_drop]; omega
    dsimp only
    generalize hr : l.drop (i + 1) = r at hrl hsp ⊢
    cases hj : ix r 32 with
    | none =>
      rw [sp_miss _ _ hj] at hsp
      refine ev_some fun k => ?_
      simp only [http_first.f]
      rw [hsp, Option.bind_some, if_neg (by simp), hj0_no]
    | some j =>
      rw [sp_hit _ _ _ hj] at hsp
      have hjl := ix_lt _ _ _ hj
      dsimp only
      cases hx : ix (r.drop (j + 1)) 32 with
      | some m =>
        rw [sp_hit _ _ _ hx] at hsp
        have hz := sp_len ((r.drop (j + 1)).drop (m + 1)) 32
        refine ev_some fun k => ?_
        simp only [http_first.f]
        rw [hsp, Option.bind_some, if_neg (by simp only [List.length_cons]; omega), hj0_no, if_neg]
        rintro ⟨h, _⟩
        rw [h, show ix http11 32 = none by decide] at hx
        cases hx
      | none =>
        rw [sp_miss _ _ hx] at hsp
        obtain ⟨K3, h3⟩ := token_ev (l.take i) (by rw [List.length_take]; omega)
        obtain ⟨K4, h4⟩ := hpath_loop (ba (l.take i)) (ba (r.take j)) (ba (r.drop (j + 1))) (r.take j) rfl (by rw [List.length_take]; omega) _ 0 rfl (by omega)
        rw [List.drop_zero] at h4
        dsimp only at h3 h4
        refine ⟨K3 + K4 + 2, fun k hk => ?_⟩
        obtain ⟨k, rfl⟩ : ∃ j, k = j + 2 := ⟨k - 2, by omega⟩
        simp only [http_first.f]
        rw [hsp, Option.bind_some, if_pos (by simp), if_pos (by simp)]
        rw [show rdOf ByteArray.empty [ba (l.take i), ba (r.take j), ba (r.drop (j + 1))] 0 = ba (l.take i) from rfl, show rdOf ByteArray.empty [ba (l.take i), ba (r.take j), ba (r.drop (j + 1))] 1 = ba (r.take j) from rfl, show rdOf ByteArray.empty [ba (l.take i), ba (r.take j), ba (r.drop (j + 1))] 2 = ba (r.drop (j + 1)) from rfl]
        rw [h3 _ (by omega), Option.bind_some]
        by_cases ht : tokB (l.take i) = true
        · rw [if_pos ht, if_pos (by simp), ba_list, show ([72, 84, 84, 80, 47, 49, 46, 49] : List UInt8) = http11 from rfl]
          by_cases hh : r.drop (j + 1) = http11
          · rw [if_pos hh, if_pos (by simp), prefix_eq, Option.bind_some]
            simp only [http_first.j0]
            by_cases hp : (r.take j).head? = some 47
            · rw [if_neg (by simp [hp]), if_pos (by simp)]
              rw [show rdOf ByteArray.empty [ba (l.take i), ba (r.take j), ba (r.drop (j + 1))] 1 = ba (r.take j) from rfl, ba_size]
              have h5 := h4 (k + 1) (by omega)
              rw [show ((0 : Nat) : Int) = 0 from rfl] at h5
              rw [h5]
              by_cases hap : (r.take j).all pathc = true
              · rw [if_pos hap, if_pos ⟨hh, ht, hp, hap⟩]; rfl
              · rw [if_neg hap, if_neg (fun h => hap h.2.2.2)]; rfl
            · rw [if_pos (by simp [hp]), if_neg (fun h => hp h.2.2.1)]; rfl
          · rw [if_neg hh, hj0_no, if_neg (fun h => hh h.1)]
        · rw [if_neg ht, hj0_no, if_neg (fun h => ht h.2.1)]
/-! ### trimming, small letters, lengths -/
theorem sp_iff (b : UInt8) : strings_Trim.sp b = true ↔ ((b.toNat : Int) = 32 ∨ (b.toNat : Int) = 9) := by
  have h1 : b = 32 ↔ b.toNat = 32 := ⟨fun h => by rw [h]; rfl, fun h => UInt8.toNat_inj.1 h⟩
  have h2 : b = 9 ↔ b.toNat = 9 := ⟨fun h => by rw [h]; rfl, fun h => UInt8.toNat_inj.1 h⟩
  have h3 : strings_Trim.sp b = true ↔ (b = 32 ∨ b = 9) := by simp [strings_Trim.sp]
  rw [h3, h1, h2]; omega
theorem rt_snoc (m : Tx) (b : UInt8) : rt (m ++ [b]) = if strings_Trim.sp b = true then rt m else m ++ [b] := by
  unfold rt
  rw [List.reverse_append, List.reverse_cons, List.reverse_nil, List.nil_append, List.singleton_append, List.dropWhile_cons]
  by_cases h : strings_Trim.sp b = true
  · rw [if_pos h, if_pos h]
  · rw [if_neg h, if_neg h]; simp
theorem htrim_eq (l : Tx) (hl : l.length ≤ 2048) : strings_Trim.f (ba l) (⟨#[32, 9]⟩ : ByteArray) = some (ba (trimV l)) := by
  unfold strings_Trim.f
  rw [if_pos ⟨rfl, by rw [ba_size]; omega⟩]; rfl
theorem small_eq (l : Tx) (hl : l.length ≤ 2048) : http_small.f (ba l) = some (ba (Lib.mapD http_small.lo l)) := by
  unfold http_small.f
  rw [if_pos (by rw [ba_size]; omega)]; rfl
theorem cut_eq (s : Tx) (hs : s.length ≤ 2048) : strings_Cut.f (ba s) (⟨#[58]⟩ : ByteArray) = some (match ix s 58 with | none => (ba s, eB, false) | some k => (ba (s.take k), ba (s.drop (k + 1)), true)) := by
  unfold strings_Cut.f
  rw [if_pos (by rw [ba_size]; omega), ba_data, show (⟨#[58]⟩ : ByteArray).data.toList = [58] from rfl]
  unfold Lib.cut
  rw [Lib.index_one, ix_index]
  cases ix s 58 with
  | none => rfl
  | some k =>
    have hp : 0 ≤ ixI (some k) := by show (0 : Int) ≤ (k : Int); omega
    simp only [if_pos hp]
    rfl
def lenR (o : Option Nat) : Int := match o with | none => -1 | some n => (n : Int)
theorem charOk_iff (b : UInt8) : charOk b = true ↔ ((32 ≤ b.toNat ∨ b.toNat = 9) ∧ b.toNat ≠ 127) := by simp [charOk]
/-! ### the other lines: the program's side -/
abbrev HR := Int × Int × ByteArray × ByteArray × ByteArray × Bool
def hdR (m q e : ByteArray) (r : Nat × Nat × Bool) : HR := ((r.1 : Int), (r.2.1 : Int), m, q, e, r.2.2)
theorem hchars (n h c : Int) (nm : ByteArray) (v : Tx) (L : List ByteArray) (x18 x19 : Int) (m q e : ByteArray) (cl : Bool) (hv : v.length ≤ 2048) (r : HR)
    (h1 : v.all charOk = true → Ev (fun k => http_heads.l1 k n h c nm (ba v) L x18 x19 (v.length : Int) (v.length : Int) m q e cl) r)
    (h0 : v.all charOk = false → r = (0, 400, m, q, e, cl)) : ∀ (d j : Nat), v.length - j = d → j ≤ v.length → (v.take j).all charOk = true → Ev (fun k => http_heads.l1 k n h c nm (ba v) L x18 x19 (v.length : Int) (j : Int) m q e cl) r := by
  intro d
  induction d with
  | zero =>
    intro j hd hj hp
    obtain rfl : j = v.length := by omega
    rw [List.take_length] at hp
    exact h1 hp
  | succ d ih =>
    intro j hd hj hp
    have hlt : j < v.length := by omega
    have e64 := up1 (i := j) (by omega)
    have hb := charOk_iff v[j]
    by_cases ht : charOk v[j] = true
    · have h2 := ih (j + 1) (by omega) (by omega) (by rw [List.take_succ_eq_append_getElem hlt, List.all_append, hp]; simp [ht])
      refine Ev.step (fun k => ?_) h2
      have := hb.1 ht
      simp only [http_heads.l1]
      rw [if_pos (by omega), if_pos (by omega), if_pos (by rw [ba_size]; omega), bt_ba v j hlt, e64]
      by_cases h32 : ((v[j].toNat : Nat) : Int) < 32
      · rw [if_pos h32, if_pos (by omega), if_neg (by omega)]
      · rw [if_neg h32, if_neg (by omega)]
    · have hf : v.all charOk = false := by
        apply Bool.eq_false_iff.2
        intro e
        exact ht (List.all_eq_true.1 e _ (List.getElem_mem hlt))
      rw [h0 hf]
      refine ev_some fun k => ?_
      have := mt hb.2 ht
      simp only [http_heads.l1]
      rw [if_pos (by omega), if_pos (by omega), if_pos (by rw [ba_size]; omega), bt_ba v j hlt, e64]
      by_cases h32 : ((v[j].toNat : Nat) : Int) < 32
      · rw [if_pos h32]
        by_cases h9 : ((v[j].toNat : Nat) : Int) = 9
        · omega
        · rw [if_neg h9]
      · rw [if_neg h32, if_pos (by omega)]
theorem rdOf_at (ls : List Tx) (i : Nat) (h : i < ls.length) : rdOf ByteArray.empty (ls.map ba) (i : Int) = ba ls[i] := by
  unfold rdOf
  rw [Int.toNat_natCast, List.getD_eq_getElem?_getD, List.getElem?_eq_getElem (by simpa using h)]
  simp
theorem ap2 : ∀ b ∈ hostT, b.toNat < 128 := by decide
theorem ap3 : ∀ b ∈ clenT, b.toNat < 128 := by decide
theorem ap4 : ∀ b ∈ tencT, b.toNat < 128 := by decide
theorem ap5 : ∀ b ∈ connT, b.toNat < 128 := by decide
theorem ap6 : ∀ b ∈ closeT, b.toNat < 128 := by decide
/-- one line, behind its signs -/
def lineR (s : Tx) (r : List Tx) (nm v : Tx) (n h c : Nat) (cl : Bool) : Nat × Nat × Bool :=
  if nm = hostT then hd r n (h + 1) c cl
      else if nm = clenT then (match lenV v with | none => (0, 400, cl) | some m => hd r m h (c + 1) cl)
      else if nm = tencT then (0, 400, cl)
      else if nm = connT then hd r n h c (cl || decide (v.map tb = closeT))
      else hd r n h c cl
theorem hd_cons (s : Tx) (r : List Tx) (n h c : Nat) (cl : Bool) : hd (s :: r) n h c cl = match lineV s with | none => (0, 400, cl) | some (nm, v) => lineR s r nm v n h c cl := by
  rw [hd.eq_2]; rfl
theorem hj1_no (k : Nat) (x6 x7 x8 : Int) (x11 x12 : ByteArray) (x17 : List ByteArray) (x18 x19 : Int) (m q e : ByteArray) (cl : Bool) : http_heads.j1 (k + 1) x6 x7 x8 x11 x12 x17 x18 x19 true m q e cl = some (0, 400, m, q, e, cl) := by
  simp only [http_heads.j1]; rw [if_pos trivial]
theorem atoi_ok (v : Tx) (hv : v.length ≤ 2048) {a : Int} (h : Lib.atoiAll v = .ok a) : strconv_Atoi.f (ba v) = some (a, none) := by
  unfold strconv_Atoi.f
  rw [if_pos (by rw [ba_size]; omega), ba_data, h]
theorem atoi_no (v : Tx) (hv : v.length ≤ 2048) (h : ∀ a, Lib.atoiAll v ≠ .ok a) : ∃ a c, strconv_Atoi.f (ba v) = some (a, some c) := by
  unfold strconv_Atoi.f
  rw [if_pos (by rw [ba_size]; omega), ba_data]
  cases hx : Lib.atoiAll v <;> first | exact absurd hx (h _) | exact ⟨_, _, rfl⟩
theorem heads_loop (ls : List Tx) (hls : ∀ s ∈ ls, s.length ≤ 2048) (hn : ls.length ≤ 40) (m q e : ByteArray) : ∀ (d i n h c : Nat) (cl : Bool), ls.length - i = d → i ≤ ls.length → h ≤ i → c ≤ i → Ev (fun k => http_heads.l0 k (n : Int) (h : Int) (c : Int) (ls.map ba) (ls.length : Int) (i : Int) m q e cl) (hdR m q e (hd (ls.drop i) n h c cl)) := by
  intro d
  induction d with
  | zero =>
    intro i n h c cl hd' hi hh hc
    rw [List.drop_of_length_le (by omega)]
    refine ⟨2, fun k hk => ?_⟩
    obtain ⟨k, rfl⟩ : ∃ j, k = j + 2 := ⟨k - 2, by omega⟩
    simp only [http_heads.l0, http_heads.j3, hd]
    rw [if_neg (by omega)]
    by_cases h1 : h = 1
    · subst h1
      rw [if_pos (by omega)]
      by_cases hc1 : c ≤ 1
      · rw [if_neg (by simp; omega), if_pos (show (1 : Nat) = 1 ∧ c ≤ 1 from ⟨rfl, hc1⟩)]
        by_cases hb : n > 8192
        · rw [if_pos (show (n : Int) > 8192 by omega), if_pos hb]; rfl
        · rw [if_neg (show ¬ (n : Int) > 8192 by omega), if_neg hb]; rfl
      · rw [if_pos (by simp; omega), if_neg (fun x => hc1 x.2)]; rfl
    · rw [if_neg (by omega), if_pos trivial, if_neg (fun x => h1 x.1)]; rfl
  | succ d ih =>
    intro i n h c cl hd' hi hh hc
    have hlt : i < ls.length := by omega
    have e64 := up1 (i := i) (by omega)
    have eh := up1 (i := h) (by omega)
    have ec := up1 (i := c) (by omega)
    rw [List.drop_eq_getElem_cons hlt, hd_cons]
    have hs := hls _ (List.getElem_mem hlt)
    have e1 := rdOf_at ls i hlt
    generalize ls[i] = s at hs e1 ⊢
    have hcut := cut_eq s hs
    have hlen : ((ls.map ba).length : Int) = (ls.length : Int) := by rw [List.length_map]
    unfold lineV
    cases hk : ix s 58 with
    | none =>
      rw [hk] at hcut
      refine ⟨2, fun k hk => ?_⟩
      obtain ⟨k, rfl⟩ : ∃ j, k = j + 2 := ⟨k - 2, by omega⟩
      simp only [http_heads.l0]
      rw [if_pos (by omega), if_pos (by omega), if_pos (by omega), e1, hcut, Option.bind_some, if_neg (by simp), hj1_no]; rfl
    | some w =>
      rw [hk] at hcut
      have hnl : (s.take w).length ≤ 2048 := by rw [List.length_take]; omega
      have hvl : (trimV (s.drop (w + 1))).length ≤ 2048 := by
        have := trim_le (s.drop (w + 1))
        rw [List.length_drop] at this; omega
      have htr := htrim_eq (s.drop (w + 1)) (by rw [List.length_drop]; omega)
      obtain ⟨K1, h1⟩ := token_ev (s.take w) (by omega)
      dsimp only at hcut h1 ⊢
      generalize s.take w = nm at *
      generalize trimV (s.drop (w + 1)) = v at *
      by_cases ht : tokB nm = true
      · have key : ∀ R : HR, (v.all charOk = true → R = hdR m q e (lineR s (ls.drop (i + 1)) (nm.map tb) v n h c cl)) → (v.all charOk = false → R = (0, 400, m, q, e, cl)) → Ev (fun k => http_heads.l1 k (n : Int) (h : Int) (c : Int) (ba nm) (ba v) (ls.map ba) (ls.length : Int) (i : Int) (v.length : Int) 0 m q e cl) R := by
          intro R hR1 hR0
          refine hchars _ _ _ _ v _ _ _ _ _ _ _ hvl R (fun ha => ?_) hR0 _ 0 rfl (by omega) rfl
          rw [hR1 ha]
          have hsm := small_eq nm hnl
          have mh : Lib.mapD http_small.lo nm = ([104, 111, 115, 116] : List UInt8) ↔ nm.map tb = hostT := mapD_small nm hostT ap2
          have mc : Lib.mapD http_small.lo nm = ([99, 111, 110, 116, 101, 110, 116, 45, 108, 101, 110, 103, 116, 104] : List UInt8) ↔ nm.map tb = clenT := mapD_small nm clenT ap3
          have mt : Lib.mapD http_small.lo nm = ([116, 114, 97, 110, 115, 102, 101, 114, 45, 101, 110, 99, 111, 100, 105, 110, 103] : List UInt8) ↔ nm.map tb = tencT := mapD_small nm tencT ap4
          have mo : Lib.mapD http_small.lo nm = ([99, 111, 110, 110, 101, 99, 116, 105, 111, 110] : List UInt8) ↔ nm.map tb = connT := mapD_small nm connT ap5
          unfold lineR
          by_cases g1 : nm.map tb = hostT
          · rw [if_pos g1]
            refine Ev.step (fun k => ?_) (ih (i + 1) n (h + 1) c cl (by omega) (by omega) (by omega) (by omega))
            simp only [http_heads.l1]
            rw [if_neg (by omega), hsm, Option.bind_some, ba_list, if_pos (mh.2 g1), eh, e64]
          · rw [if_neg g1]
            have g1' := fun x => g1 (mh.1 x)
            by_cases g2 : nm.map tb = clenT
            · rw [if_pos g2]
              cases hv : lenV v with
              | some a =>
                obtain ⟨a1, a2, a3, a4⟩ := lenV_some hv
                have hat := atoi_ok v hvl a1
                refine Ev.step (fun k => ?_) (ih (i + 1) a h (c + 1) cl (by omega) (by omega) (by omega) (by omega))
                simp only [http_heads.l1]
                have hit : strconv_Itoa.f (a : Int) = some (ba v) := by
                  unfold strconv_Itoa.f
                  rw [if_pos ⟨by omega, by omega⟩, a2]; rfl
                rw [if_neg (by omega), hsm, Option.bind_some, ba_list, if_neg g1', if_pos (mc.2 g2), hat, Option.bind_some, if_pos (show ((a : Int), (none : Option Int)).2.isNone = true from rfl), ba_size, if_neg (by omega), if_neg (show ¬ (a : Int) < 0 by omega), hit, Option.bind_some, if_pos rfl, ec, e64]
              | none =>
                dsimp only
                refine ev_some fun k => ?_
                simp only [http_heads.l1]
                rw [if_neg (by omega), hsm, Option.bind_some, ba_list, if_neg g1', if_pos (mc.2 g2)]
                by_cases hok : ∃ a, Lib.atoiAll v = .ok a
                · obtain ⟨a, ha⟩ := hok
                  rw [atoi_ok v hvl ha, Option.bind_some, if_pos (show (a, (none : Option Int)).2.isNone = true from rfl), ba_size]
                  dsimp only
                  by_cases h9 : (v.length : Int) > 9
                  · rw [if_pos h9]; rfl
                  · rw [if_neg h9]
                    by_cases hz : a < 0
                    · rw [if_pos hz]; rfl
                    · rw [if_neg hz]
                      have hne := lenV_none hv ha (by omega) (by omega)
                      have hit : strconv_Itoa.f a = some (ba (Lib.itoa a)) := by
                        unfold strconv_Itoa.f
                        have hr := Lib.atoiAll_bounds ha
                        rw [if_pos ⟨by omega, by omega⟩]; rfl
                      rw [hit, Option.bind_some, ba_list, ba_list, if_neg hne]; rfl
                · obtain ⟨a, b, hat⟩ := atoi_no v hvl (fun a ha => hok ⟨a, ha⟩)
                  rw [hat, Option.bind_some, if_neg (by simp)]; rfl
            · rw [if_neg g2]
              have g2' := fun x => g2 (mc.1 x)
              by_cases g3 : nm.map tb = tencT
              · rw [if_pos g3]
                refine ev_some fun k => ?_
                simp only [http_heads.l1]
                rw [if_neg (by omega), hsm, Option.bind_some, ba_list, if_neg g1', if_neg g2', if_pos (mt.2 g3)]; rfl
              · rw [if_neg g3]
                have g3' := fun x => g3 (mt.1 x)
                by_cases g4 : nm.map tb = connT
                · rw [if_pos g4]
                  refine Ev.step (fun k => ?_) (ih (i + 1) n h c (cl || decide (v.map tb = closeT)) (by omega) (by omega) (by omega) (by omega))
                  simp only [http_heads.l1]
                  rw [if_neg (by omega), hsm, Option.bind_some, ba_list, if_neg g1', if_neg g2', if_neg g3', if_pos (mo.2 g4), e64]
                  cases cl with
                  | true => rw [if_pos rfl, Bool.true_or]
                  | false =>
                    rw [if_neg (by simp), small_eq v hvl, Option.bind_some, ba_list, Bool.false_or]
                    have ml := mapD_small v closeT ap6
                    have : (Lib.mapD http_small.lo v == [99, 108, 111, 115, 101]) = decide (v.map tb = closeT) := by
                      rw [Bool.eq_iff_iff, decide_eq_true_iff, ← ml]
                      show _ ↔ Lib.mapD http_small.lo v = [99, 108, 111, 115, 101]
                      simp
                    rw [this]
                · rw [if_neg g4]
                  have g4' := fun x => g4 (mo.1 x)
                  refine Ev.step (fun k => ?_) (ih (i + 1) n h c cl (by omega) (by omega) (by omega) (by omega))
                  simp only [http_heads.l1]
                  rw [if_neg (by omega), hsm, Option.bind_some, ba_list, if_neg g1', if_neg g2', if_neg g3', if_neg g4', e64]
        have fin : ∀ R : HR, (v.all charOk = true → R = hdR m q e (lineR s (ls.drop (i + 1)) (nm.map tb) v n h c cl)) → (v.all charOk = false → R = (0, 400, m, q, e, cl)) → Ev (fun k => http_heads.l0 k (n : Int) (h : Int) (c : Int) (ls.map ba) (ls.length : Int) (i : Int) m q e cl) R := by
          intro R hR1 hR0
          obtain ⟨K2, h2⟩ := key R hR1 hR0
          dsimp only at h2
          refine ⟨K1 + K2 + 2, fun k hk => ?_⟩
          obtain ⟨k, rfl⟩ : ∃ j, k = j + 2 := ⟨k - 2, by omega⟩
          simp only [http_heads.l0]
          rw [if_pos (by omega), if_pos (by omega), if_pos (by omega), e1, hcut, Option.bind_some]
          dsimp only
          rw [if_pos rfl, h1 _ (by omega), Option.bind_some, ht]
          simp only [http_heads.j1]
          rw [if_neg (by simp), htr, Option.bind_some, ba_size]
          exact h2 k (by omega)
        by_cases ha : v.all charOk = true
        · rw [if_pos ⟨ht, ha⟩]
          exact fin _ (fun _ => rfl) (fun h => by rw [ha] at h; cases h)
        · rw [if_neg (fun x => ha x.2)]
          exact fin _ (fun h => absurd h ha) (fun _ => rfl)
      · rw [if_neg (fun x => ht x.1)]
        refine ⟨K1 + 2, fun k hk => ?_⟩
        obtain ⟨k, rfl⟩ : ∃ j, k = j + 2 := ⟨k - 2, by omega⟩
        simp only [http_heads.l0]
        rw [if_pos (by omega), if_pos (by omega), if_pos (by omega), e1, hcut, Option.bind_some]
        dsimp only
        rw [if_pos rfl, h1 _ (by omega), Option.bind_some, Bool.eq_false_iff.2 ht]
        exact hj1_no _ _ _ _ _ _ _ _ _ _ _ _ _
theorem heads_ev (ls : List Tx) (hls : ∀ s ∈ ls, s.length ≤ 2048) (hn : ls.length ≤ 40) (m q e : ByteArray) (cl : Bool) : Ev (fun k => http_heads.f k m q e cl (ls.map ba)) (hdR m q e (hd ls 0 0 0 cl)) := by
  have h := heads_loop ls hls hn m q e _ 0 0 0 0 cl rfl (by omega) (by omega) (by omega)
  rw [List.drop_zero] at h
  refine Ev.congr (fun k => ?_) h
  simp only [http_heads.f]
  rw [List.length_map]; rfl
/-! ### the reader of the law -/
theorem hd_le : ∀ (l : List Tx) (n h c : Nat) (cl : Bool), (hd l n h c cl).1 ≤ 8192
  | [], n, h, c, cl => by
    unfold hd
    split
    · split
      · simp
      · simp only; omega
    · simp
  | s :: r, n, h, c, cl => by
    rw [hd_cons]
    cases lineV s with
    | none => simp
    | some a =>
      obtain ⟨nm, v⟩ := a
      dsimp only
      unfold lineR
      split
      · exact hd_le r _ _ _ _
      · split
        · cases lenV v with
          | none => simp
          | some m => exact hd_le r _ _ _ _
        · split
          · simp
          · split
            · exact hd_le r _ _ _ _
            · exact hd_le r _ _ _ _
theorem crV_at (p : Tx) (at_ i : Nat) (h : at_ + i < p.length) : crV ((p.drop at_).take i) = if i = 0 ∨ bt (ba p) ((at_ + i - 1 : Nat) : Int) ≠ 13 then none else some ((p.drop at_).take (i - 1)) := by
  cases i with
  | zero => rw [if_pos (Or.inl rfl), List.take_zero]; rfl
  | succ i =>
    have hl : i < (p.drop at_).length := by rw [List.length_drop]; omega
    have hb := bt_ba p (at_ + i) (by omega)
    rw [show at_ + (i + 1) - 1 = at_ + i by omega, hb]
    have e : (p.drop at_).take (i + 1) = (p.drop at_).take i ++ [p[at_ + i]] := by
      rw [List.take_succ_eq_append_getElem hl, List.getElem_drop]
    rw [e]
    unfold crV
    have e2 : ((p.drop at_).take i ++ [p[at_ + i]]).getLast? = some p[at_ + i] := by simp
    have e3 : ((p.drop at_).take i ++ [p[at_ + i]]).dropLast = (p.drop at_).take i := by simp
    rw [e2, e3, Nat.add_sub_cancel]
    by_cases h13 : p[at_ + i] = 13
    · rw [if_pos (by rw [h13]), if_neg]
      rintro (h | h)
      · exact absurd h (by omega)
      · exact h (by rw [h13]; rfl)
    · rw [if_neg (by simpa using h13), if_pos]
      exact Or.inr (fun e => h13 (UInt8.toNat_inj.1 (by show (p[at_ + i]).toNat = 13; omega)))
theorem fin2_no (p : Tx) (at_ : Nat) (m q : Tx) (s : Nat) (hs : 0 < s) (n : Nat) (cl : Bool) : fin2 p at_ m q (n, s, cl) = no s := by
  unfold fin2; rw [if_pos hs]
/-! ### the two readers -/
theorem lines_snoc (ls : List Tx) (line : Tx) : ls.map ba ++ [ba line] = (ls ++ [line]).map ba := by simp
theorem no_str (n : Nat) : (eB, eB, eB, false, (0 : Int), (n : Int)) = no n := rfl
theorem cr_le (p : Tx) {l : Tx} (h : crV p = some l) : l.length ≤ p.length := by
  unfold crV at h
  split at h
  · cases h; simp
  · cases h
theorem hread_loop (p : Tx) (hp : p.length ≤ 140737488351232) : ∀ (f : Nat) (ls : List Tx) (at_ : Nat), p.length < f + at_ → at_ ≤ p.length → at_ ≤ 2048 → (∀ s ∈ ls, s.length ≤ 2048) → ls.length ≤ 33 → Ev (fun k => http_Read.l0 k (ba p) (ls.map ba) (at_ : Int)) (rdV p f ls at_) := by
  intro f
  induction f with
  | zero => intro ls at_ h1 h2; omega
  | succ f ih =>
    intro ls at_ h1 h2 h3 hls hn
    unfold rdV
    have hlen : ((ls.map ba).length : Int) = (ls.length : Int) := by rw [List.length_map]
    by_cases hb : ls.length > 32
    · rw [if_pos hb]
      refine ev_some fun k => ?_
      simp only [http_Read.l0]
      rw [if_pos (by omega)]; rfl
    · rw [if_neg hb]
      have hx : (ba p).extract ((at_ : Int)).toNat (ba p).size = ba (p.drop at_) := by rw [Int.toNat_natCast, ba_from]
      have hidx : strings_Index.f (ba (p.drop at_)) (⟨#[10]⟩ : ByteArray) = some (ixI (ix (p.drop at_) 10)) := by
        unfold strings_Index.f
        rw [show (⟨#[10]⟩ : ByteArray).data.toList = [10] from rfl, ba_data]
        simp only
        rw [ix_index]
      have g1 : ¬ ((ls.map ba).length : Int) > 32 := by omega
      have g2 : (at_ : Int) ≤ ((ba p).size : Int) := by rw [ba_size]; omega
      have g0 : (0 : Int) ≤ (at_ : Int) := by omega
      cases hi : ix (p.drop at_) 10 with
      | none =>
        rw [hi] at hidx
        refine ev_some fun k => ?_
        simp only [http_Read.l0]
        rw [if_neg g1, if_pos g0, if_pos g2, hx, hidx, Option.bind_some, if_pos (by simp [ixI])]
        by_cases hz : p.length > 2048
        · rw [if_pos (by rw [ba_size]; omega), if_pos hz]; rfl
        · rw [if_neg (by rw [ba_size]; omega), if_neg hz]; rfl
      | some i =>
        rw [hi] at hidx
        simp only [ixI] at hidx
        have hil := ix_lt _ _ _ hi
        rw [List.length_drop] at hil
        have w1 : Unit → wrap64 ((at_ : Int) + (i : Int)) = ((at_ + i : Nat) : Int) := fun _ => by rw [M.w64 (by omega) (by omega)]; omega
        have w2 : Unit → wrap64 ((i : Int) + 1) = ((i + 1 : Nat) : Int) := fun _ => up1 (by omega)
        have w3 : Unit → wrap64 ((at_ : Int) + ((i + 1 : Nat) : Int)) = ((at_ + i + 1 : Nat) : Int) := fun _ => by rw [M.w64 (by omega) (by omega)]; omega
        have hx2 : (ba p).extract ((at_ : Int)).toNat ((at_ + i : Nat) : Int).toNat = ba ((p.drop at_).take i) := by rw [Int.toNat_natCast, Int.toNat_natCast, ba_ext, show at_ + i - at_ = i by omega]
        have hsl : ((p.drop at_).take i).length = i := by rw [List.length_take, List.length_drop]; omega
        have hsf := suffix_eq ((p.drop at_).take i) (by omega)
        have pre : ∀ k, http_Read.l0 (k + 1) (ba p) (ls.map ba) (at_ : Int) = (match crV ((p.drop at_).take i) with | some m => some (ba m, true) | none => some (ba ((p.drop at_).take i), false)).bind fun bt133 => (if ((at_ + i + 1 : Nat) : Int) > 2048 then (some ((⟨#[]⟩ : ByteArray), (⟨#[]⟩ : ByteArray), (⟨#[]⟩ : ByteArray), false, 0, 431)) else (if bt133.2 = true then (if bt133.1.toList = ([] : List UInt8) then (if ((ls.map ba).length : Int) > 0 then (if 0 < ((ls.map ba).length : Int) then ((http_first.f k (rdOf ByteArray.empty (ls.map ba) 0)).bind fun bt142 => (if bt142.2.2.2.2 = true then (if 1 ≤ ((ls.map ba).length : Int) then ((http_heads.f k bt142.1 bt142.2.1 bt142.2.2.1 bt142.2.2.2.1 ((ls.map ba).drop 1)).bind fun bt152 => (if bt152.2.1 > 0 then (some ((⟨#[]⟩ : ByteArray), (⟨#[]⟩ : ByteArray), (⟨#[]⟩ : ByteArray), false, 0, bt152.2.1)) else (if (wrap64 (((ba p).size : Int) - ((at_ + i + 1 : Nat) : Int))) < bt152.1 then (some ((⟨#[]⟩ : ByteArray), (⟨#[]⟩ : ByteArray), (⟨#[]⟩ : ByteArray), false, 0, 0)) else (if 0 ≤ ((at_ + i + 1 : Nat) : Int) then (if ((at_ + i + 1 : Nat) : Int) ≤ (wrap64 (((at_ + i + 1 : Nat) : Int) + bt152.1)) then (if (wrap64 (((at_ + i + 1 : Nat) : Int) + bt152.1)) ≤ ((ba p).size : Int) then (some (bt152.2.2.1, bt152.2.2.2.1, (ba p).extract (((at_ + i + 1 : Nat) : Int) : Int).toNat ((wrap64 (((at_ + i + 1 : Nat) : Int) + bt152.1)) : Int).toNat, bt152.2.2.2.2.2, wrap64 (((at_ + i + 1 : Nat) : Int) + bt152.1), 0)) else (none)) else (none)) else (none))))) else (none)) else (some ((⟨#[]⟩ : ByteArray), (⟨#[]⟩ : ByteArray), (⟨#[]⟩ : ByteArray), false, 0, 400)))) else (none)) else (if (ls.map ba).length < 8796093022208 then (http_Read.l0 k (ba p) (ls.map ba ++ [bt133.1]) ((at_ + i + 1 : Nat) : Int)) else (none))) else (if (ls.map ba).length < 8796093022208 then (http_Read.l0 k (ba p) (ls.map ba ++ [bt133.1]) ((at_ + i + 1 : Nat) : Int)) else (none))) else (some ((⟨#[]⟩ : ByteArray), (⟨#[]⟩ : ByteArray), (⟨#[]⟩ : ByteArray), false, 0, 400)))) := by
          intro k
          simp only [http_Read.l0]
          rw [if_neg g1, if_pos g0, if_pos g2, hx, hidx, Option.bind_some, if_neg (by omega), w1 (), if_pos (by omega), if_pos (by rw [ba_size]; omega), hx2, hsf, w2 (), w3 ()]
          cases crV ((p.drop at_).take i) <;> rfl
        clear hsf w1 w2 w3 hidx hx hx2
        dsimp only
        by_cases hbig : at_ + i + 1 > 2048
        · rw [if_pos hbig]
          refine ev_some fun k => ?_
          rw [pre]
          cases crV ((p.drop at_).take i) with
          | none => dsimp only; rw [Option.bind_some, if_pos (by omega)]; rfl
          | some m => dsimp only; rw [Option.bind_some, if_pos (by omega)]; rfl
        · rw [if_neg hbig]
          cases hcr : crV ((p.drop at_).take i) with
          | none =>
            rw [hcr] at pre
            dsimp only at pre ⊢
            refine ev_some fun k => ?_
            rw [pre, Option.bind_some, if_neg (by omega), if_neg (by simp)]; rfl
          | some line =>
            rw [hcr] at pre
            dsimp only at pre ⊢
            have hll := cr_le _ hcr
            rw [hsl] at hll
            have go : Ev (fun k => http_Read.l0 k (ba p) ((ls ++ [line]).map ba) ((at_ + i + 1 : Nat) : Int)) (rdV p f (ls ++ [line]) (at_ + i + 1)) := by
              refine ih (ls ++ [line]) (at_ + i + 1) (by omega) (by omega) (by omega) ?_ (by rw [List.length_append, List.length_singleton]; omega)
              intro s hs
              rcases List.mem_append.1 hs with h | h
              · exact hls s h
              · rw [List.mem_singleton.1 h]; omega
            by_cases hl : line = []
            · subst hl
              by_cases hne : ls = []
              · subst hne
                rw [if_neg (fun x => x.2 rfl)]
                refine Ev.step (fun k => ?_) go
                rw [pre, Option.bind_some, if_neg (by omega)]
                dsimp only
                rw [if_pos rfl, if_pos (ba_list []), if_neg (by simp), if_pos (by simp), lines_snoc]
              · rw [if_pos ⟨rfl, hne⟩]
                obtain ⟨l0, lr, rfl⟩ : ∃ a r, ls = a :: r := by
                  cases ls with
                  | nil => exact absurd rfl hne
                  | cons a r => exact ⟨a, r, rfl⟩
                unfold finV
                rw [List.headD_cons, List.drop_succ_cons, List.drop_zero]
                have hlp : ((l0 :: lr).map ba).length = lr.length + 1 := by simp
                obtain ⟨K1, f1⟩ := hfirst_ev l0 (hls l0 (by simp))
                have e0 : rdOf ByteArray.empty ((l0 :: lr).map ba) 0 = ba l0 := rfl
                dsimp only at f1
                cases hfv : firstV l0 with
                | none =>
                  rw [hfv] at f1
                  refine ⟨K1 + 1, fun k hk => ?_⟩
                  obtain ⟨k, rfl⟩ : ∃ j, k = j + 1 := ⟨k - 1, by omega⟩
                  show http_Read.l0 (k + 1) _ _ _ = _
                  rw [pre, Option.bind_some, if_neg (by omega)]
                  dsimp only
                  rw [if_pos rfl, if_pos (ba_list []), if_pos (by rw [hlp]; omega), if_pos (by rw [hlp]; omega), e0, f1 _ (by omega), Option.bind_some, if_neg (by simp [firstR])]; rfl
                | some mq =>
                  obtain ⟨m, q⟩ := mq
                  rw [hfv] at f1
                  obtain ⟨K2, f2⟩ := heads_ev lr (fun s hs => hls s (by simp [hs])) (by simp at hn; omega) (ba m) (ba q) eB false
                  have hle := hd_le lr 0 0 0 false
                  dsimp only at f2 ⊢
                  generalize hd lr 0 0 0 false = r at *
                  obtain ⟨r1, r2, r3⟩ := r
                  dsimp only at hle
                  have hA : at_ + i + 1 ≤ p.length := by omega
                  clear go ih
                  generalize at_ + i + 1 = A at *
                  have w4 : Unit → wrap64 (((ba p).size : Int) - ((A : Nat) : Int)) = ((p.length - (A) : Nat) : Int) := fun _ => by rw [ba_size, M.w64 (by omega) (by omega)]; omega
                  have w5 : Unit → wrap64 (((A : Nat) : Int) + (r1 : Int)) = ((A + r1 : Nat) : Int) := fun _ => by rw [M.w64 (by omega) (by omega)]; omega
                  refine ⟨K1 + K2 + 1, fun k hk => ?_⟩
                  obtain ⟨k, rfl⟩ : ∃ j, k = j + 1 := ⟨k - 1, by omega⟩
                  show http_Read.l0 (k + 1) _ _ _ = _
                  rw [pre, Option.bind_some, if_neg (by omega)]
                  dsimp only
                  rw [if_pos rfl, if_pos (ba_list []), if_pos (by rw [hlp]; omega), if_pos (by rw [hlp]; omega), e0, f1 _ (by omega), Option.bind_some]
                  simp only [firstR]
                  rw [if_pos trivial, if_pos (by rw [hlp]; omega), List.map_cons, List.drop_succ_cons, List.drop_zero, f2 _ (by omega), Option.bind_some]
                  simp only [hdR]
                  have w4' := w4 ()
                  have w5' := w5 ()
                  clear pre w4 w5
                  simp only [w4', w5']
                  clear w4' w5'
                  by_cases h20 : r2 > 0
                  · have ef : fin2 p (A) m q (r1, r2, r3) = no r2 := by unfold fin2; rw [if_pos h20]
                    rw [ef, if_pos (by omega)]; rfl
                  · have ef : fin2 p (A) m q (r1, r2, r3) = if p.length - (A) < r1 then no 0 else (ba m, ba q, ba ((p.drop (A)).take r1), r3, ((A + r1 : Nat) : Int), 0) := by unfold fin2; rw [if_neg h20]
                    rw [ef, if_neg (by omega)]
                    by_cases hs : p.length - (A) < r1
                    · rw [if_pos (by omega), if_pos hs]; rfl
                    · rw [if_neg (by omega), if_neg hs, if_pos (by omega), if_pos (by omega), if_pos (by rw [ba_size]; omega), Int.toNat_natCast, Int.toNat_natCast, ba_ext, show A + r1 - (A) = r1 by omega]
            · rw [if_neg (fun x => hl x.1)]
              refine Ev.step (fun k => ?_) go
              rw [pre, Option.bind_some, if_neg (by omega)]
              dsimp only
              rw [if_pos rfl, if_neg (by rw [ba_list]; exact hl), if_pos (by rw [List.length_map]; omega), lines_snoc]
theorem hread_ev (p : Tx) (hp : p.length ≤ 140737488351232) : Ev (fun k => http_Read.f k (ba p)) (readV p) :=
  hread_loop p hp _ [] 0 (by omega) (by omega) (by omega) (by simp) (by simp)

def reqT : Tx := [71, 69, 84, 32, 47, 116, 97, 98, 108, 101, 32, 72, 84, 84, 80, 47, 49, 46, 49, 13, 10, 72, 111, 115, 116, 58, 32, 120, 13, 10, 13, 10]
theorem awake_ev : Ev (fun k => fascinelaw12_awake.f k) true := by
  obtain ⟨K, h⟩ := hread_ev reqT (by decide)
  refine ⟨K, fun k hk => ?_⟩
  have h1 := h k hk
  dsimp only at h1 ⊢
  have e : readV reqT = (ba [71, 69, 84], ba [47, 116, 97, 98, 108, 101], ba [], false, 32, 0) := by decide +kernel
  rw [e] at h1
  simp only [fascinelaw12_awake.f]
  rw [show (⟨#[71, 69, 84, 32, 47, 116, 97, 98, 108, 101, 32, 72, 84, 84, 80, 47, 49, 46, 49, 13, 10, 72, 111, 115, 116, 58, 32, 120, 13, 10, 13, 10]⟩ : ByteArray) = ba reqT from rfl, h1, Option.bind_some]
  dsimp only
  rw [if_pos rfl, if_pos rfl, if_pos (ba_list _), ba_list]
  rfl

theorem ba_app (a b : Tx) : ba a ++ ba b = ba (a ++ b) := by
  apply ByteArray.ext; apply Array.toList_inj.1
  simp [ba]
theorem strOf1 (n : Nat) (h : n < 10) : strOfNums ([(wrap64 (48 + (n : Int))) % 256] : List Int) = ba [UInt8.ofNat (48 + n)] := by
  rw [M.w64 (by omega) (by omega)]
  unfold strOfNums ba
  rw [show ((48 + (n : Int)) % 256) = ((48 + n : Nat) : Int) by omega]
  simp only [List.map_cons, List.map_nil, Int.toNat_natCast]
theorem Dec_ev : ∀ (d n : Nat), n < 10 ^ (d + 1) → d ≤ 8 → Ev (fun k => fascineref12_Dec.f k (n : Int)) (ba (Lib.decDigits n)) := by
  intro d
  induction d with
  | zero =>
    intro n hn _
    have hn' : n < 10 := by simpa using hn
    refine ev_some fun k => ?_
    simp only [fascineref12_Dec.f]
    rw [if_pos (by omega), strOf1 n hn', Lib.decDigits_one hn']
  | succ d ih =>
    intro n hn hd
    by_cases h10 : n < 10
    · refine ev_some fun k => ?_
      simp only [fascineref12_Dec.f]
      rw [if_pos (by omega), strOf1 n h10, Lib.decDigits_one h10]
    · obtain ⟨K, h⟩ := ih (n / 10) (by rw [Nat.pow_succ] at hn; omega) (by omega)
      have hl := dd_len d (n / 10) (by rw [Nat.pow_succ] at hn; omega)
      dsimp only at h
      have hn9 : n < 10000000000 := by
        have : 10 ^ (d + 1 + 1) ≤ 10 ^ 10 := Nat.pow_le_pow_right (by decide) (by omega)
        have e : (10 : Nat) ^ 10 = 10000000000 := by decide
        omega
      have e1 : wrap64 (Int.tdiv (n : Int) 10) = ((n / 10 : Nat) : Int) := by
        rw [Int.tdiv_eq_ediv_of_nonneg (by omega), M.w64 (by omega) (by omega)]; omega
      have e2 : Int.tmod (n : Int) 10 = ((n % 10 : Nat) : Int) := by
        rw [Int.tmod_eq_emod_of_nonneg (by omega)]; omega
      have e3 := strOf1 (n % 10) (by omega)
      refine ⟨K + 1, fun k hk => ?_⟩
      obtain ⟨k, rfl⟩ : ∃ j, k = j + 1 := ⟨k - 1, by omega⟩
      simp only [fascineref12_Dec.f]
      rw [if_neg (by clear e1 e2 e3; omega), e1, h k (by clear e1 e2 e3; omega), Option.bind_some, Option.bind_some, e2, e3, if_pos (by clear e1 e2 e3; rw [ba_size, ba_size]; simp only [List.length_cons, List.length_nil]; omega), ba_app]
      rw [show Lib.decDigits n = Lib.decDigits (n / 10) ++ [UInt8.ofNat (48 + n % 10)] by rw [Lib.decDigits, dif_neg h10]]

/-! ### what the program writes (HttpWrites; under way) -/
def reasI (x : Int) : Tx := match http_reason.f x with | some s => s.data.toList | none => []
theorem ite_some {c : Prop} [Decidable c] {A B : Option ByteArray} (ha : ∃ s, A = some s) (hb : ∃ s, B = some s) : ∃ s, (if c then A else B) = some s := by
  by_cases h : c
  · rw [if_pos h]; exact ha
  · rw [if_neg h]; exact hb
theorem reason_eq (x : Int) : http_reason.f x = some (ba (reasI x)) := by
  have : ∃ s, http_reason.f x = some s := by
    unfold http_reason.f
    iterate 12 (refine ite_some ⟨_, rfl⟩ ?_)
    exact ⟨_, rfl⟩
  obtain ⟨s, h⟩ := this
  unfold reasI
  rw [h]; rfl
theorem reas_ok (x : Int) : (13 : UInt8) ∉ reasI x ∧ (reasI x).length ≤ 40 ∧ reasI x ≠ [] := by
  unfold reasI http_reason.f
  by_cases h200 : x = 200
  · subst h200; decide +kernel
  simp only [if_neg h200]
  by_cases h201 : x = 201
  · subst h201; decide +kernel
  simp only [if_neg h201]
  by_cases h400 : x = 400
  · subst h400; decide +kernel
  simp only [if_neg h400]
  by_cases h404 : x = 404
  · subst h404; decide +kernel
  simp only [if_neg h404]
  by_cases h405 : x = 405
  · subst h405; decide +kernel
  simp only [if_neg h405]
  by_cases h409 : x = 409
  · subst h409; decide +kernel
  simp only [if_neg h409]
  by_cases h410 : x = 410
  · subst h410; decide +kernel
  simp only [if_neg h410]
  by_cases h413 : x = 413
  · subst h413; decide +kernel
  simp only [if_neg h413]
  by_cases h431 : x = 431
  · subst h431; decide +kernel
  simp only [if_neg h431]
  by_cases h503 : x = 503
  · subst h503; decide +kernel
  simp only [if_neg h503]
  by_cases h504 : x = 504
  · subst h504; decide +kernel
  simp only [if_neg h504]
  by_cases h507 : x = 507
  · subst h507; decide +kernel
  simp only [if_neg h507]
  decide +kernel
def codesL : List Int := ([200, 201, 400, 404, 405, 409, 410, 413, 431, 503, 504, 507] : List Int)
def namesL : List ByteArray := ([(⟨#[79, 75]⟩ : ByteArray), (⟨#[67, 114, 101, 97, 116, 101, 100]⟩ : ByteArray), (⟨#[66, 97, 100, 32, 82, 101, 113, 117, 101, 115, 116]⟩ : ByteArray), (⟨#[78, 111, 116, 32, 70, 111, 117, 110, 100]⟩ : ByteArray), (⟨#[77, 101, 116, 104, 111, 100, 32, 78, 111, 116, 32, 65, 108, 108, 111, 119, 101, 100]⟩ : ByteArray), (⟨#[67, 111, 110, 102, 108, 105, 99, 116]⟩ : ByteArray), (⟨#[71, 111, 110, 101]⟩ : ByteArray), (⟨#[67, 111, 110, 116, 101, 110, 116, 32, 84, 111, 111, 32, 76, 97, 114, 103, 101]⟩ : ByteArray), (⟨#[82, 101, 113, 117, 101, 115, 116, 32, 72, 101, 97, 100, 101, 114, 32, 70, 105, 101, 108, 100, 115, 32, 84, 111, 111, 32, 76, 97, 114, 103, 101]⟩ : ByteArray), (⟨#[83, 101, 114, 118, 105, 99, 101, 32, 85, 110, 97, 118, 97, 105, 108, 97, 98, 108, 101]⟩ : ByteArray), (⟨#[71, 97, 116, 101, 119, 97, 121, 32, 84, 105, 109, 101, 111, 117, 116]⟩ : ByteArray), (⟨#[73, 110, 115, 117, 102, 102, 105, 99, 105, 101, 110, 116, 32, 83, 116, 111, 114, 97, 103, 101]⟩ : ByteArray)] : List ByteArray)
theorem words_miss (k i : Nat) (x : Int) (h : i < 12) (hne : rd codesL (i : Int) ≠ x) : fascineref12_words.l0 (k + 1) x codesL namesL (i : Int) = fascineref12_words.l0 k x codesL namesL ((i + 1 : Nat) : Int) := by
  have e64 : wrap64 ((i : Int) + 1) = ((i + 1 : Nat) : Int) := up1 (by omega)
  simp only [fascineref12_words.l0]
  rw [if_pos (by show (i : Int) < 12; clear e64; omega), if_pos (by clear e64; omega), if_pos (by show (i : Int) < 12; clear e64; omega), if_neg hne, e64]
theorem words_hit (k i : Nat) (x : Int) (h : i < 12) (he : rd codesL (i : Int) = x) : fascineref12_words.l0 (k + 1) x codesL namesL (i : Int) = some (rdOf ByteArray.empty namesL (i : Int)) := by
  simp only [fascineref12_words.l0]
  rw [if_pos (by show (i : Int) < 12; omega), if_pos (by omega), if_pos (by show (i : Int) < 12; omega), if_pos he]
theorem words_eq (x : Int) : Ev (fun k => fascineref12_words.f k x) (ba (reasI x)) := by
  refine ⟨13, fun k hk => ?_⟩
  obtain ⟨k, rfl⟩ : ∃ j, k = j + 13 := ⟨k - 13, by omega⟩
  show fascineref12_words.l0 (k + 13) x codesL namesL ((0 : Nat) : Int) = _
  unfold reasI http_reason.f
  by_cases h200 : x = 200
  · subst h200; rw [words_hit _ 0 _ (by decide) (by decide)]; decide +kernel
  rw [words_miss _ 0 _ (by decide) (fun e => h200 (e.symm.trans (by decide)))]
  simp only [if_neg h200]
  by_cases h201 : x = 201
  · subst h201; rw [words_hit _ 1 _ (by decide) (by decide)]; decide +kernel
  rw [words_miss _ 1 _ (by decide) (fun e => h201 (e.symm.trans (by decide)))]
  simp only [if_neg h201]
  by_cases h400 : x = 400
  · subst h400; rw [words_hit _ 2 _ (by decide) (by decide)]; decide +kernel
  rw [words_miss _ 2 _ (by decide) (fun e => h400 (e.symm.trans (by decide)))]
  simp only [if_neg h400]
  by_cases h404 : x = 404
  · subst h404; rw [words_hit _ 3 _ (by decide) (by decide)]; decide +kernel
  rw [words_miss _ 3 _ (by decide) (fun e => h404 (e.symm.trans (by decide)))]
  simp only [if_neg h404]
  by_cases h405 : x = 405
  · subst h405; rw [words_hit _ 4 _ (by decide) (by decide)]; decide +kernel
  rw [words_miss _ 4 _ (by decide) (fun e => h405 (e.symm.trans (by decide)))]
  simp only [if_neg h405]
  by_cases h409 : x = 409
  · subst h409; rw [words_hit _ 5 _ (by decide) (by decide)]; decide +kernel
  rw [words_miss _ 5 _ (by decide) (fun e => h409 (e.symm.trans (by decide)))]
  simp only [if_neg h409]
  by_cases h410 : x = 410
  · subst h410; rw [words_hit _ 6 _ (by decide) (by decide)]; decide +kernel
  rw [words_miss _ 6 _ (by decide) (fun e => h410 (e.symm.trans (by decide)))]
  simp only [if_neg h410]
  by_cases h413 : x = 413
  · subst h413; rw [words_hit _ 7 _ (by decide) (by decide)]; decide +kernel
  rw [words_miss _ 7 _ (by decide) (fun e => h413 (e.symm.trans (by decide)))]
  simp only [if_neg h413]
  by_cases h431 : x = 431
  · subst h431; rw [words_hit _ 8 _ (by decide) (by decide)]; decide +kernel
  rw [words_miss _ 8 _ (by decide) (fun e => h431 (e.symm.trans (by decide)))]
  simp only [if_neg h431]
  by_cases h503 : x = 503
  · subst h503; rw [words_hit _ 9 _ (by decide) (by decide)]; decide +kernel
  rw [words_miss _ 9 _ (by decide) (fun e => h503 (e.symm.trans (by decide)))]
  simp only [if_neg h503]
  by_cases h504 : x = 504
  · subst h504; rw [words_hit _ 10 _ (by decide) (by decide)]; decide +kernel
  rw [words_miss _ 10 _ (by decide) (fun e => h504 (e.symm.trans (by decide)))]
  simp only [if_neg h504]
  by_cases h507 : x = 507
  · subst h507; rw [words_hit _ 11 _ (by decide) (by decide)]; decide +kernel
  rw [words_miss _ 11 _ (by decide) (fun e => h507 (e.symm.trans (by decide)))]
  simp only [if_neg h507]
  simp only [fascineref12_words.l0]
  rw [if_neg (by show ¬ (12 : Int) < 12; omega)]; rfl

/-! ### an answer's bytes, and the program's Answer on them -/
def okT : Tx := [72, 84, 84, 80, 47, 49, 46, 49, 32]
def ctT : Tx := [67, 111, 110, 116, 101, 110, 116, 45, 84, 121, 112, 101, 58, 32, 97, 112, 112, 108, 105, 99, 97, 116, 105, 111, 110, 47, 106, 115, 111, 110]
def clT : Tx := [67, 111, 110, 110, 101, 99, 116, 105, 111, 110, 58, 32, 99, 108, 111, 115, 101]
def midT : Tx := [13, 10, 67, 111, 110, 116, 101, 110, 116, 45, 84, 121, 112, 101, 58, 32, 97, 112, 112, 108, 105, 99, 97, 116, 105, 111, 110, 47, 106, 115, 111, 110, 13, 10, 67, 111, 110, 116, 101, 110, 116, 45, 76, 101, 110, 103, 116, 104, 58, 32]
def ansS (st : Nat) : Tx := okT ++ (Lib.decDigits st ++ 32 :: reasI (st : Int))
def ansL (st n : Nat) (last : Bool) : List Tx := [ansS st, ctT, lnLen n] ++ if last then [clT] else []
def WV (st : Nat) (b : Tx) (last : Bool) : Tx := jl (ansL st b.length last) ++ 13 :: 10 :: b
def headS (st : Nat) : Tx := okT ++ (Lib.decDigits st ++ 32 :: (reasI (st : Int) ++ midT))
def tailT (last : Bool) : Tx := if last then 13 :: 10 :: (clT ++ [13, 10, 13, 10]) else [13, 10, 13, 10]
theorem WV_parts (st : Nat) (b : Tx) (last : Bool) : WV st b last = headS st ++ (Lib.decDigits b.length ++ (tailT last ++ b)) := by
  cases last <;> simp [WV, ansL, ansS, jl, lnLen, clenN, headS, midT, ctT, tailT]
theorem itoa_eq (n : Nat) (h : n ≤ 140737488351232) : strconv_Itoa.f (n : Int) = some (ba (Lib.decDigits n)) := by
  unfold strconv_Itoa.f
  rw [if_pos ⟨by omega, by omega⟩, Lib.itoa_nonneg]; rfl
theorem write_ev (st : Nat) (h1 : 100 ≤ st) (h2 : st ≤ 999) (b : Tx) (hb : b.length ≤ 140737488351232) (last : Bool) : Ev (fun k => http_Write.f k (st : Int) (ba b) last) (ba (WV st b last), (0 : Int)) := by
  refine ⟨1, fun k hk => ?_⟩
  obtain ⟨k, rfl⟩ : ∃ j, k = j + 1 := ⟨k - 1, by omega⟩
  have i1 := itoa_eq st (by omega)
  have i2 : strconv_Itoa.f ((ba b).size : Int) = some (ba (Lib.decDigits b.length)) := by rw [ba_size]; exact itoa_eq _ (by omega)
  have l1 := dd_len 3 st (by omega)
  have l2 := dd_len 18 b.length (by omega)
  have l3 := (reas_ok (st : Int)).2.1
  simp only [http_Write.f]
  rw [if_neg (by omega), show decide ((st : Int) > 999) = false from decide_eq_false (by omega)]
  simp only [http_Write.j0]
  have s0 : (ba (Lib.decDigits st)).size ≤ 4 := by rw [ba_size]; exact l1
  have s1 : (ba (reasI (st : Int))).size ≤ 40 := by rw [ba_size]; exact l3
  have s2 : (ba (Lib.decDigits b.length)).size ≤ 19 := by rw [ba_size]; exact l2
  have s3 : (ba b).size ≤ 140737488351232 := by rw [ba_size]; exact hb
  rw [if_neg (by simp), i1, Option.bind_some, if_pos (by omega), if_pos (by omega), reason_eq, Option.bind_some, if_pos (by omega), if_pos (by omega), i2, Option.bind_some, if_pos (by omega), if_pos (by omega)]
  have e1 : (⟨#[72, 84, 84, 80, 47, 49, 46, 49, 32]⟩ : ByteArray) = ba okT := rfl
  have e2 : (⟨#[32]⟩ : ByteArray) = ba [32] := rfl
  have e3 : (⟨#[13, 10, 67, 111, 110, 116, 101, 110, 116, 45, 84, 121, 112, 101, 58, 32, 97, 112, 112, 108, 105, 99, 97, 116, 105, 111, 110, 47, 106, 115, 111, 110, 13, 10, 67, 111, 110, 116, 101, 110, 116, 45, 76, 101, 110, 103, 116, 104, 58, 32]⟩ : ByteArray) = ba midT := rfl
  have e4 : (⟨#[13, 10]⟩ : ByteArray) = ba [13, 10] := rfl
  have e5 : (⟨#[67, 111, 110, 110, 101, 99, 116, 105, 111, 110, 58, 32, 99, 108, 111, 115, 101, 13, 10]⟩ : ByteArray) = ba (clT ++ [13, 10]) := rfl
  rw [e1, e2, e3, e4, WV_parts]
  cases last
  · rw [if_neg (by simp), if_pos (by omega), if_pos (by omega)]
    simp only [ba_app]
    simp [headS, tailT]
  · rw [if_pos rfl, if_pos (by omega), if_pos (by omega), if_pos (by omega), e5]
    simp only [ba_app]
    simp [headS, tailT]
theorem write_no (x : Int) (h : ¬ (100 ≤ x ∧ x ≤ 999)) (b : ByteArray) (last : Bool) : Ev (fun k => http_Write.f k x b last) (ba [], (1 : Int)) := by
  refine ⟨1, fun k hk => ?_⟩
  obtain ⟨k, rfl⟩ : ∃ j, k = j + 1 := ⟨k - 1, by omega⟩
  simp only [http_Write.f]
  by_cases h1 : x < 100
  · rw [if_pos h1]; simp only [http_Write.j0]; rw [if_pos trivial]; rfl
  · rw [if_neg h1, show decide (x > 999) = true from decide_eq_true (by omega)]; simp only [http_Write.j0]; rw [if_pos trivial]; rfl
theorem dd3 (st : Nat) (h1 : 100 ≤ st) (h2 : st ≤ 999) : (Lib.decDigits st).length = 3 := by
  rw [Lib.decDigits, dif_neg (by omega), Lib.decDigits, dif_neg (by omega), Lib.decDigits_one (by omega)]
  simp
theorem lenV_of (n : Nat) (h : n < 1000000000) : lenV (Lib.decDigits n) = some n := by
  obtain ⟨h1, h2, h3⟩ := dec_digits n
  have hl := dd_len 8 n (by omega)
  have h0 := dd_one n
  unfold lenV
  rw [if_neg, h1]
  rintro (hc | hc | ⟨hc, hc2⟩)
  · omega
  · omega
  · have := h3 hc2
    subst this
    rw [Lib.decDigits_one (by omega)] at hc
    simp at hc
theorem atoi_dd (n : Nat) (h : n < 1000000000) : strconv_Atoi.f (ba (Lib.decDigits n)) = some ((n : Int), none) :=
  atoi_ok _ (by have := dd_len 8 n (by omega); omega) (lenV_some (lenV_of n h)).1
theorem dd13 (n : Nat) : (13 : UInt8) ∉ Lib.decDigits n := fun h => by have := dd_mem n 13 h; simp at this
theorem ansL_ok (st n : Nat) (last : Bool) : ∀ l ∈ ansL st n last, (13 : UInt8) ∉ l ∧ l ≠ [] := by
  have h1 : (13 : UInt8) ∉ ansS st ∧ ansS st ≠ [] := by
    refine ⟨fun h => ?_, by simp [ansS, okT]⟩
    unfold ansS at h
    rcases List.mem_append.1 h with h | h
    · exact absurd h (by decide)
    · rcases List.mem_append.1 h with h | h
      · exact dd13 st h
      · rcases List.mem_cons.1 h with h | h
        · exact absurd h (by decide)
        · exact (reas_ok (st : Int)).1 h
  have h2 : (13 : UInt8) ∉ ctT ∧ ctT ≠ [] := by decide
  have h3 : (13 : UInt8) ∉ lnLen n ∧ lnLen n ≠ [] := by
    refine ⟨fun h => ?_, by simp [lnLen, clenN]⟩
    unfold lnLen at h
    rcases List.mem_append.1 h with h | h
    · exact absurd h (by decide)
    · rcases List.mem_cons.1 h with h | h
      · exact absurd h (by decide)
      · rcases List.mem_cons.1 h with h | h
        · exact absurd h (by decide)
        · exact dd13 n h
  have h4 : (13 : UInt8) ∉ clT ∧ clT ≠ [] := by decide
  intro l hl
  cases last <;> simp [ansL] at hl
  · rcases hl with rfl | rfl | rfl <;> assumption
  · rcases hl with rfl | rfl | rfl | rfl <;> assumption
theorem pre_eq (q pre : Tx) : strings_HasPrefix.f (ba q) (ba pre) = some (decide (q.take pre.length = pre)) := by
  unfold strings_HasPrefix.f stringslite_HasPrefix.f
  by_cases h : pre.length ≤ q.length
  · rw [if_pos (by rw [ba_size, ba_size]; omega), if_pos (by omega), if_pos (by rw [ba_size, ba_size]; omega), ba_size pre, Int.toNat_natCast, ba_to, ba_list, ba_list, Option.bind_some]
    congr 1
    rw [Bool.eq_iff_iff]; simp
  · rw [if_neg (by rw [ba_size, ba_size]; omega), Option.bind_some]
    congr 1
    symm
    apply decide_eq_false
    intro e
    have := congrArg List.length e
    rw [List.length_take] at this
    omega
theorem trimPre_eq (q pre : Tx) : strings_TrimPrefix.f (ba q) (ba pre) = some (if q.take pre.length = pre then ba (q.drop pre.length) else ba q) := by
  have hp := pre_eq q pre
  unfold strings_HasPrefix.f at hp
  unfold strings_TrimPrefix.f stringslite_TrimPrefix.f
  have hp' : stringslite_HasPrefix.f (ba q) (ba pre) = some (decide (q.take pre.length = pre)) := by
    cases h : stringslite_HasPrefix.f (ba q) (ba pre) with
    | none => rw [h] at hp; simp at hp
    | some c => rw [h] at hp; simpa using hp
  rw [hp', Option.bind_some]
  by_cases h : q.take pre.length = pre
  · have hl : pre.length ≤ q.length := by
      have := congrArg List.length h
      rw [List.length_take] at this
      omega
    rw [if_pos h, if_pos (by simp [h]), if_pos (by omega), if_pos (by rw [ba_size, ba_size]; omega), ba_size pre, Int.toNat_natCast, ba_from]; rfl
  · rw [if_neg h, if_neg (by simp [h])]; rfl
theorem cut_hit (p : Tx) (hp : p.length < 4294967281) (i : Nat) (h : Lib.index p [13, 10, 13, 10] = (i : Int)) : ∃ t, strings_Cut.f (ba p) (⟨#[13, 10, 13, 10]⟩ : ByteArray) = some (ba (p.take i), t, true) := by
  have e : (⟨#[13, 10, 13, 10]⟩ : ByteArray) = ba [13, 10, 13, 10] := rfl
  obtain ⟨a, b, c⟩ := Lib.cutB_hit (ba p) (ba [13, 10, 13, 10]) i h
  refine ⟨(ba p).extract (i + (ba [13, 10, 13, 10]).size) (ba p).size, ?_⟩
  unfold strings_Cut.f
  rw [if_pos (by rw [ba_size]; exact hp), e, a, b, c, ba_to]
theorem cut_miss (p : Tx) (hp : p.length < 4294967281) (h : Lib.index p [13, 10, 13, 10] = -1) : ∃ t, strings_Cut.f (ba p) (⟨#[13, 10, 13, 10]⟩ : ByteArray) = some (ba p, t, false) := by
  have e : (⟨#[13, 10, 13, 10]⟩ : ByteArray) = ba [13, 10, 13, 10] := rfl
  obtain ⟨a, b, c⟩ := Lib.cutB_miss (ba p) (ba [13, 10, 13, 10]) h
  refine ⟨ByteArray.empty, ?_⟩
  unfold strings_Cut.f
  rw [if_pos (by rw [ba_size]; exact hp), e, a, b, c]
theorem split_all (p : Tx) (hp : p.length < 4294967281) : strings_Split.f (ba p) (⟨#[13, 10]⟩ : ByteArray) = some (Lib.splitB (ba [13, 10]) 0 (Lib.countB (ba p) (ba [13, 10])) (ba p)) := by
  have e : (⟨#[13, 10]⟩ : ByteArray) = ba [13, 10] := rfl
  unfold strings_Split.f
  rw [if_pos ⟨by rw [ba_size]; exact hp, by rw [e, ba_size]; simp⟩, e]
theorem WV_len (st : Nat) (h1 : 100 ≤ st) (h2 : st ≤ 999) (b : Tx) (last : Bool) : (WV st b last).length = (jn (ansL st b.length last)).length + 4 + b.length := by
  unfold WV
  rw [jl_jn _ (by simp [ansL])]
  simp only [List.length_append, List.length_cons, List.length_nil]; omega
theorem nn : (none : Option Int).isNone = true := rfl
/-- the program's Answer on what the program's Write writes -/
theorem answer_hit (st : Nat) (h1 : 100 ≤ st) (h2 : st ≤ 999) (b rest : Tx) (last : Bool) (hb : b.length < 1000000000) (hp : (WV st b last ++ rest).length < 4294967281) :
    Ev (fun k => http_Answer.f k (ba (WV st b last ++ rest))) ((st : Int), ba b, ((WV st b last).length : Int)) := by
  obtain ⟨K, hw⟩ := write_ev st h1 h2 b (by omega) last
  dsimp only at hw
  have hL := ansL_ok st b.length last
  have hne : ansL st b.length last ≠ [] := by simp [ansL]
  have e0 : WV st b last ++ rest = jl (ansL st b.length last) ++ 13 :: 10 :: (b ++ rest) := by simp [WV]
  have hi := idx_head (ansL st b.length last) (b ++ rest) hL hne
  have hjl := jl_jn _ hne
  have htk : (WV st b last ++ rest).take ((jl (ansL st b.length last)).length - 2) = jn (ansL st b.length last) := by
    rw [e0, hjl]
    simp
  obtain ⟨t, hc⟩ := cut_hit _ hp _ (e0 ▸ hi)
  rw [htk] at hc
  have hlen := WV_len st h1 h2 b last
  have hsp := split_all (jn (ansL st b.length last)) (by simp only [List.length_append] at hp; omega)
  rw [split_jn _ hne (fun l hl => (hL l hl).1)] at hsp
  have hn3 : 3 ≤ (ansL st b.length last).length := by cases last <;> simp [ansL]
  have h4 : ((((ansL st b.length last).map ba).length : Int) == 4) = last := by cases last <;> simp [ansL]
  have r0 : rdOf ByteArray.empty ((ansL st b.length last).map ba) 0 = ba (ansS st) := by
    have := rdOf_at (ansL st b.length last) 0 (by omega)
    rw [Int.natCast_zero] at this
    rw [this]; cases last <;> rfl
  have r2 : rdOf ByteArray.empty ((ansL st b.length last).map ba) 2 = ba (lnLen b.length) := by
    have := rdOf_at (ansL st b.length last) 2 (by omega)
    rw [show ((2 : Nat) : Int) = 2 from rfl] at this
    rw [this]; cases last <;> rfl
  have hd3 := dd3 st h1 h2
  have hS : 13 ≤ (ansS st).length := by
    have := (reas_ok (st : Int)).2.2
    have : 1 ≤ (reasI (st : Int)).length := by cases h : reasI (st : Int) with | nil => exact absurd h this | cons a r => simp
    simp only [ansS, List.length_append, List.length_cons, hd3, okT, List.length_nil]; omega
  have hpre : (ansS st).take okT.length = okT := by unfold ansS; exact List.take_left
  have h912 : (ba (ansS st)).extract 9 12 = ba (Lib.decDigits st) := by
    rw [ba_ext]
    congr 1
    have : (ansS st).drop 9 = Lib.decDigits st ++ 32 :: reasI (st : Int) := by
      unfold ansS; exact List.drop_left' (by simp [okT])
    rw [this]
    exact List.take_left' (by rw [hd3])
  have htrim : strings_TrimPrefix.f (ba (lnLen b.length)) (⟨#[67, 111, 110, 116, 101, 110, 116, 45, 76, 101, 110, 103, 116, 104, 58, 32]⟩ : ByteArray) = some (ba (Lib.decDigits b.length)) := by
    have e : (⟨#[67, 111, 110, 116, 101, 110, 116, 45, 76, 101, 110, 103, 116, 104, 58, 32]⟩ : ByteArray) = ba (clenN ++ [58, 32]) := rfl
    have e2 : lnLen b.length = (clenN ++ [58, 32]) ++ Lib.decDigits b.length := by simp [lnLen]
    rw [e, trimPre_eq, e2, List.take_left, if_pos rfl, List.drop_left]
  have hpe : strings_HasPrefix.f (ba (ansS st)) (⟨#[72, 84, 84, 80, 47, 49, 46, 49, 32]⟩ : ByteArray) = some true := by
    have e : (⟨#[72, 84, 84, 80, 47, 49, 46, 49, 32]⟩ : ByteArray) = ba okT := rfl
    rw [e, pre_eq, decide_eq_true hpre]
  have a1 := atoi_dd st (by omega)
  have a2 := atoi_dd b.length hb
  have z0 : (ba (WV st b last ++ rest)).size = (WV st b last ++ rest).length := ba_size _
  have z1 : (ba (jn (ansL st b.length last))).size = (jn (ansL st b.length last)).length := ba_size _
  rw [List.length_append] at z0 hp
  have w1 : Unit → wrap64 (((ba (jn (ansL st b.length last))).size : Int) + 4) = (((jn (ansL st b.length last)).length + 4 : Nat) : Int) := fun _ => by rw [z1, M.w64 (by omega) (by omega)]; omega
  have w2 : Unit → wrap64 (((ba (WV st b last ++ rest)).size : Int) - (((jn (ansL st b.length last)).length + 4 : Nat) : Int)) = ((b.length + rest.length : Nat) : Int) := fun _ => by rw [z0, M.w64 (by omega) (by omega)]; omega
  have w3 : Unit → wrap64 ((((jn (ansL st b.length last)).length + 4 : Nat) : Int) + (b.length : Int)) = ((WV st b last).length : Int) := fun _ => by rw [M.w64 (by omega) (by omega)]; omega
  have x1 : (ba (WV st b last ++ rest)).extract ((jn (ansL st b.length last)).length + 4) (WV st b last).length = ba b := by
    rw [ba_ext]
    congr 1
    have : (WV st b last ++ rest).drop ((jn (ansL st b.length last)).length + 4) = b ++ rest := by
      rw [e0, hjl]
      have e : jn (ansL st b.length last) ++ [13, 10] ++ 13 :: 10 :: (b ++ rest) = (jn (ansL st b.length last) ++ [13, 10, 13, 10]) ++ (b ++ rest) := by simp
      rw [e]
      exact List.drop_left' (by simp)
    rw [this]
    exact List.take_left' (by omega)
  have x2 : (ba (WV st b last ++ rest)).extract 0 (WV st b last).length = ba (WV st b last) := by
    rw [ba_to, List.take_left]
  refine ⟨K + 2, fun k hk => ?_⟩
  obtain ⟨k, rfl⟩ : ∃ j, k = j + 2 := ⟨k - 2, by omega⟩
  have hwk := hw k (by omega)
  have lm : ((ansL st b.length last).map ba).length = (ansL st b.length last).length := List.length_map ..
  dsimp only
  simp only [http_Answer.f]
  rw [hc, Option.bind_some]
  dsimp only
  rw [hsp, Option.bind_some, if_pos rfl, if_neg (by omega), if_pos (by omega), r0, hpe, Option.bind_some, if_pos rfl, show decide (((ba (ansS st)).size : Int) < 13) = false from decide_eq_false (by rw [ba_size]; omega)]
  simp only [http_Answer.j0]
  rw [if_neg (by simp), if_pos (by omega), if_pos (by omega), r0, if_pos (by rw [ba_size]; omega), h912, a1, Option.bind_some, if_pos (by omega), r2, htrim, Option.bind_some, a2, Option.bind_some]
  dsimp only
  rw [if_pos nn, if_pos nn, if_neg (by omega), w1 (), w2 (), show decide ((b.length : Int) > ((b.length + rest.length : Nat) : Int)) = false from decide_eq_false (by omega)]
  simp only [http_Answer.j1]
  rw [if_neg (by simp), if_pos (by omega), w3 (), if_pos (by omega), if_pos (by omega), Int.toNat_natCast, Int.toNat_natCast, x1, h4, hwk, Option.bind_some, if_pos (by omega), x2, if_pos rfl]

theorem rlen_loop (l : Tx) (hl : l.length ≤ 9) : ∀ (d i acc : Nat), l.length - i = d → i ≤ l.length → acc < 10 ^ i → Ev (fun k => fascineref12_length.l0 k (ba l) (acc : Int) (i : Int)) (lenR (Lib.decFrom acc (l.drop i))) := by
  intro d
  induction d with
  | zero =>
    intro i acc hd hi ha
    rw [List.drop_of_length_le (by omega)]
    refine ev_some fun k => ?_
    simp only [fascineref12_length.l0]
    rw [if_neg (by rw [ba_size]; omega)]; rfl
  | succ d ih =>
    intro i acc hd hi ha
    have hlt : i < l.length := by omega
    have e64 := up1 (i := i) (by omega)
    have hp : 10 ^ i ≤ 10 ^ 9 := Nat.pow_le_pow_right (by decide) (by omega)
    have hp' : 10 ^ i ≤ 1000000000 := by simpa using hp
    rw [List.drop_eq_getElem_cons hlt]
    simp only [Lib.decFrom]
    have h256 := l[i].toNat_lt
    by_cases hb : 48 ≤ l[i].toNat ∧ l[i].toNat ≤ 57
    · rw [show Lib.digitVal l[i] = some (l[i].toNat - 48) by unfold Lib.digitVal; rw [if_pos hb]]
      have h2 := ih (i + 1) (acc * 10 + (l[i].toNat - 48)) (by omega) (by omega) (by rw [Nat.pow_succ]; omega)
      refine Ev.step (fun k => ?_) h2
      simp only [fascineref12_length.l0]
      rw [if_pos (by rw [ba_size]; omega), if_pos (by omega), bt_ba l i hlt, if_neg (by omega), if_neg (by omega), e64, M.w64 (x := 10 * (acc : Int)) (by omega) (by omega), M.w64 (by omega) (by omega)]
      congr 1
      omega
    · rw [show Lib.digitVal l[i] = none by unfold Lib.digitVal; rw [if_neg hb]]
      refine ev_some fun k => ?_
      simp only [fascineref12_length.l0]
      rw [if_pos (by rw [ba_size]; omega), if_pos (by omega), bt_ba l i hlt]
      by_cases h48 : ((l[i].toNat : Nat) : Int) < 48
      · rw [if_pos h48]; rfl
      · rw [if_neg h48, if_pos (by omega)]; rfl
theorem rlen_no (k : Nat) (x : ByteArray) : fascineref12_length.j0 (k + 1) x true = some (-1) := by
  simp only [fascineref12_length.j0]; rw [if_pos trivial]
theorem rlen_ev (l : Tx) : Ev (fun k => fascineref12_length.f k (ba l)) (lenR (lenV l)) := by
  unfold lenV
  by_cases hc : l.length < 1 ∨ 9 < l.length ∨ (1 < l.length ∧ l.head? = some 48)
  · rw [if_pos hc]
    refine ev_some fun k => ?_
    simp only [fascineref12_length.f]
    rw [ba_size]
    by_cases h1 : (l.length : Int) < 1
    · rw [if_pos h1, rlen_no]; rfl
    · rw [if_neg h1]
      by_cases h9 : (l.length : Int) > 9
      · rw [if_pos h9, rlen_no]; rfl
      · rw [if_neg h9]
        obtain ⟨h2, h3⟩ : 1 < l.length ∧ l.head? = some 48 := by
          rcases hc with h | h | h
          · omega
          · omega
          · exact h
        rw [if_pos (by omega), if_pos (by omega)]
        cases l with
        | nil => simp at h2
        | cons b r =>
          rw [show bt (ba (b :: r)) 0 = (b.toNat : Int) from bt_ba (b :: r) 0 (by simp)]
          obtain rfl : b = 48 := Option.some.inj h3
          exact rlen_no k _
  · rw [if_neg hc]
    obtain ⟨K, h⟩ := rlen_loop l (by omega) _ 0 0 rfl (by omega) (by simp)
    rw [List.drop_zero] at h
    dsimp only at h
    refine ⟨K + 1, fun k hk => ?_⟩
    obtain ⟨k, rfl⟩ : ∃ j, k = j + 1 := ⟨k - 1, by omega⟩
    have hj : fascineref12_length.j0 (k + 1) (ba l) false = some (lenR (Lib.decFrom 0 l)) := by
      simp only [fascineref12_length.j0]
      rw [if_neg (by simp)]
      exact h k (by omega)
    simp only [fascineref12_length.f]
    rw [ba_size, if_neg (by omega), if_neg (by omega)]
    by_cases h1 : (l.length : Int) > 1
    · rw [if_pos h1, if_pos (by omega)]
      have hne : (bt (ba l) 0 == 48) = false := by
        cases l with
        | nil => simp at h1
        | cons b r =>
          rw [show bt (ba (b :: r)) 0 = (b.toNat : Int) from bt_ba (b :: r) 0 (by simp)]
          apply Bool.eq_false_iff.2
          intro e
          have e2 : (b.toNat : Int) = 48 := by simpa using e
          have : b = 48 := UInt8.toNat_inj.1 (by show b.toNat = 48; omega)
          exact hc (Or.inr (Or.inr ⟨by omega, by rw [this]; rfl⟩))
      rw [hne]; exact hj
    · rw [if_neg h1]; exact hj

/-! ### the program's Answer where no answer stands at the front -/
theorem atoi_tot (v : Tx) (hv : v.length ≤ 281474976710656) : ∃ a e, strconv_Atoi.f (ba v) = some (a, e) := by
  unfold strconv_Atoi.f
  rw [if_pos (by rw [ba_size]; exact hv), ba_data]
  cases hx : Lib.atoiAll v <;> exact ⟨_, _, rfl⟩
theorem aj0_no (k : Nat) (p h : ByteArray) (ls : List ByteArray) : http_Answer.j0 (k + 1) p h ls true = some (0, (⟨#[]⟩ : ByteArray), 0) := by
  simp only [http_Answer.j0]; rw [if_pos trivial]
theorem aj1_no (k : Nat) (p : ByteArray) (ls : List ByteArray) (a b c : Int) : http_Answer.j1 (k + 1) p ls a b c true = some (0, (⟨#[]⟩ : ByteArray), 0) := by
  simp only [http_Answer.j1]; rw [if_pos trivial]
theorem index_nat (p sub : Tx) : Lib.index p sub = -1 ∨ ∃ i : Nat, Lib.index p sub = (i : Int) := by
  rcases Lib.indexB_cases (ba p) (ba sub) with h | ⟨i, h, _⟩
  · exact .inl h
  · exact .inr ⟨i, h⟩
theorem splitB_size (sep : ByteArray) : ∀ (k : Nat) (s : ByteArray), ∀ x ∈ Lib.splitB sep 0 k s, x.size ≤ s.size
  | 0, s, x, h => by
    rw [Lib.splitB_zero] at h
    rw [List.mem_singleton.1 h]; exact Nat.le_refl _
  | k + 1, s, x, h => by
    unfold Lib.splitB at h
    split at h
    · rw [List.mem_singleton.1 h]; exact Nat.le_refl _
    · rcases List.mem_cons.1 h with rfl | h
      · rw [ByteArray.size_extract]; omega
      · have := splitB_size sep k _ x h
        rw [ByteArray.size_extract] at this; omega
theorem answer_miss (p : Tx) (hp : p.length ≤ 100000) (hno : ∀ st b last rest, 100 ≤ st → st ≤ 999 → p ≠ WV st b last ++ rest) :
    Ev (fun k => http_Answer.f k (ba p)) ((0 : Int), (⟨#[]⟩ : ByteArray), (0 : Int)) := by
  rcases index_nat p [13, 10, 13, 10] with hi | ⟨i, hi⟩
  · obtain ⟨t, hc⟩ := cut_miss p (by omega) hi
    refine ⟨2, fun k hk => ?_⟩
    obtain ⟨k, rfl⟩ : ∃ j, k = j + 2 := ⟨k - 2, by omega⟩
    simp only [http_Answer.f]
    rw [hc, Option.bind_some]
    dsimp only
    rw [split_all p (by omega), Option.bind_some, if_neg (by simp)]
    exact aj0_no _ _ _ _
  · obtain ⟨t, hc⟩ := cut_hit p (by omega) i hi
    have hq : (p.take i).length ≤ 100000 := by rw [List.length_take]; omega
    have hsp := split_all (p.take i) (by omega)
    have hsz := splitB_size (ba [13, 10]) (Lib.countB (ba (p.take i)) (ba [13, 10])) (ba (p.take i))
    generalize hls : Lib.splitB (ba [13, 10]) 0 (Lib.countB (ba (p.take i)) (ba [13, 10])) (ba (p.take i)) = ls at hsp hsz
    generalize hQ : p.take i = q at *
    clear hls hi
    by_cases h3 : (ls.length : Int) < 3
    · refine ⟨2, fun k hk => ?_⟩
      obtain ⟨k, rfl⟩ : ∃ j, k = j + 2 := ⟨k - 2, by omega⟩
      simp only [http_Answer.f]
      rw [hc, Option.bind_some]
      dsimp only
      rw [hsp, Option.bind_some, if_pos rfl, if_pos h3]
      exact aj0_no _ _ _ _
    · have e9 : (⟨#[72, 84, 84, 80, 47, 49, 46, 49, 32]⟩ : ByteArray) = ba okT := rfl
      have e16 : (⟨#[67, 111, 110, 116, 101, 110, 116, 45, 76, 101, 110, 103, 116, 104, 58, 32]⟩ : ByteArray) = ba (clenN ++ [58, 32]) := rfl
      obtain ⟨f0, hf0⟩ : ∃ f : Tx, rdOf ByteArray.empty ls 0 = ba f := ⟨_, rfl⟩
      obtain ⟨f2, hf2⟩ : ∃ f : Tx, rdOf ByteArray.empty ls 2 = ba f := ⟨_, rfl⟩
      by_cases hpr : f0.take okT.length = okT ∧ ¬ ((ba f0).size : Int) < 13
      · obtain ⟨hpr, h13⟩ := hpr
        have hmem : ∀ (j : Nat) (f : Tx), j < ls.length → rdOf ByteArray.empty ls (j : Int) = ba f → f.length ≤ 100000 := by
          intro j f hj hf
          have hm : ba f ∈ ls := by
            rw [← hf]; unfold rdOf
            rw [Int.toNat_natCast, List.getD_eq_getElem?_getD, List.getElem?_eq_getElem hj]; exact List.getElem_mem hj
          have := hsz _ hm
          rw [ba_size, ba_size] at this; omega
        have hb0 := hmem 0 f0 (by omega) hf0
        have hb2 := hmem 2 f2 (by omega) hf2
        obtain ⟨a, e, ha⟩ := atoi_tot ((f0.drop 9).take (12 - 9)) (by rw [List.length_take]; omega)
        have h912 : (ba f0).extract 9 12 = ba ((f0.drop 9).take (12 - 9)) := ba_ext _ _ _
        obtain ⟨tt, htt, hbt⟩ : ∃ tt : Tx, strings_TrimPrefix.f (ba f2) (ba (clenN ++ [58, 32])) = some (ba tt) ∧ tt.length ≤ f2.length := by
          rw [trimPre_eq]
          by_cases hx : f2.take (clenN ++ [58, 32]).length = clenN ++ [58, 32]
          · rw [if_pos hx]; exact ⟨_, rfl, by rw [List.length_drop]; omega⟩
          · rw [if_neg hx]; exact ⟨_, rfl, Nat.le_refl _⟩
        obtain ⟨n, g, hn⟩ := atoi_tot tt (by omega)
        have w1 : Unit → wrap64 (((ba q).size : Int) + 4) = ((q.length + 4 : Nat) : Int) := fun _ => by rw [ba_size, M.w64 (by omega) (by omega)]; omega
        have w2 : Unit → wrap64 (((ba p).size : Int) - ((q.length + 4 : Nat) : Int)) = (p.length : Int) - ((q.length + 4 : Nat) : Int) := fun _ => by rw [ba_size, M.w64 (by omega) (by omega)]
        have hgo : ∀ k, http_Answer.f (k + 2) (ba p) = (if e.isNone = true then (if g.isNone = true then (if n < 0 then http_Answer.j1 (k + 1) (ba p) ls a n ((q.length + 4 : Nat) : Int) true else http_Answer.j1 (k + 1) (ba p) ls a n ((q.length + 4 : Nat) : Int) (decide (n > (p.length : Int) - ((q.length + 4 : Nat) : Int)))) else http_Answer.j1 (k + 1) (ba p) ls a n ((q.length + 4 : Nat) : Int) true) else http_Answer.j1 (k + 1) (ba p) ls a n ((q.length + 4 : Nat) : Int) true) := by
          intro k
          simp only [http_Answer.f]
          rw [hc, Option.bind_some]
          dsimp only
          rw [hsp, Option.bind_some, if_pos rfl, if_neg h3, if_pos (by omega), hf0, e9, pre_eq, decide_eq_true hpr, Option.bind_some, if_pos rfl, decide_eq_false h13]
          simp only [http_Answer.j0]
          rw [if_neg (by simp), if_pos (by omega), if_pos (by omega), hf0, if_pos (by omega), h912, ha, Option.bind_some, if_pos (by omega), hf2, e16, htt, Option.bind_some, hn, Option.bind_some]
          dsimp only
          rw [w1 (), w2 ()]
        cases e with
        | some e =>
          refine ⟨2, fun k hk => ?_⟩
          obtain ⟨k, rfl⟩ : ∃ j, k = j + 2 := ⟨k - 2, by omega⟩
          dsimp only
          rw [hgo, if_neg (by simp)]; exact aj1_no _ _ _ _ _ _
        | none =>
          cases g with
          | some g =>
            refine ⟨2, fun k hk => ?_⟩
            obtain ⟨k, rfl⟩ : ∃ j, k = j + 2 := ⟨k - 2, by omega⟩
            dsimp only
            rw [hgo, if_pos nn, if_neg (by simp)]; exact aj1_no _ _ _ _ _ _
          | none =>
            by_cases hneg : n < 0
            · refine ⟨2, fun k hk => ?_⟩
              obtain ⟨k, rfl⟩ : ∃ j, k = j + 2 := ⟨k - 2, by omega⟩
              dsimp only
              rw [hgo, if_pos nn, if_pos nn, if_pos hneg]; exact aj1_no _ _ _ _ _ _
            · obtain ⟨m, rfl⟩ := Int.eq_ofNat_of_zero_le (show 0 ≤ n by omega)
              by_cases hgt : (m : Int) > (p.length : Int) - ((q.length + 4 : Nat) : Int)
              · refine ⟨2, fun k hk => ?_⟩
                obtain ⟨k, rfl⟩ : ∃ j, k = j + 2 := ⟨k - 2, by omega⟩
                dsimp only
                rw [hgo, if_pos nn, if_pos nn, if_neg hneg, decide_eq_true hgt]; exact aj1_no _ _ _ _ _ _
              · have hle : q.length + 4 + m ≤ p.length := by omega
                have w3 : Unit → wrap64 (((q.length + 4 : Nat) : Int) + (m : Int)) = ((q.length + 4 + m : Nat) : Int) := fun _ => by rw [M.w64 (by omega) (by omega)]; omega
                have x1 : (ba p).extract (q.length + 4) (q.length + 4 + m) = ba ((p.drop (q.length + 4)).take m) := by rw [ba_ext]; congr 2; omega
                have x2 : (ba p).extract 0 (q.length + 4 + m) = ba (p.take (q.length + 4 + m)) := ba_to _ _
                obtain ⟨K, s, c, hw, hne⟩ : ∃ (K : Nat) (s : Tx) (c : Int), (∀ k, K ≤ k → http_Write.f k a (ba ((p.drop (q.length + 4)).take m)) ((ls.length : Int) == 4) = some (ba s, c)) ∧ s ≠ p.take (q.length + 4 + m) := by
                  by_cases hr : 100 ≤ a ∧ a ≤ 999
                  · obtain ⟨st, rfl⟩ := Int.eq_ofNat_of_zero_le (show 0 ≤ a by omega)
                    obtain ⟨K, h⟩ := write_ev st (by omega) (by omega) ((p.drop (q.length + 4)).take m) (by rw [List.length_take]; omega) ((ls.length : Int) == 4)
                    refine ⟨K, _, _, h, fun e => ?_⟩
                    refine hno st ((p.drop (q.length + 4)).take m) ((ls.length : Int) == 4) (p.drop (q.length + 4 + m)) (by omega) (by omega) ?_
                    rw [e, List.take_append_drop]
                  · obtain ⟨K, h⟩ := write_no a hr (ba ((p.drop (q.length + 4)).take m)) ((ls.length : Int) == 4)
                    refine ⟨K, _, _, h, fun e => ?_⟩
                    have := congrArg List.length e
                    rw [List.length_take, List.length_nil] at this
                    omega
                refine ⟨K + 2, fun k hk => ?_⟩
                obtain ⟨k, rfl⟩ : ∃ j, k = j + 2 := ⟨k - 2, by omega⟩
                have hwk := hw k (by omega)
                dsimp only
                rw [hgo, if_pos nn, if_pos nn, if_neg hneg, decide_eq_false hgt]
                simp only [http_Answer.j1]
                rw [if_neg (by simp), if_pos (by omega), w3 (), if_pos (by omega), if_pos (by rw [ba_size]; omega), Int.toNat_natCast, Int.toNat_natCast, x1, hwk, Option.bind_some, if_pos (by omega), x2, if_neg (by rw [ba_list, ba_list]; exact hne)]
      · refine ⟨2, fun k hk => ?_⟩
        obtain ⟨k, rfl⟩ : ∃ j, k = j + 2 := ⟨k - 2, by omega⟩
        simp only [http_Answer.f]
        rw [hc, Option.bind_some]
        dsimp only
        rw [hsp, Option.bind_some, if_pos rfl, if_neg h3, if_pos (by omega), hf0, e9, pre_eq, Option.bind_some]
        by_cases hpr1 : f0.take okT.length = okT
        · rw [decide_eq_true hpr1, if_pos rfl, decide_eq_true (show ((ba f0).size : Int) < 13 from Classical.byContradiction fun h => hpr ⟨hpr1, h⟩)]; exact aj0_no _ _ _ _
        · rw [decide_eq_false hpr1, if_neg (by simp)]; exact aj0_no _ _ _ _

/-! ### the reference's Answer -/
def dgn : Tx → Nat → Nat
  | [], _ => 0
  | _ :: _, 0 => 0
  | x :: l, f + 1 => if 48 ≤ x.toNat ∧ x.toNat ≤ 57 then dgn l f + 1 else 0
theorem dgn_le : ∀ (l : Tx) (f : Nat), dgn l f ≤ l.length ∧ dgn l f ≤ f
  | [], f => by simp [dgn]
  | _ :: _, 0 => by simp [dgn]
  | x :: l, f + 1 => by
    have := dgn_le l f
    unfold dgn
    split
    · simp only [List.length_cons]; omega
    · simp
theorem dgn_stop : ∀ (d : Tx) (f : Nat) (y : UInt8) (r : Tx), (∀ b ∈ d, 48 ≤ b.toNat ∧ b.toNat ≤ 57) → ¬ (48 ≤ y.toNat ∧ y.toNat ≤ 57) → d.length ≤ f → dgn (d ++ y :: r) f = d.length
  | [], 0, y, r, _, _, _ => by simp [dgn]
  | [], f + 1, y, r, _, hy, _ => by simp only [List.nil_append, dgn]; rw [if_neg hy]; rfl
  | x :: d, 0, y, r, _, _, h => by simp at h
  | x :: d, f + 1, y, r, hd, hy, h => by
    simp only [List.cons_append, dgn]
    rw [if_pos (hd x (by simp)), dgn_stop d f y r (fun b hb => hd b (by simp [hb])) hy (by simpa using h)]; simp
theorem l1_loop (p : Tx) (hp : p.length ≤ 100000) (st : Int) (x6 : Int) (x7 : Bool) (hd : Tx) (r : Int × ByteArray × Int) : ∀ (f i : Nat), hd.length ≤ i → i ≤ p.length → i + f = hd.length + 10 →
    Ev (fun k => fascineref12_Answer.j4 k (ba p) st x6 x7 (ba hd) ((i + dgn (p.drop i) f : Nat) : Int)) r → Ev (fun k => fascineref12_Answer.l1 k (ba p) st x6 x7 (ba hd) (i : Int)) r := by
  intro f
  induction f with
  | zero =>
    intro i h0 hi hf h
    have hz : dgn (p.drop i) 0 = 0 := by have := (dgn_le (p.drop i) 0).2; omega
    rw [hz] at h
    refine Ev.step (fun k => ?_) h
    simp only [fascineref12_Answer.l1]
    by_cases hlt : i < p.length
    · rw [if_pos (by rw [ba_size]; omega), if_pos (by omega)]
      have w : Unit → wrap64 ((i : Int) - ((ba hd).size : Int)) = ((i - hd.length : Nat) : Int) := fun _ => by rw [ba_size, M.w64 (by omega) (by omega)]; omega
      rw [w (), if_neg (show ¬ ((i - hd.length : Nat) : Int) < 10 by omega)]
      simp only [ite_self]; rfl
    · rw [if_neg (by rw [ba_size]; omega)]; rfl
  | succ f ih =>
    intro i h0 hi hf h
    by_cases hlt : i < p.length
    · have hdr := List.drop_eq_getElem_cons hlt
      rw [hdr] at h
      unfold dgn at h
      by_cases hb : 48 ≤ p[i].toNat ∧ p[i].toNat ≤ 57
      · rw [if_pos hb, show i + (dgn (p.drop (i + 1)) f + 1) = (i + 1) + dgn (p.drop (i + 1)) f by omega] at h
        have h2 := ih (i + 1) (by omega) (by omega) (by omega) h
        refine Ev.step (fun k => ?_) h2
        have w : Unit → wrap64 ((i : Int) - ((ba hd).size : Int)) = ((i - hd.length : Nat) : Int) := fun _ => by rw [ba_size, M.w64 (by omega) (by omega)]; omega
        simp only [fascineref12_Answer.l1]
        rw [if_pos (by rw [ba_size]; omega), if_pos (by omega), bt_ba p i hlt, if_pos (by omega), if_pos (by omega), w (), if_pos (by omega), up1 (by omega)]
      · rw [if_neg hb] at h
        refine Ev.step (fun k => ?_) h
        simp only [fascineref12_Answer.l1]
        rw [if_pos (by rw [ba_size]; omega), if_pos (by omega), bt_ba p i hlt]
        by_cases hb1 : ((p[i].toNat : Nat) : Int) ≥ 48
        · rw [if_pos hb1, if_neg (by omega)]; rfl
        · rw [if_neg hb1]; rfl
    · have e : p.drop i = [] := List.drop_of_length_le (by omega)
      rw [e] at h
      refine Ev.step (fun k => ?_) h
      simp only [fascineref12_Answer.l1]
      rw [if_neg (by rw [ba_size]; omega)]; rfl
/-- one try: what stands behind the head -/
def tryV (p : Tx) (st : Nat) (last : Bool) : Option (Nat × Nat) :=
  if p.take (headS st).length = headS st then
    match lenV ((p.drop (headS st).length).take (dgn (p.drop (headS st).length) 10)) with
    | none => none
    | some n => if p.length < (headS st).length + dgn (p.drop (headS st).length) 10 + (tailT last).length + n then none
      else if (p.drop ((headS st).length + dgn (p.drop (headS st).length) 10)).take (tailT last).length = tailT last then some ((headS st).length + dgn (p.drop (headS st).length) 10 + (tailT last).length, n) else none
  else none
theorem head_ba (st : Nat) : ((((⟨#[72, 84, 84, 80, 47, 49, 46, 49, 32]⟩ : ByteArray) ++ ba (Lib.decDigits st)) ++ (⟨#[32]⟩ : ByteArray)) ++ ba (reasI (st : Int))) ++ (⟨#[13, 10, 67, 111, 110, 116, 101, 110, 116, 45, 84, 121, 112, 101, 58, 32, 97, 112, 112, 108, 105, 99, 97, 116, 105, 111, 110, 47, 106, 115, 111, 110, 13, 10, 67, 111, 110, 116, 101, 110, 116, 45, 76, 101, 110, 103, 116, 104, 58, 32]⟩ : ByteArray) = ba (headS st) := by
  have e1 : (⟨#[72, 84, 84, 80, 47, 49, 46, 49, 32]⟩ : ByteArray) = ba okT := rfl
  have e2 : (⟨#[32]⟩ : ByteArray) = ba [32] := rfl
  have e3 : (⟨#[13, 10, 67, 111, 110, 116, 101, 110, 116, 45, 84, 121, 112, 101, 58, 32, 97, 112, 112, 108, 105, 99, 97, 116, 105, 111, 110, 47, 106, 115, 111, 110, 13, 10, 67, 111, 110, 116, 101, 110, 116, 45, 76, 101, 110, 103, 116, 104, 58, 32]⟩ : ByteArray) = ba midT := rfl
  rw [e1, e2, e3]
  simp only [ba_app]
  simp [headS]
def nx (last : Bool) : Int := if last then 1 else 0
theorem nx_up (last : Bool) : wrap64 (nx last + 1) = (if last then 2 else 1) := by cases last <;> decide +kernel
theorem round_ev (p : Tx) (hp : p.length ≤ 100000) (st : Nat) (h1 : 100 ≤ st) (h2 : st ≤ 999) (last : Bool) (r : Int × ByteArray × Int)
    (h : match tryV p st last with
      | some (j, n) => r = ((st : Int), ba ((p.drop j).take n), ((j + n : Nat) : Int))
      | none => Ev (fun k => fascineref12_Answer.l0 k (ba p) (st : Int) (if last then 2 else 1)) r) :
    Ev (fun k => fascineref12_Answer.l0 k (ba p) (st : Int) (nx last)) r := by
  obtain ⟨K1, d1⟩ := Dec_ev 3 st (by omega) (by omega)
  obtain ⟨K3, d3⟩ := words_eq (st : Int)
  dsimp only at d1 d3
  have l1 := dd_len 3 st (by omega)
  have l3 := (reas_ok (st : Int)).2.1
  have s0 : (ba (Lib.decDigits st)).size ≤ 4 := by rw [ba_size]; exact l1
  have s1 : (ba (reasI (st : Int))).size ≤ 40 := by rw [ba_size]; exact l3
  have n2 : nx last < 2 := by cases last <;> decide
  have n1 : (nx last == 1) = last := by cases last <;> decide
  have hH : (headS st).length ≤ 200 := by
    simp only [headS, List.length_append, List.length_cons, okT, midT, List.length_nil]; omega
  -- what stands behind the head: the round goes on at j2
  have hj2 : ∀ c r, (c = true ↔ ¬ p.take (headS st).length = headS st) → Ev (fun k => fascineref12_Answer.j2 k (ba p) (st : Int) (nx last) last (ba (headS st)) c) r → Ev (fun k => fascineref12_Answer.l0 k (ba p) (st : Int) (nx last)) r := by
    intro c r hc ⟨K, hr⟩
    dsimp only at hr
    refine ⟨K1 + K3 + K + 1, fun k hk => ?_⟩
    obtain ⟨k, rfl⟩ : ∃ j, k = j + 1 := ⟨k - 1, by omega⟩
    dsimp only
    simp only [fascineref12_Answer.l0]
    rw [if_pos n2, d1 k (by omega), Option.bind_some, if_pos (by omega), if_pos (by omega), d3 k (by omega), Option.bind_some, if_pos (by omega), if_pos (by omega), head_ba, n1]
    by_cases hl : p.length < (headS st).length
    · have hc1 : c = true := hc.2 fun e => by have := congrArg List.length e; rw [List.length_take] at this; omega
      rw [if_pos (by rw [ba_size, ba_size]; omega), ← hc1]
      exact hr k (by omega)
    · rw [if_neg (by rw [ba_size, ba_size]; omega), if_pos (by omega), if_pos (by rw [ba_size, ba_size]; omega), ba_size (headS st), Int.toNat_natCast, ba_to, ba_list, ba_list]
      have hc2 : (p.take (headS st).length != headS st) = c := by
        cases c with
        | true => simpa using hc.1 rfl
        | false => simpa using hc
      rw [hc2]
      exact hr k (by omega)
  unfold tryV at h
  by_cases hd : p.take (headS st).length = headS st
  · rw [if_pos hd] at h
    have hle : (headS st).length ≤ p.length := by have := congrArg List.length hd; rw [List.length_take] at this; omega
    generalize hm : dgn (p.drop (headS st).length) 10 = m at h
    have hml : m ≤ p.length - (headS st).length ∧ m ≤ 10 := by
      have := dgn_le (p.drop (headS st).length) 10
      rw [List.length_drop, hm] at this; exact this
    refine hj2 false r (by simp [hd]) ?_
    have hl1 : Ev (fun k => fascineref12_Answer.l1 k (ba p) (st : Int) (nx last) last (ba (headS st)) ((headS st).length : Int)) r := by
      refine l1_loop p hp _ _ _ _ r 10 _ (Nat.le_refl _) hle rfl ?_
      rw [hm]
      obtain ⟨K4, hq⟩ := rlen_ev ((p.drop (headS st).length).take m)
      dsimp only at hq
      have x1 : (ba p).extract (headS st).length ((headS st).length + m) = ba ((p.drop (headS st).length).take m) := by rw [ba_ext]; congr 2; omega
      have hup : wrap64 (nx last + 1) = (if last then 2 else 1) := nx_up last
      -- none or too short or another tail: on to the next
      have hnext : (∀ k, K4 ≤ k → fascineref12_Answer.j4 (k + 1) (ba p) (st : Int) (nx last) last (ba (headS st)) (((headS st).length + m : Nat) : Int) = if lenR (lenV ((p.drop (headS st).length).take m)) < 0 then fascineref12_Answer.l0 k (ba p) (st : Int) (if last then 2 else 1) else
          if (p.length : Int) < ((headS st).length + m + (tailT last).length : Nat) + lenR (lenV ((p.drop (headS st).length).take m)) then fascineref12_Answer.l0 k (ba p) (st : Int) (if last then 2 else 1) else
          if (p.drop ((headS st).length + m)).take (tailT last).length = tailT last then some ((st : Int), (ba p).extract ((headS st).length + m + (tailT last).length) (((headS st).length + m + (tailT last).length : Nat) + lenR (lenV ((p.drop (headS st).length).take m))).toNat, (((headS st).length + m + (tailT last).length : Nat) : Int) + lenR (lenV ((p.drop (headS st).length).take m))) else fascineref12_Answer.l0 k (ba p) (st : Int) (if last then 2 else 1)) → Ev (fun k => fascineref12_Answer.j4 k (ba p) (st : Int) (nx last) last (ba (headS st)) (((headS st).length + m : Nat) : Int)) r := by
        intro hu
        cases hv : lenV ((p.drop (headS st).length).take m) with
        | none =>
          rw [hv] at hq h hu
          obtain ⟨K5, h5⟩ := h
          dsimp only at h5
          refine ⟨K4 + K5 + 1, fun k hk => ?_⟩
          obtain ⟨k, rfl⟩ : ∃ j, k = j + 1 := ⟨k - 1, by omega⟩
          dsimp only
          rw [hu k (by omega), if_pos (by show (-1 : Int) < 0; omega)]
          exact h5 k (by omega)
        | some n =>
          rw [hv] at hq h hu
          dsimp only at h
          have hn : lenR (some n) = (n : Int) := rfl
          rw [hn] at hq hu
          by_cases hs : p.length < (headS st).length + m + (tailT last).length + n
          · rw [if_pos hs] at h
            obtain ⟨K5, h5⟩ := h
            dsimp only at h5
            refine ⟨K4 + K5 + 1, fun k hk => ?_⟩
            obtain ⟨k, rfl⟩ : ∃ j, k = j + 1 := ⟨k - 1, by omega⟩
            dsimp only
            rw [hu k (by omega), if_neg (by omega), if_pos (by omega)]
            exact h5 k (by omega)
          · rw [if_neg hs] at h
            by_cases ht : (p.drop ((headS st).length + m)).take (tailT last).length = tailT last
            · rw [if_pos ht] at h
              dsimp only at h
              refine ⟨K4 + 1, fun k hk => ?_⟩
              obtain ⟨k, rfl⟩ : ∃ j, k = j + 1 := ⟨k - 1, by omega⟩
              dsimp only
              rw [hu k (by omega), if_neg (by omega), if_neg (by omega), if_pos ht, h, ← Int.natCast_add, Int.toNat_natCast, ba_ext]
              congr 5
              omega
            · rw [if_neg ht] at h
              obtain ⟨K5, h5⟩ := h
              dsimp only at h5
              refine ⟨K4 + K5 + 1, fun k hk => ?_⟩
              obtain ⟨k, rfl⟩ : ∃ j, k = j + 1 := ⟨k - 1, by omega⟩
              dsimp only
              rw [hu k (by omega), if_neg (by omega), if_neg (by omega), if_neg ht]
              exact h5 k (by omega)
      refine hnext fun k hk => ?_
      simp only [fascineref12_Answer.j4]
      rw [ba_size (headS st), if_pos (by omega), if_pos (by omega), if_pos (by rw [ba_size]; omega), Int.toNat_natCast, Int.toNat_natCast, x1, hup, hq k hk, Option.bind_some]
      have ht9 : lenR (lenV ((p.drop (headS st).length).take m)) < 1000000000 := by
        cases hv : lenV ((p.drop (headS st).length).take m) with
        | none => show (-1 : Int) < _; omega
        | some n => have := (lenV_some hv).2.2.2; show (n : Int) < _; omega
      generalize lenR (lenV ((p.drop (headS st).length).take m)) = t at *
      by_cases ht0 : t < 0
      · rw [if_pos ht0, if_pos ht0]
      · rw [if_neg ht0, if_neg ht0]
        obtain ⟨n, rfl⟩ := Int.eq_ofNat_of_zero_le (show 0 ≤ t by omega)
        cases last with
        | true =>
          have w1 : Unit → wrap64 ((((headS st).length + m : Nat) : Int) + 23) = (((headS st).length + m + 23 : Nat) : Int) := fun _ => by rw [M.w64 (by omega) (by omega)]; omega
          have w2 : Unit → wrap64 ((((headS st).length + m + 23 : Nat) : Int) + (n : Int)) = (((headS st).length + m + 23 : Nat) : Int) + (n : Int) := fun _ => by rw [M.w64 (by omega) (by omega)]
          have tl : (tailT true).length = 23 := rfl
          rw [if_pos rfl, w1 (), w2 (), tl, ba_size]
          by_cases hs : (p.length : Int) < (((headS st).length + m + 23 : Nat) : Int) + (n : Int)
          · rw [if_pos hs, if_pos hs]
          · have x3 : (ba p).extract ((headS st).length + m) ((headS st).length + m + 23) = ba ((p.drop ((headS st).length + m)).take 23) := by rw [ba_ext]; congr 2; omega
            rw [if_neg hs, if_neg hs, if_pos (by omega), if_pos (by omega), if_pos (by omega), Int.toNat_natCast, x3, ba_list, show tailT true = ([13, 10, 67, 111, 110, 110, 101, 99, 116, 105, 111, 110, 58, 32, 99, 108, 111, 115, 101, 13, 10, 13, 10] : List UInt8) from rfl]
            by_cases ht : (p.drop ((headS st).length + m)).take 23 = ([13, 10, 67, 111, 110, 110, 101, 99, 116, 105, 111, 110, 58, 32, 99, 108, 111, 115, 101, 13, 10, 13, 10] : List UInt8)
            · rw [if_pos ht, if_pos ht, if_pos (by omega), if_pos (by omega), if_pos (by omega)]
            · rw [if_neg ht, if_neg ht]
        | false =>
          have w1 : Unit → wrap64 ((((headS st).length + m : Nat) : Int) + 4) = (((headS st).length + m + 4 : Nat) : Int) := fun _ => by rw [M.w64 (by omega) (by omega)]; omega
          have w2 : Unit → wrap64 ((((headS st).length + m + 4 : Nat) : Int) + (n : Int)) = (((headS st).length + m + 4 : Nat) : Int) + (n : Int) := fun _ => by rw [M.w64 (by omega) (by omega)]
          have tl : (tailT false).length = 4 := rfl
          rw [if_neg (by simp), w1 (), w2 (), tl, ba_size]
          by_cases hs : (p.length : Int) < (((headS st).length + m + 4 : Nat) : Int) + (n : Int)
          · rw [if_pos hs, if_pos hs]
          · have x3 : (ba p).extract ((headS st).length + m) ((headS st).length + m + 4) = ba ((p.drop ((headS st).length + m)).take 4) := by rw [ba_ext]; congr 2; omega
            rw [if_neg hs, if_neg hs, if_pos (by omega), if_pos (by omega), if_pos (by omega), Int.toNat_natCast, x3, ba_list, show tailT false = ([13, 10, 13, 10] : List UInt8) from rfl]
            by_cases ht : (p.drop ((headS st).length + m)).take 4 = ([13, 10, 13, 10] : List UInt8)
            · rw [if_pos ht, if_pos ht, if_pos (by omega), if_pos (by omega), if_pos (by omega)]
            · rw [if_neg ht, if_neg ht]
    refine Ev.step (fun k => ?_) hl1
    simp only [fascineref12_Answer.j2]
    rw [if_neg (by simp), ba_size]
  · rw [if_neg hd] at h
    refine hj2 true r (by simp [hd]) ?_
    refine Ev.step (fun k => ?_) h
    simp only [fascineref12_Answer.j2]
    rw [if_pos trivial, nx_up]

theorem parts4 (p : Tx) (a m t n : Nat) : p.take a ++ ((p.drop a).take m ++ ((p.drop (a + m)).take t ++ ((p.drop (a + m + t)).take n ++ p.drop (a + m + t + n)))) = p := by
  rw [show p.drop (a + m + t + n) = (p.drop (a + m + t)).drop n from List.drop_drop.symm, List.take_append_drop, show p.drop (a + m + t) = (p.drop (a + m)).drop t from List.drop_drop.symm, List.take_append_drop, show p.drop (a + m) = (p.drop a).drop m from List.drop_drop.symm, List.take_append_drop, List.take_append_drop]
theorem try_some (p : Tx) (st : Nat) (last : Bool) (j n : Nat) (h : tryV p st last = some (j, n)) : ∃ b rest, p = WV st b last ++ rest := by
  unfold tryV at h
  split at h
  · rename_i hd
    split at h
    · cases h
    · rename_i m' hv
      split at h
      · cases h
      · rename_i hs
        split at h
        · rename_i ht
          simp only [Option.some.injEq, Prod.mk.injEq] at h
          obtain ⟨_, rfl⟩ := h
          generalize hm : dgn (p.drop (headS st).length) 10 = m at *
          have hdd : Lib.decDigits m' = (p.drop (headS st).length).take m := by
            have := (lenV_some hv).2.1
            rw [Lib.itoa_nonneg] at this; exact this
          refine ⟨(p.drop ((headS st).length + m + (tailT last).length)).take m', p.drop ((headS st).length + m + (tailT last).length + m'), ?_⟩
          have hl : ((p.drop ((headS st).length + m + (tailT last).length)).take m').length = m' := by rw [List.length_take, List.length_drop]; omega
          rw [WV_parts, hl, hdd]
          have hp := parts4 p (headS st).length m (tailT last).length m'
          rw [hd, ht] at hp
          simp only [List.append_assoc]
          exact hp.symm
        · cases h
  · cases h
theorem dig_ok (n : Nat) : ∀ b ∈ Lib.decDigits n, 48 ≤ b.toNat ∧ b.toNat ≤ 57 := fun b hb => dd_mem n b hb
theorem tail_head (last : Bool) : ∃ r, tailT last = 13 :: r := by cases last <;> exact ⟨_, rfl⟩
theorem dgn_of (st : Nat) (b rest : Tx) (last : Bool) (hb : b.length < 1000000000) : (WV st b last ++ rest).drop (headS st).length = Lib.decDigits b.length ++ (tailT last ++ (b ++ rest)) ∧ (WV st b last ++ rest).take (headS st).length = headS st ∧ dgn ((WV st b last ++ rest).drop (headS st).length) 10 = (Lib.decDigits b.length).length := by
  have e : WV st b last ++ rest = headS st ++ (Lib.decDigits b.length ++ (tailT last ++ (b ++ rest))) := by rw [WV_parts]; simp
  rw [e]
  refine ⟨List.drop_left, List.take_left, ?_⟩
  rw [List.drop_left]
  obtain ⟨r, hr⟩ := tail_head last
  rw [hr]
  exact dgn_stop _ _ _ _ (dig_ok _) (by decide) (by have := dd_len 8 b.length (by omega); omega)
theorem try_hit (st : Nat) (b rest : Tx) (last : Bool) (hb : b.length < 1000000000) : tryV (WV st b last ++ rest) st last = some ((headS st).length + (Lib.decDigits b.length).length + (tailT last).length, b.length) := by
  obtain ⟨e1, e2, e3⟩ := dgn_of st b rest last hb
  unfold tryV
  rw [if_pos e2, e3, e1, List.take_left, lenV_of _ hb]
  dsimp only
  rw [if_neg, ← List.drop_drop, e1, List.drop_left, List.take_left, if_pos rfl]
  rw [WV_parts]
  simp only [List.length_append]; omega
theorem try_other (st : Nat) (b rest : Tx) (hb : b.length < 1000000000) : tryV (WV st b true ++ rest) st false = none := by
  obtain ⟨e1, e2, e3⟩ := dgn_of st b rest true hb
  unfold tryV
  rw [if_pos e2, e3, e1, List.take_left, lenV_of _ hb]
  dsimp only
  split
  · rfl
  · rw [← List.drop_drop, e1, List.drop_left, if_neg]
    intro h
    simp [tailT, clT] at h
theorem l0_end (k : Nat) (p : ByteArray) (st : Int) : fascineref12_Answer.l0 (k + 1) p st 2 = some (0, (⟨#[]⟩ : ByteArray), 0) := by
  simp only [fascineref12_Answer.l0]; rw [if_neg (by omega)]
theorem rj0_no (k : Nat) (p : ByteArray) : fascineref12_Answer.j0 (k + 1) p true = some (0, (⟨#[]⟩ : ByteArray), 0) := by
  simp only [fascineref12_Answer.j0]; rw [if_pos trivial]
/-- the reference's Answer, behind its first look -/
theorem rans_ev (p : Tx) (h13 : 13 ≤ p.length) (h9 : p.take 9 = okT) (hp : p.length ≤ 100000) (r : Int × ByteArray × Int)
    (h : match lenV ((p.drop 9).take 3) with
      | none => r = (0, (⟨#[]⟩ : ByteArray), 0)
      | some n => if n < 100 then r = (0, (⟨#[]⟩ : ByteArray), 0) else Ev (fun k => fascineref12_Answer.l0 k (ba p) (n : Int) 0) r) :
    Ev (fun k => fascineref12_Answer.f k (ba p)) r := by
  obtain ⟨K1, hl⟩ := rlen_ev ((p.drop 9).take 3)
  dsimp only at hl
  have x1 : (ba p).extract 0 9 = ba okT := by rw [ba_to, h9]
  have x2 : (ba p).extract 9 12 = ba ((p.drop 9).take 3) := ba_ext _ _ _
  have hf : ∀ k, fascineref12_Answer.f (k + 1) (ba p) = (fascineref12_length.f k (ba ((p.drop 9).take 3))).bind fun t => if t < 100 then some (0, (⟨#[]⟩ : ByteArray), 0) else fascineref12_Answer.l0 k (ba p) t 0 := by
    intro k
    simp only [fascineref12_Answer.f]
    rw [if_neg (by rw [ba_size]; omega), if_pos (by omega), if_pos (by rw [ba_size]; omega), x1, show ((ba okT).toList != ([72, 84, 84, 80, 47, 49, 46, 49, 32] : List UInt8)) = false from by rw [ba_list]; decide]
    simp only [fascineref12_Answer.j0]
    rw [if_neg (by simp), if_pos (by omega), if_pos (by rw [ba_size]; omega), x2]
  cases hv : lenV ((p.drop 9).take 3) with
  | none =>
    rw [hv] at h hl
    dsimp only at h
    refine ⟨K1 + 1, fun k hk => ?_⟩
    obtain ⟨k, rfl⟩ : ∃ j, k = j + 1 := ⟨k - 1, by omega⟩
    dsimp only
    rw [hf, hl k (by omega), Option.bind_some, if_pos (by show (-1 : Int) < 100; omega), h]
  | some n =>
    rw [hv] at h hl
    dsimp only at h
    have hn : lenR (some n) = (n : Int) := rfl
    rw [hn] at hl
    by_cases h1 : n < 100
    · rw [if_pos h1] at h
      refine ⟨K1 + 1, fun k hk => ?_⟩
      obtain ⟨k, rfl⟩ : ∃ j, k = j + 1 := ⟨k - 1, by omega⟩
      dsimp only
      rw [hf, hl k (by omega), Option.bind_some, if_pos (by omega), h]
    · rw [if_neg h1] at h
      obtain ⟨K2, h2⟩ := h
      dsimp only at h2
      refine ⟨K1 + K2 + 1, fun k hk => ?_⟩
      obtain ⟨k, rfl⟩ : ∃ j, k = j + 1 := ⟨k - 1, by omega⟩
      dsimp only
      rw [hf, hl k (by omega), Option.bind_some, if_neg (by omega)]
      exact h2 k (by omega)
theorem len3 {l : Tx} {n : Nat} (h : lenV l = some n) (hl : l.length ≤ 3) : n ≤ 999 := by
  have e := (lenV_some h).2.1
  rw [Lib.itoa_nonneg] at e
  refine Classical.byContradiction fun hn => ?_
  have : 4 ≤ (Lib.decDigits n).length := by
    rw [Lib.decDigits, dif_neg (by omega), Lib.decDigits, dif_neg (by omega), Lib.decDigits, dif_neg (by omega)]
    have := dd_one (n / 10 / 10 / 10)
    simp only [List.length_append, List.length_cons, List.length_nil]; omega
  rw [e] at this
  omega
theorem rans_hit (st : Nat) (h1 : 100 ≤ st) (h2 : st ≤ 999) (b rest : Tx) (last : Bool) (hp : (WV st b last ++ rest).length ≤ 100000) :
    Ev (fun k => fascineref12_Answer.f k (ba (WV st b last ++ rest))) ((st : Int), ba b, ((WV st b last).length : Int)) := by
  have hb : b.length < 1000000000 := by rw [WV_parts] at hp; simp only [List.length_append] at hp; omega
  have hd3 := dd3 st h1 h2
  have e : WV st b last ++ rest = okT ++ (Lib.decDigits st ++ (32 :: (reasI (st : Int) ++ midT) ++ (Lib.decDigits b.length ++ (tailT last ++ (b ++ rest))))) := by rw [WV_parts]; simp [headS]
  have h9 : (WV st b last ++ rest).take 9 = okT := by rw [e]; exact List.take_left' rfl
  have h13 : 13 ≤ (WV st b last ++ rest).length := by
    rw [e]; simp only [List.length_append, List.length_cons, hd3, okT, midT, List.length_nil]; omega
  have h93 : ((WV st b last ++ rest).drop 9).take 3 = Lib.decDigits st := by
    rw [e, List.drop_left' (by rfl), List.take_left' hd3]
  refine rans_ev _ h13 h9 hp _ ?_
  rw [h93, lenV_of st (by omega)]
  dsimp only
  rw [if_neg (by omega)]
  have hres : ∀ l : Bool, l = last → Ev (fun k => fascineref12_Answer.l0 k (ba (WV st b last ++ rest)) (st : Int) (nx l)) ((st : Int), ba b, ((WV st b last).length : Int)) := by
    intro l hl
    subst hl
    refine round_ev _ hp st h1 h2 l _ ?_
    rw [try_hit st b rest l hb]
    dsimp only
    have hw : (WV st b l).length = (headS st).length + (Lib.decDigits b.length).length + (tailT l).length + b.length := by
      rw [WV_parts]; simp only [List.length_append]; omega
    have hdr : (WV st b l ++ rest).drop ((headS st).length + (Lib.decDigits b.length).length + (tailT l).length) = b ++ rest := by
      rw [WV_parts, ← List.drop_drop, ← List.drop_drop, List.append_assoc, List.drop_left, List.append_assoc, List.drop_left, List.append_assoc, List.drop_left]
    rw [hdr, List.take_left, hw]
  cases last with
  | false => exact hres false rfl
  | true =>
    refine round_ev _ hp st h1 h2 false _ ?_
    rw [try_other st b rest hb]
    exact hres true rfl
theorem rans_miss (p : Tx) (hp : p.length ≤ 100000) (hno : ∀ st b last rest, 100 ≤ st → st ≤ 999 → p ≠ WV st b last ++ rest) :
    Ev (fun k => fascineref12_Answer.f k (ba p)) ((0 : Int), (⟨#[]⟩ : ByteArray), (0 : Int)) := by
  by_cases h13 : 13 ≤ p.length
  · by_cases h9 : p.take 9 = okT
    · refine rans_ev p h13 h9 hp _ ?_
      cases hv : lenV ((p.drop 9).take 3) with
      | none => rfl
      | some n =>
        dsimp only
        split
        · rfl
        · rename_i h100
          have h999 := len3 hv (by rw [List.length_take]; omega)
          have hnone : ∀ l : Bool, tryV p n l = none := by
            intro l
            cases ht : tryV p n l with
            | none => rfl
            | some x =>
              obtain ⟨j, m⟩ := x
              obtain ⟨b, rest, e⟩ := try_some p n l j m ht
              exact absurd e (hno n b l rest (by omega) h999)
          have hend : Ev (fun k => fascineref12_Answer.l0 k (ba p) (n : Int) 2) ((0 : Int), (⟨#[]⟩ : ByteArray), (0 : Int)) := ev_some fun k => l0_end k _ _
          have r1 : Ev (fun k => fascineref12_Answer.l0 k (ba p) (n : Int) 1) ((0 : Int), (⟨#[]⟩ : ByteArray), (0 : Int)) := by
            refine round_ev p hp n (by omega) h999 true _ ?_
            rw [hnone]; exact hend
          refine round_ev p hp n (by omega) h999 false _ ?_
          rw [hnone]; exact r1
    · refine ⟨1, fun k hk => ?_⟩
      obtain ⟨k, rfl⟩ : ∃ j, k = j + 1 := ⟨k - 1, by omega⟩
      simp only [fascineref12_Answer.f]
      rw [if_neg (by rw [ba_size]; omega), if_pos (by omega), if_pos (by rw [ba_size]; omega), ba_to, ba_list, show (p.take 9 != ([72, 84, 84, 80, 47, 49, 46, 49, 32] : List UInt8)) = true from by simpa [okT] using h9]
      exact rj0_no _ _
  · refine ⟨1, fun k hk => ?_⟩
    obtain ⟨k, rfl⟩ : ∃ j, k = j + 1 := ⟨k - 1, by omega⟩
    simp only [fascineref12_Answer.f]
    rw [if_pos (by rw [ba_size]; omega)]
    exact rj0_no _ _
theorem answers_both (p : Tx) (hp : p.length ≤ 100000) : ∃ a b n, Ev (fun k => http_Answer.f k (ba p)) (a, b, n) ∧ Ev (fun k => fascineref12_Answer.f k (ba p)) (a, b, n) := by
  by_cases h : ∃ st b last rest, 100 ≤ st ∧ st ≤ 999 ∧ p = WV st b last ++ rest
  · obtain ⟨st, b, last, rest, h1, h2, rfl⟩ := h
    have hb : b.length < 1000000000 := by rw [WV_parts] at hp; simp only [List.length_append] at hp; omega
    exact ⟨_, _, _, answer_hit st h1 h2 b rest last hb (by omega), rans_hit st h1 h2 b rest last hp⟩
  · have hno : ∀ st b last rest, 100 ≤ st → st ≤ 999 → p ≠ WV st b last ++ rest := fun st b last rest h1 h2 e => h ⟨st, b, last, rest, h1, h2, e⟩
    exact ⟨_, _, _, answer_miss p hp hno, rans_miss p hp hno⟩
theorem HttpAnswers : HttpAnswers_PureU := by
  intro s1
  rw [← ba_of s1]
  generalize s1.data.toList = p at *
  obtain ⟨K0, h0⟩ := awake_ev
  dsimp only at h0
  by_cases hp : p.length ≤ 100000
  · obtain ⟨a, b, n, ⟨K1, h1⟩, ⟨K2, h2⟩⟩ := answers_both p hp
    dsimp only at h1 h2
    refine ⟨K0 + K1 + K2 + 1, ?_⟩
    simp only [fascinelaw12_HttpAnswers.f]
    rw [h0 _ (by omega), Option.bind_some, if_pos rfl, show decide (((ba p).size : Int) > 100000) = false from decide_eq_false (by rw [ba_size]; omega)]
    simp only [fascinelaw12_HttpAnswers.j0]
    rw [if_neg (by simp), h1 _ (by omega), Option.bind_some, h2 _ (by omega), Option.bind_some]
    dsimp only
    rw [if_pos rfl, if_pos rfl]
    simp
  · refine ⟨K0 + 1, ?_⟩
    simp only [fascinelaw12_HttpAnswers.f]
    rw [h0 _ (by omega), Option.bind_some, if_pos rfl, show decide (((ba p).size : Int) > 100000) = true from decide_eq_true (by rw [ba_size]; omega)]
    simp only [fascinelaw12_HttpAnswers.j0]
    rw [if_pos trivial, h0 _ (by omega), Option.bind_some]

end Go.Proofs.YtpigloohccpfiaaDoor.Pure
