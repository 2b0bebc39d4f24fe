/- On the printed functions of HttpLines: what each of them answers, in plain words. -/
import Derived.Test.YtpigloohccpfiaaDoorPHttpLinesx
import Derived.Test.YtpigloohccpfiaaDoorMLin
namespace Go.Proofs.YtpigloohccpfiaaDoor.Pure
open Go.RowKit Go.Proofs.YtpigloohccpfiaaDoor.G Go.Proofs.YtpigloohccpfiaaDoor.PHttpLines Go.Proofs.YtpigloohccpfiaaDoorW.PrintWords Go.Proofs.YtpigloohccpfiaaDoorW.PrintLast Go.Proofs.YtpigloohccpfiaaDoorW.PrintMore Go.Proofs.YtpigloohccpfiaaDoor.M
set_option linter.unusedVariables false
set_option linter.unusedSimpArgs false

theorem ev_some {α : Type} {g : Nat → Option α} {r : α} (h : ∀ k, g (k + 1) = some r) : Ev g r := Ev.step (f := fun _ => some r) h (Ev.now r)
theorem ev_mono {α : Type} {g : Nat → Option α} {r : α} (hg : ∀ k, LeO (g k) (g (k + 1))) {k : Nat} (h : g k = some r) : Ev g r := Ev.of hg h
theorem up1 {i : Nat} (h : i ≤ 140737488351232) : wrap64 ((i : Int) + 1) = ((i + 1 : Nat) : Int) := by rw [M.w64 (by omega) (by omega)]; omega
theorem ba_from (l : Tx) (i : Nat) : (ba l).extract i (ba l).size = ba (l.drop i) := by
  rw [ba_ext, ba_size, List.take_of_length_le (by rw [List.length_drop]; exact Nat.le_refl _)]
theorem ba_to (l : Tx) (i : Nat) : (ba l).extract 0 i = ba (l.take i) := by
  rw [ba_ext, List.drop_zero, Nat.sub_zero]
theorem tokc_iff (b : UInt8) : tokc b = true ↔ ((97 ≤ b.toNat ∧ b.toNat ≤ 122) ∨ (65 ≤ b.toNat ∧ b.toNat ≤ 90) ∨ (48 ≤ b.toNat ∧ b.toNat ≤ 57) ∨ b.toNat = 45 ∨ b.toNat = 95) := by simp [tokc]
theorem bits_tab : ∀ b : Fin 256, (97 ≤ Go.bits .or .u8 (b.val : Int) 32 ∧ Go.bits .or .u8 (b.val : Int) 32 ≤ 122) ↔ ((97 ≤ b.val ∧ b.val ≤ 122) ∨ (65 ≤ b.val ∧ b.val ≤ 90)) := by decide +kernel
theorem token_loop (l : Tx) (hl : l.length ≤ 140737488351232) : ∀ (d i : Nat), l.length - i = d → i ≤ l.length → Ev (fun k => http_token.l0 k (ba l) (l.length : Int) (i : Int)) ((l.drop i).all tokc && !l.isEmpty) := by
  intro d
  induction d with
  | zero =>
    intro i hd hi
    refine ev_some fun k => ?_
    simp only [http_token.l0]
    rw [if_neg (by omega), ba_list, List.drop_of_length_le (by omega)]
    cases l <;> simp
  | succ d ih =>
    intro i hd hi
    have hlt : i < l.length := by omega
    have h2 := ih (i + 1) (by omega) (by omega)
    have e64 := up1 (i := i) (by omega)
    rw [List.drop_eq_getElem_cons hlt, List.all_cons]
    have hb := bits_tab ⟨l[i].toNat, l[i].toNat_lt⟩
    have hq := tokc_iff l[i]
    by_cases ht : tokc l[i] = true
    · rw [ht, Bool.true_and]
      refine Ev.step (fun k => ?_) h2
      simp only [http_token.l0]
      rw [if_pos (by omega), if_pos (by omega), if_pos (by rw [ba_size]; omega), bt_ba l i hlt, e64]
      replace hq := hq.1 ht
      dsimp only at hb
      generalize Go.bits .or .u8 ((l[i]).toNat : Int) 32 = x at *
      generalize (l[i]).toNat = b at *
      repeat' split
      all_goals first | rfl | (exfalso; omega)
    · rw [Bool.eq_false_iff.2 ht, Bool.false_and]
      refine ev_some fun k => ?_
      simp only [http_token.l0]
      rw [if_pos (by omega), if_pos (by omega), if_pos (by rw [ba_size]; omega), bt_ba l i hlt, e64]
      replace hq := mt hq.2 ht
      dsimp only at hb
      generalize Go.bits .or .u8 ((l[i]).toNat : Int) 32 = x at *
      generalize (l[i]).toNat = b at *
      repeat' split
      all_goals first | rfl | (exfalso; omega)
theorem token_ev (l : Tx) (hl : l.length ≤ 140737488351232) : Ev (fun k => http_token.f k (ba l)) (tokB l) := by
  have h := token_loop l hl _ 0 rfl (by omega)
  rw [List.drop_zero] at h
  refine Ev.congr (fun k => ?_) h
  simp only [http_token.f]
  rw [ba_size]; rfl
theorem prefix_eq (q : Tx) : strings_HasPrefix.f (ba q) (⟨#[47]⟩ : ByteArray) = some (decide (q.head? = some 47)) := by
  have e1 : (⟨#[47]⟩ : ByteArray) = ba [47] := rfl
  unfold strings_HasPrefix.f stringslite_HasPrefix.f
  rw [e1]
  cases q with
  | nil => rw [if_neg (by simp only [ba_size, List.length_nil, List.length_cons]; omega)]; rfl
  | cons a r =>
    rw [if_pos (by simp only [ba_size, List.length_cons, List.length_nil]; omega), if_pos (by omega), if_pos (by simp only [ba_size, List.length_cons, List.length_nil]; omega)]
    rw [show ((((ba [47]).size : Int)).toNat) = 1 by rw [ba_size]; rfl, ba_to, ba_list, ba_list]
    simp only [List.take_succ_cons, List.take_zero, Option.bind_some, List.head?_cons]
    congr 1
    by_cases h : a = 47 <;> simp [h]
theorem suffix_eq (l : Tx) (hl : l.length ≤ 140737488351232) : strings_CutSuffix.f (ba l) (⟨#[13]⟩ : ByteArray) = some (match crV l with | some m => (ba m, true) | none => (ba l, false)) := by
  have e1 : (⟨#[13]⟩ : ByteArray) = ba [13] := rfl
  unfold strings_CutSuffix.f stringslite_CutSuffix.f stringslite_HasSuffix.f
  rw [e1]
  rcases List.eq_nil_or_concat l with rfl | ⟨m, b, hmb⟩
  · rw [if_neg (by simp only [ba_size, List.length_nil, List.length_cons]; omega)]; rfl
  · rw [List.concat_eq_append] at hmb
    subst hmb
    have hz : (m ++ [b]).length = m.length + 1 := by simp
    rw [hz] at hl
    have hw : wrap64 (((ba (m ++ [b])).size : Int) - ((ba [13]).size : Int)) = (m.length : Int) := by
      rw [ba_size, ba_size, hz, M.w64 (by simp only [List.length_cons, List.length_nil]; omega) (by simp only [List.length_cons, List.length_nil]; omega)]; simp
    rw [if_pos (by simp only [ba_size, hz, List.length_cons, List.length_nil]; omega), hw, if_pos (by omega), if_pos (by rw [ba_size, hz]; omega), Int.toNat_natCast, ba_from, ba_list, ba_list]
    simp only [List.drop_left, Option.bind_some]
    unfold crV
    rw [show (m ++ [b]).getLast? = some b by simp, ba_to]
    by_cases h : b = 13
    · subst h
      rw [if_pos (by simp), if_pos (by omega), if_pos (by rw [ba_size, hz]; omega)]
      simp
    · rw [if_neg (by simpa using h)]
      simp [h]
/-! ### the first line -/
abbrev eB : ByteArray := ⟨#[]⟩
def firstR (o : Option (Tx × Tx)) : ByteArray × ByteArray × ByteArray × Bool × Bool := match o with
  | none => (eB, eB, eB, false, false)
  | some (m, q) => (ba m, ba q, eB, false, true)
theorem pathc_iff (b : UInt8) : pathc b = true ↔ (33 ≤ b.toNat ∧ b.toNat ≤ 126) := by simp [pathc]
theorem hpath_loop (a q c : ByteArray) (q' : Tx) (hqq : q = ba q') (hq : q'.length ≤ 140737488351232) : ∀ (d i : Nat), q'.length - i = d → i ≤ q'.length → Ev (fun k => http_first.l0 k [a, q, c] (q'.length : Int) (i : Int)) (if (q'.drop i).all pathc = true then (a, q, eB, false, true) else (eB, eB, eB, false, false)) := by
  subst hqq
  intro d
  induction d with
  | zero =>
    intro i hd hi
    rw [List.drop_of_length_le (by omega)]
    refine ev_some fun k => ?_
    simp only [http_first.l0]
    rw [if_neg (by omega), if_pos (by simp), if_pos (by simp)]; rfl
  | succ d ih =>
    intro i hd hi
    have hlt : i < q'.length := by omega
    have h2 := ih (i + 1) (by omega) (by omega)
    have e64 := up1 (i := i) (by omega)
    rw [List.drop_eq_getElem_cons hlt, List.all_cons]
    have hb := pathc_iff q'[i]
    have e1 : rdOf ByteArray.empty [a, ba q', c] 1 = ba q' := rfl
    by_cases ht : pathc q'[i] = true
    · rw [ht, Bool.true_and]
      refine Ev.step (fun k => ?_) h2
      simp only [http_first.l0]
      have := hb.1 ht
      rw [if_pos (by omega), if_pos (by simp), if_pos (by omega), e1, if_pos (by rw [ba_size]; omega), bt_ba q' i hlt, if_neg (by omega), if_neg (by omega), e64]
    · rw [Bool.eq_false_iff.2 ht, Bool.false_and]
      refine ev_some fun k => ?_
      simp only [http_first.l0]
      have := mt hb.2 ht
      rw [if_pos (by omega), if_pos (by simp), if_pos (by omega), e1, if_pos (by rw [ba_size]; omega), bt_ba q' i hlt]
      by_cases h33 : ((q'[i].toNat : Nat) : Int) ≤ 32
      · rw [if_pos h33]; rfl
      · rw [if_neg h33, if_pos (by omega)]; rfl
theorem hj0_no (k : Nat) (xs : List ByteArray) : http_first.j0 (k + 1) xs true = some (firstR none) := by
  simp only [http_first.j0]; rw [if_pos trivial]; rfl
theorem hfirst_ev (l : Tx) (hl : l.length ≤ 2048) : Ev (fun k => http_first.f k (ba l)) (firstR (firstV l)) := by
  have hsp : strings_Split.f (ba l) (⟨#[32]⟩ : ByteArray) = some (Lib.splitB (ba [32]) 0 (Lib.countB (ba l) (ba [32])) (ba l)) := by
    unfold strings_Split.f
    rw [if_pos ⟨by rw [ba_size]; omega, by show 1 ≤ (ba [32]).size; rw [ba_size]; simp⟩]; rfl
  unfold firstV
  cases hi : ix l 32 with
  | none =>
    refine ev_some fun k => ?_
    simp only [http_first.f]
    rw [hsp, Option.bind_some, sp_miss _ _ hi, if_neg (by simp), hj0_no]
  | some i =>
    have hil := ix_lt _ _ _ hi
    rw [sp_hit _ _ _ hi] at hsp
    have hrl : (l.drop (i + 1)).length ≤ 2048 := by rw [List.length_drop]; omega
    dsimp only
    generalize hr : l.drop (i + 1) = r at hrl hsp ⊢
    cases hj : ix r 32 with
    | none =>
      rw [sp_miss _ _ hj] at hsp
      refine ev_some fun k => ?_
      simp only [http_first.f]
      rw [hsp, Option.bind_some, if_neg (by simp), hj0_no]
    | some j =>
      rw [sp_hit _ _ _ hj] at hsp
      have hjl := ix_lt _ _ _ hj
      dsimp only
      cases hx : ix (r.drop (j + 1)) 32 with
      | some m =>
        rw [sp_hit _ _ _ hx] at hsp
        have hz := sp_len ((r.drop (j + 1)).drop (m + 1)) 32
        refine ev_some fun k => ?_
        simp only [http_first.f]
        rw [hsp, Option.bind_some, if_neg (by simp only [List.length_cons]; omega), hj0_no, if_neg]
        rintro ⟨h, _⟩
        rw [h, show ix http11 32 = none by decide] at hx
        cases hx
      | none =>
        rw [sp_miss _ _ hx] at hsp
        obtain ⟨K3, h3⟩ := token_ev (l.take i) (by rw [List.length_take]; omega)
        obtain ⟨K4, h4⟩ := hpath_loop (ba (l.take i)) (ba (r.take j)) (ba (r.drop (j + 1))) (r.take j) rfl (by rw [List.length_take]; omega) _ 0 rfl (by omega)
        rw [List.drop_zero] at h4
        dsimp only at h3 h4
        refine ⟨K3 + K4 + 2, fun k hk => ?_⟩
        obtain ⟨k, rfl⟩ : ∃ j, k = j + 2 := ⟨k - 2, by omega⟩
        simp only [http_first.f]
        rw [hsp, Option.bind_some, if_pos (by simp), if_pos (by simp)]
        rw [show rdOf ByteArray.empty [ba (l.take i), ba (r.take j), ba (r.drop (j + 1))] 0 = ba (l.take i) from rfl, show rdOf ByteArray.empty [ba (l.take i), ba (r.take j), ba (r.drop (j + 1))] 1 = ba (r.take j) from rfl, show rdOf ByteArray.empty [ba (l.take i), ba (r.take j), ba (r.drop (j + 1))] 2 = ba (r.drop (j + 1)) from rfl]
        rw [h3 _ (by omega), Option.bind_some]
        by_cases ht : tokB (l.take i) = true
        · rw [if_pos ht, if_pos (by simp), ba_list, show ([72, 84, 84, 80, 47, 49, 46, 49] : List UInt8) = http11 from rfl]
          by_cases hh : r.drop (j + 1) = http11
          · rw [if_pos hh, if_pos (by simp), prefix_eq, Option.bind_some]
            simp only [http_first.j0]
            by_cases hp : (r.take j).head? = some 47
            · rw [if_neg (by simp [hp]), if_pos (by simp)]
              rw [show rdOf ByteArray.empty [ba (l.take i), ba (r.take j), ba (r.drop (j + 1))] 1 = ba (r.take j) from rfl, ba_size]
              have h5 := h4 (k + 1) (by omega)
              rw [show ((0 : Nat) : Int) = 0 from rfl] at h5
              rw [h5]
              by_cases hap : (r.take j).all pathc = true
              · rw [if_pos hap, if_pos ⟨hh, ht, hp, hap⟩]; rfl
              · rw [if_neg hap, if_neg (fun h => hap h.2.2.2)]; rfl
            · rw [if_pos (by simp [hp]), if_neg (fun h => hp h.2.2.1)]; rfl
          · rw [if_neg hh, hj0_no, if_neg (fun h => hh h.1)]
        · rw [if_neg ht, hj0_no, if_neg (fun h => ht h.2.1)]
/-! ### trimming, small letters, lengths -/
theorem sp_iff (b : UInt8) : strings_Trim.sp b = true ↔ ((b.toNat : Int) = 32 ∨ (b.toNat : Int) = 9) := by
  have h1 : b = 32 ↔ b.toNat = 32 := ⟨fun h => by rw [h]; rfl, fun h => UInt8.toNat_inj.1 h⟩
  have h2 : b = 9 ↔ b.toNat = 9 := ⟨fun h => by rw [h]; rfl, fun h => UInt8.toNat_inj.1 h⟩
  have h3 : strings_Trim.sp b = true ↔ (b = 32 ∨ b = 9) := by simp [strings_Trim.sp]
  rw [h3, h1, h2]; omega
theorem rt_snoc (m : Tx) (b : UInt8) : rt (m ++ [b]) = if strings_Trim.sp b = true then rt m else m ++ [b] := by
  unfold rt
  rw [List.reverse_append, List.reverse_cons, List.reverse_nil, List.nil_append, List.singleton_append, List.dropWhile_cons]
  by_cases h : strings_Trim.sp b = true
  · rw [if_pos h, if_pos h]
  · rw [if_neg h, if_neg h]; simp
theorem htrim_eq (l : Tx) (hl : l.length ≤ 2048) : strings_Trim.f (ba l) (⟨#[32, 9]⟩ : ByteArray) = some (ba (trimV l)) := by
  unfold strings_Trim.f
  rw [if_pos ⟨rfl, by rw [ba_size]; omega⟩]; rfl
theorem small_eq (l : Tx) (hl : l.length ≤ 2048) : http_small.f (ba l) = some (ba (Lib.mapD http_small.lo l)) := by
  unfold http_small.f
  rw [if_pos (by rw [ba_size]; omega)]; rfl
theorem cut_eq (s : Tx) (hs : s.length ≤ 2048) : strings_Cut.f (ba s) (⟨#[58]⟩ : ByteArray) = some (match ix s 58 with | none => (ba s, eB, false) | some k => (ba (s.take k), ba (s.drop (k + 1)), true)) := by
  unfold strings_Cut.f
  rw [if_pos (by rw [ba_size]; omega), ba_data, show (⟨#[58]⟩ : ByteArray).data.toList = [58] from rfl]
  unfold Lib.cut
  rw [Lib.index_one, ix_index]
  cases ix s 58 with
  | none => rfl
  | some k =>
    have hp : 0 ≤ ixI (some k) := by show (0 : Int) ≤ (k : Int); omega
    simp only [if_pos hp]
    rfl
def lenR (o : Option Nat) : Int := match o with | none => -1 | some n => (n : Int)
theorem charOk_iff (b : UInt8) : charOk b = true ↔ ((32 ≤ b.toNat ∨ b.toNat = 9) ∧ b.toNat ≠ 127) := by simp [charOk]
/-! ### the other lines: the program's side -/
abbrev HR := Int × Int × ByteArray × ByteArray × ByteArray × Bool
def hdR (m q e : ByteArray) (r : Nat × Nat × Bool) : HR := ((r.1 : Int), (r.2.1 : Int), m, q, e, r.2.2)
theorem hchars (n h c : Int) (nm : ByteArray) (v : Tx) (L : List ByteArray) (x18 x19 : Int) (m q e : ByteArray) (cl : Bool) (hv : v.length ≤ 2048) (r : HR)
    (h1 : v.all charOk = true → Ev (fun k => http_heads.l1 k n h c nm (ba v) L x18 x19 (v.length : Int) (v.length : Int) m q e cl) r)
    (h0 : v.all charOk = false → r = (0, 400, m, q, e, cl)) : ∀ (d j : Nat), v.length - j = d → j ≤ v.length → (v.take j).all charOk = true → Ev (fun k => http_heads.l1 k n h c nm (ba v) L x18 x19 (v.length : Int) (j : Int) m q e cl) r := by
  intro d
  induction d with
  | zero =>
    intro j hd hj hp
    obtain rfl : j = v.length := by omega
    rw [List.take_length] at hp
    exact h1 hp
  | succ d ih =>
    intro j hd hj hp
    have hlt : j < v.length := by omega
    have e64 := up1 (i := j) (by omega)
    have hb := charOk_iff v[j]
    by_cases ht : charOk v[j] = true
    · have h2 := ih (j + 1) (by omega) (by omega) (by rw [List.take_succ_eq_append_getElem hlt, List.all_append, hp]; simp [ht])
      refine Ev.step (fun k => ?_) h2
      have := hb.1 ht
      simp only [http_heads.l1]
      rw [if_pos (by omega), if_pos (by omega), if_pos (by rw [ba_size]; omega), bt_ba v j hlt, e64]
      by_cases h32 : ((v[j].toNat : Nat) : Int) < 32
      · rw [if_pos h32, if_pos (by omega), if_neg (by omega)]
      · rw [if_neg h32, if_neg (by omega)]
    · have hf : v.all charOk = false := by
        apply Bool.eq_false_iff.2
        intro e
        exact ht (List.all_eq_true.1 e _ (List.getElem_mem hlt))
      rw [h0 hf]
      refine ev_some fun k => ?_
      have := mt hb.2 ht
      simp only [http_heads.l1]
      rw [if_pos (by omega), if_pos (by omega), if_pos (by rw [ba_size]; omega), bt_ba v j hlt, e64]
      by_cases h32 : ((v[j].toNat : Nat) : Int) < 32
      · rw [if_pos h32]
        by_cases h9 : ((v[j].toNat : Nat) : Int) = 9
        · omega
        · rw [if_neg h9]
      · rw [if_neg h32, if_pos (by omega)]
theorem rdOf_at (ls : List Tx) (i : Nat) (h : i < ls.length) : rdOf ByteArray.empty (ls.map ba) (i : Int) = ba ls[i] := by
  unfold rdOf
  rw [Int.toNat_natCast, List.getD_eq_getElem?_getD, List.getElem?_eq_getElem (by simpa using h)]
  simp
theorem ap2 : ∀ b ∈ hostT, b.toNat < 128 := by decide
theorem ap3 : ∀ b ∈ clenT, b.toNat < 128 := by decide
theorem ap4 : ∀ b ∈ tencT, b.toNat < 128 := by decide
theorem ap5 : ∀ b ∈ connT, b.toNat < 128 := by decide
theorem ap6 : ∀ b ∈ closeT, b.toNat < 128 := by decide
/-- one line, behind its signs -/
def lineR (s : Tx) (r : List Tx) (nm v : Tx) (n h c : Nat) (cl : Bool) : Nat × Nat × Bool :=
  if nm = hostT then hd r n (h + 1) c cl
      else if nm = clenT then (match lenV v with | none => (0, 400, cl) | some m => hd r m h (c + 1) cl)
      else if nm = tencT then (0, 400, cl)
      else if nm = connT then hd r n h c (cl || decide (v.map tb = closeT))
      else hd r n h c cl
theorem hd_cons (s : Tx) (r : List Tx) (n h c : Nat) (cl : Bool) : hd (s :: r) n h c cl = match lineV s with | none => (0, 400, cl) | some (nm, v) => lineR s r nm v n h c cl := by
  rw [hd.eq_2]; rfl
theorem hj1_no (k : Nat) (x6 x7 x8 : Int) (x11 x12 : ByteArray) (x17 : List ByteArray) (x18 x19 : Int) (m q e : ByteArray) (cl : Bool) : http_heads.j1 (k + 1) x6 x7 x8 x11 x12 x17 x18 x19 true m q e cl = some (0, 400, m, q, e, cl) := by
  simp only [http_heads.j1]; rw [if_pos trivial]
theorem atoi_ok (v : Tx) (hv : v.length ≤ 2048) {a : Int} (h : Lib.atoiAll v = .ok a) : strconv_Atoi.f (ba v) = some (a, none) := by
  unfold strconv_Atoi.f
  rw [if_pos (by rw [ba_size]; omega), ba_data, h]
theorem atoi_no (v : Tx) (hv : v.length ≤ 2048) (h : ∀ a, Lib.atoiAll v ≠ .ok a) : ∃ a c, strconv_Atoi.f (ba v) = some (a, some c) := by
  unfold strconv_Atoi.f
  rw [if_pos (by rw [ba_size]; omega), ba_data]
  cases hx : Lib.atoiAll v <;> first | exact absurd hx (h _) | exact ⟨_, _, rfl⟩
theorem heads_loop (ls : List Tx) (hls : ∀ s ∈ ls, s.length ≤ 2048) (hn : ls.length ≤ 40) (m q e : ByteArray) : ∀ (d i n h c : Nat) (cl : Bool), ls.length - i = d → i ≤ ls.length → h ≤ i → c ≤ i → Ev (fun k => http_heads.l0 k (n : Int) (h : Int) (c : Int) (ls.map ba) (ls.length : Int) (i : Int) m q e cl) (hdR m q e (hd (ls.drop i) n h c cl)) := by
  intro d
  induction d with
  | zero =>
    intro i n h c cl hd' hi hh hc
    rw [List.drop_of_length_le (by omega)]
    refine ⟨2, fun k hk => ?_⟩
    obtain ⟨k, rfl⟩ : ∃ j, k = j + 2 := ⟨k - 2, by omega⟩
    simp only [http_heads.l0, http_heads.j3, hd]
    rw [if_neg (by omega)]
    by_cases h1 : h = 1
    · subst h1
      rw [if_pos (by omega)]
      by_cases hc1 : c ≤ 1
      · rw [if_neg (by simp; omega), if_pos (show (1 : Nat) = 1 ∧ c ≤ 1 from ⟨rfl, hc1⟩)]
        by_cases hb : n > 8192
        · rw [if_pos (show (n : Int) > 8192 by omega), if_pos hb]; rfl
        · rw [if_neg (show ¬ (n : Int) > 8192 by omega), if_neg hb]; rfl
      · rw [if_pos (by simp; omega), if_neg (fun x => hc1 x.2)]; rfl
    · rw [if_neg (by omega), if_pos trivial, if_neg (fun x => h1 x.1)]; rfl
  | succ d ih =>
    intro i n h c cl hd' hi hh hc
    have hlt : i < ls.length := by omega
    have e64 := up1 (i := i) (by omega)
    have eh := up1 (i := h) (by omega)
    have ec := up1 (i := c) (by omega)
    rw [List.drop_eq_getElem_cons hlt, hd_cons]
    have hs := hls _ (List.getElem_mem hlt)
    have e1 := rdOf_at ls i hlt
    generalize ls[i] = s at hs e1 ⊢
    have hcut := cut_eq s hs
    have hlen : ((ls.map ba).length : Int) = (ls.length : Int) := by rw [List.length_map]
    unfold lineV
    cases hk : ix s 58 with
    | none =>
      rw [hk] at hcut
      refine ⟨2, fun k hk => ?_⟩
      obtain ⟨k, rfl⟩ : ∃ j, k = j + 2 := ⟨k - 2, by omega⟩
      simp only [http_heads.l0]
      rw [if_pos (by omega), if_pos (by omega), if_pos (by omega), e1, hcut, Option.bind_some, if_neg (by simp), hj1_no]; rfl
    | some w =>
      rw [hk] at hcut
      have hnl : (s.take w).length ≤ 2048 := by rw [List.length_take]; omega
      have hvl : (trimV (s.drop (w + 1))).length ≤ 2048 := by
        have := trim_le (s.drop (w + 1))
        rw [List.length_drop] at this; omega
      have htr := htrim_eq (s.drop (w + 1)) (by rw [List.length_drop]; omega)
      obtain ⟨K1, h1⟩ := token_ev (s.take w) (by omega)
      dsimp only at hcut h1 ⊢
      generalize s.take w = nm at *
      generalize trimV (s.drop (w + 1)) = v at *
      by_cases ht : tokB nm = true
      · have key : ∀ R : HR, (v.all charOk = true → R = hdR m q e (lineR s (ls.drop (i + 1)) (nm.map tb) v n h c cl)) → (v.all charOk = false → R = (0, 400, m, q, e, cl)) → Ev (fun k => http_heads.l1 k (n : Int) (h : Int) (c : Int) (ba nm) (ba v) (ls.map ba) (ls.length : Int) (i : Int) (v.length : Int) 0 m q e cl) R := by
          intro R hR1 hR0
          refine hchars _ _ _ _ v _ _ _ _ _ _ _ hvl R (fun ha => ?_) hR0 _ 0 rfl (by omega) rfl
          rw [hR1 ha]
          have hsm := small_eq nm hnl
          have mh : Lib.mapD http_small.lo nm = ([104, 111, 115, 116] : List UInt8) ↔ nm.map tb = hostT := mapD_small nm hostT ap2
          have mc : Lib.mapD http_small.lo nm = ([99, 111, 110, 116, 101, 110, 116, 45, 108, 101, 110, 103, 116, 104] : List UInt8) ↔ nm.map tb = clenT := mapD_small nm clenT ap3
          have mt : Lib.mapD http_small.lo nm = ([116, 114, 97, 110, 115, 102, 101, 114, 45, 101, 110, 99, 111, 100, 105, 110, 103] : List UInt8) ↔ nm.map tb = tencT := mapD_small nm tencT ap4
          have mo : Lib.mapD http_small.lo nm = ([99, 111, 110, 110, 101, 99, 116, 105, 111, 110] : List UInt8) ↔ nm.map tb = connT := mapD_small nm connT ap5
          unfold lineR
          by_cases g1 : nm.map tb = hostT
          · rw [if_pos g1]
            refine Ev.step (fun k => ?_) (ih (i + 1) n (h + 1) c cl (by omega) (by omega) (by omega) (by omega))
            simp only [http_heads.l1]
            rw [if_neg (by omega), hsm, Option.bind_some, ba_list, if_pos (mh.2 g1), eh, e64]
          · rw [if_neg g1]
            have g1' := fun x => g1 (mh.1 x)
            by_cases g2 : nm.map tb = clenT
            · rw [if_pos g2]
              cases hv : lenV v with
              | some a =>
                obtain ⟨a1, a2, a3, a4⟩ := lenV_some hv
                have hat := atoi_ok v hvl a1
                refine Ev.step (fun k => ?_) (ih (i + 1) a h (c + 1) cl (by omega) (by omega) (by omega) (by omega))
                simp only [http_heads.l1]
                have hit : strconv_Itoa.f (a : Int) = some (ba v) := by
                  unfold strconv_Itoa.f
                  rw [if_pos ⟨by omega, by omega⟩, a2]; rfl
                rw [if_neg (by omega), hsm, Option.bind_some, ba_list, if_neg g1', if_pos (mc.2 g2), hat, Option.bind_some, if_pos (show ((a : Int), (none : Option Int)).2.isNone = true from rfl), ba_size, if_neg (by omega), if_neg (show ¬ (a : Int) < 0 by omega), hit, Option.bind_some, if_pos rfl, ec, e64]
              | none =>
                dsimp only
                refine ev_some fun k => ?_
                simp only [http_heads.l1]
                rw [if_neg (by omega), hsm, Option.bind_some, ba_list, if_neg g1', if_pos (mc.2 g2)]
                by_cases hok : ∃ a, Lib.atoiAll v = .ok a
                · obtain ⟨a, ha⟩ := hok
                  rw [atoi_ok v hvl ha, Option.bind_some, if_pos (show (a, (none : Option Int)).2.isNone = true from rfl), ba_size]
                  dsimp only
                  by_cases h9 : (v.length : Int) > 9
                  · rw [if_pos h9]; rfl
                  · rw [if_neg h9]
                    by_cases hz : a < 0
                    · rw [if_pos hz]; rfl
                    · rw [if_neg hz]
                      have hne := lenV_none hv ha (by omega) (by omega)
                      have hit : strconv_Itoa.f a = some (ba (Lib.itoa a)) := by
                        unfold strconv_Itoa.f
                        have hr := Lib.atoiAll_bounds ha
                        rw [if_pos ⟨by omega, by omega⟩]; rfl
                      rw [hit, Option.bind_some, ba_list, ba_list, if_neg hne]; rfl
                · obtain ⟨a, b, hat⟩ := atoi_no v hvl (fun a ha => hok ⟨a, ha⟩)
                  rw [hat, Option.bind_some, if_neg (by simp)]; rfl
            · rw [if_neg g2]
              have g2' := fun x => g2 (mc.1 x)
              by_cases g3 : nm.map tb = tencT
              · rw [if_pos g3]
                refine ev_some fun k => ?_
                simp only [http_heads.l1]
                rw [if_neg (by omega), hsm, Option.bind_some, ba_list, if_neg g1', if_neg g2', if_pos (mt.2 g3)]; rfl
              · rw [if_neg g3]
                have g3' := fun x => g3 (mt.1 x)
                by_cases g4 : nm.map tb = connT
                · rw [if_pos g4]
                  refine Ev.step (fun k => ?_) (ih (i + 1) n h c (cl || decide (v.map tb = closeT)) (by omega) (by omega) (by omega) (by omega))
                  simp only [http_heads.l1]
                  rw [if_neg (by omega), hsm, Option.bind_some, ba_list, if_neg g1', if_neg g2', if_neg g3', if_pos (mo.2 g4), e64]
                  cases cl with
                  | true => rw [if_pos rfl, Bool.true_or]
                  | false =>
                    rw [if_neg (by simp), small_eq v hvl, Option.bind_some, ba_list, Bool.false_or]
                    have ml := mapD_small v closeT ap6
                    have : (Lib.mapD http_small.lo v == [99, 108, 111, 115, 101]) = decide (v.map tb = closeT) := by
                      rw [Bool.eq_iff_iff, decide_eq_true_iff, ← ml]
                      show _ ↔ Lib.mapD http_small.lo v = [99, 108, 111, 115, 101]
                      simp
                    rw [this]
                · rw [if_neg g4]
                  have g4' := fun x => g4 (mo.1 x)
                  refine Ev.step (fun k => ?_) (ih (i + 1) n h c cl (by omega) (by omega) (by omega) (by omega))
                  simp only [http_heads.l1]
                  rw [if_neg (by omega), hsm, Option.bind_some, ba_list, if_neg g1', if_neg g2', if_neg g3', if_neg g4', e64]
        have fin : ∀ R : HR, (v.all charOk = true → R = hdR m q e (lineR s (ls.drop (i + 1)) (nm.map tb) v n h c cl)) → (v.all charOk = false → R = (0, 400, m, q, e, cl)) → Ev (fun k => http_heads.l0 k (n : Int) (h : Int) (c : Int) (ls.map ba) (ls.length : Int) (i : Int) m q e cl) R := by
          intro R hR1 hR0
          obtain ⟨K2, h2⟩ := key R hR1 hR0
          dsimp only at h2
          refine ⟨K1 + K2 + 2, fun k hk => ?_⟩
          obtain ⟨k, rfl⟩ : ∃ j, k = j + 2 := ⟨k - 2, by omega⟩
          simp only [http_heads.l0]
          rw [if_pos (by omega), if_pos (by omega), if_pos (by omega), e1, hcut, Option.bind_some]
          dsimp only
          rw [if_pos rfl, h1 _ (by omega), Option.bind_some, ht]
          simp only [http_heads.j1]
          rw [if_neg (by simp), htr, Option.bind_some, ba_size]
          exact h2 k (by omega)
        by_cases ha : v.all charOk = true
        · rw [if_pos ⟨ht, ha⟩]
          exact fin _ (fun _ => rfl) (fun h => by rw [ha] at h; cases h)
        · rw [if_neg (fun x => ha x.2)]
          exact fin _ (fun h => absurd h ha) (fun _ => rfl)
      · rw [if_neg (fun x => ht x.1)]
        refine ⟨K1 + 2, fun k hk => ?_⟩
        obtain ⟨k, rfl⟩ : ∃ j, k = j + 2 := ⟨k - 2, by omega⟩
        simp only [http_heads.l0]
        rw [if_pos (by omega), if_pos (by omega), if_pos (by omega), e1, hcut, Option.bind_some]
        dsimp only
        rw [if_pos rfl, h1 _ (by omega), Option.bind_some, Bool.eq_false_iff.2 ht]
        exact hj1_no _ _ _ _ _ _ _ _ _ _ _ _ _
theorem heads_ev (ls : List Tx) (hls : ∀ s ∈ ls, s.length ≤ 2048) (hn : ls.length ≤ 40) (m q e : ByteArray) (cl : Bool) : Ev (fun k => http_heads.f k m q e cl (ls.map ba)) (hdR m q e (hd ls 0 0 0 cl)) := by
  have h := heads_loop ls hls hn m q e _ 0 0 0 0 cl rfl (by omega) (by omega) (by omega)
  rw [List.drop_zero] at h
  refine Ev.congr (fun k => ?_) h
  simp only [http_heads.f]
  rw [List.length_map]; rfl
/-! ### the reader of the law -/
theorem hd_le : ∀ (l : List Tx) (n h c : Nat) (cl : Bool), (hd l n h c cl).1 ≤ 8192
  | [], n, h, c, cl => by
    unfold hd
    split
    · split
      · simp
      · simp only; omega
    · simp
  | s :: r, n, h, c, cl => by
    rw [hd_cons]
    cases lineV s with
    | none => simp
    | some a =>
      obtain ⟨nm, v⟩ := a
      dsimp only
      unfold lineR
      split
      · exact hd_le r _ _ _ _
      · split
        · cases lenV v with
          | none => simp
          | some m => exact hd_le r _ _ _ _
        · split
          · simp
          · split
            · exact hd_le r _ _ _ _
            · exact hd_le r _ _ _ _
theorem crV_at (p : Tx) (at_ i : Nat) (h : at_ + i < p.length) : crV ((p.drop at_).take i) = if i = 0 ∨ bt (ba p) ((at_ + i - 1 : Nat) : Int) ≠ 13 then none else some ((p.drop at_).take (i - 1)) := by
  cases i with
  | zero => rw [if_pos (Or.inl rfl), List.take_zero]; rfl
  | succ i =>
    have hl : i < (p.drop at_).length := by rw [List.length_drop]; omega
    have hb := bt_ba p (at_ + i) (by omega)
    rw [show at_ + (i + 1) - 1 = at_ + i by omega, hb]
    have e : (p.drop at_).take (i + 1) = (p.drop at_).take i ++ [p[at_ + i]] := by
      rw [List.take_succ_eq_append_getElem hl, List.getElem_drop]
    rw [e]
    unfold crV
    have e2 : ((p.drop at_).take i ++ [p[at_ + i]]).getLast? = some p[at_ + i] := by simp
    have e3 : ((p.drop at_).take i ++ [p[at_ + i]]).dropLast = (p.drop at_).take i := by simp
    rw [e2, e3, Nat.add_sub_cancel]
    by_cases h13 : p[at_ + i] = 13
    · rw [if_pos (by rw [h13]), if_neg]
      rintro (h | h)
      · exact absurd h (by omega)
      · exact h (by rw [h13]; rfl)
    · rw [if_neg (by simpa using h13), if_pos]
      exact Or.inr (fun e => h13 (UInt8.toNat_inj.1 (by show (p[at_ + i]).toNat = 13; omega)))
theorem fin2_no (p : Tx) (at_ : Nat) (m q : Tx) (s : Nat) (hs : 0 < s) (n : Nat) (cl : Bool) : fin2 p at_ m q (n, s, cl) = no s := by
  unfold fin2; rw [if_pos hs]
/-! ### the two readers -/
theorem lines_snoc (ls : List Tx) (line : Tx) : ls.map ba ++ [ba line] = (ls ++ [line]).map ba := by simp
theorem no_str (n : Nat) : (eB, eB, eB, false, (0 : Int), (n : Int)) = no n := rfl
theorem cr_le (p : Tx) {l : Tx} (h : crV p = some l) : l.length ≤ p.length := by
  unfold crV at h
  split at h
  · cases h; simp
  · cases h
theorem hread_loop (p : Tx) (hp : p.length ≤ 140737488351232) : ∀ (f : Nat) (ls : List Tx) (at_ : Nat), p.length < f + at_ → at_ ≤ p.length → at_ ≤ 2048 → (∀ s ∈ ls, s.length ≤ 2048) → ls.length ≤ 33 → Ev (fun k => http_Read.l0 k (ba p) (ls.map ba) (at_ : Int)) (rdV p f ls at_) := by
  intro f
  induction f with
  | zero => intro ls at_ h1 h2; omega
  | succ f ih =>
    intro ls at_ h1 h2 h3 hls hn
    unfold rdV
    have hlen : ((ls.map ba).length : Int) = (ls.length : Int) := by rw [List.length_map]
    by_cases hb : ls.length > 32
    · rw [if_pos hb]
      refine ev_some fun k => ?_
      simp only [http_Read.l0]
      rw [if_pos (by omega)]; rfl
    · rw [if_neg hb]
      have hx : (ba p).extract ((at_ : Int)).toNat (ba p).size = ba (p.drop at_) := by rw [Int.toNat_natCast, ba_from]
      have hidx : strings_Index.f (ba (p.drop at_)) (⟨#[10]⟩ : ByteArray) = some (ixI (ix (p.drop at_) 10)) := by
        unfold strings_Index.f
        rw [show (⟨#[10]⟩ : ByteArray).data.toList = [10] from rfl, ba_data]
        simp only
        rw [ix_index]
      have g1 : ¬ ((ls.map ba).length : Int) > 32 := by omega
      have g2 : (at_ : Int) ≤ ((ba p).size : Int) := by rw [ba_size]; omega
      have g0 : (0 : Int) ≤ (at_ : Int) := by omega
      cases hi : ix (p.drop at_) 10 with
      | none =>
        rw [hi] at hidx
        refine ev_some fun k => ?_
        simp only [http_Read.l0]
        rw [if_neg g1, if_pos g0, if_pos g2, hx, hidx, Option.bind_some, if_pos (by simp [ixI])]
        by_cases hz : p.length > 2048
        · rw [if_pos (by rw [ba_size]; omega), if_pos hz]; rfl
        · rw [if_neg (by rw [ba_size]; omega), if_neg hz]; rfl
      | some i =>
        rw [hi] at hidx
        simp only [ixI] at hidx
        have hil := ix_lt _ _ _ hi
        rw [List.length_drop] at hil
        have w1 : Unit → wrap64 ((at_ : Int) + (i : Int)) = ((at_ + i : Nat) : Int) := fun _ => by rw [M.w64 (by omega) (by omega)]; omega
        have w2 : Unit → wrap64 ((i : Int) + 1) = ((i + 1 : Nat) : Int) := fun _ => up1 (by omega)
        have w3 : Unit → wrap64 ((at_ : Int) + ((i + 1 : Nat) : Int)) = ((at_ + i + 1 : Nat) : Int) := fun _ => by rw [M.w64 (by omega) (by omega)]; omega
        have hx2 : (ba p).extract ((at_ : Int)).toNat ((at_ + i : Nat) : Int).toNat = ba ((p.drop at_).take i) := by rw [Int.toNat_natCast, Int.toNat_natCast, ba_ext, show at_ + i - at_ = i by omega]
        have hsl : ((p.drop at_).take i).length = i := by rw [List.length_take, List.length_drop]; omega
        have hsf := suffix_eq ((p.drop at_).take i) (by omega)
        have pre : ∀ k, http_Read.l0 (k + 1) (ba p) (ls.map ba) (at_ : Int) = (match crV ((p.drop at_).take i) with | some m => some (ba m, true) | none => some (ba ((p.drop at_).take i), false)).bind fun bt133 => (if ((at_ + i + 1 : Nat) : Int) > 2048 then (some ((⟨#[]⟩ : ByteArray), (⟨#[]⟩ : ByteArray), (⟨#[]⟩ : ByteArray), false, 0, 431)) else (if bt133.2 = true then (if bt133.1.toList = ([] : List UInt8) then (if ((ls.map ba).length : Int) > 0 then (if 0 < ((ls.map ba).length : Int) then ((http_first.f k (rdOf ByteArray.empty (ls.map ba) 0)).bind fun bt142 => (if bt142.2.2.2.2 = true then (if 1 ≤ ((ls.map ba).length : Int) then ((http_heads.f k bt142.1 bt142.2.1 bt142.2.2.1 bt142.2.2.2.1 ((ls.map ba).drop 1)).bind fun bt152 => (if bt152.2.1 > 0 then (some ((⟨#[]⟩ : ByteArray), (⟨#[]⟩ : ByteArray), (⟨#[]⟩ : ByteArray), false, 0, bt152.2.1)) else (if (wrap64 (((ba p).size : Int) - ((at_ + i + 1 : Nat) : Int))) < bt152.1 then (some ((⟨#[]⟩ : ByteArray), (⟨#[]⟩ : ByteArray), (⟨#[]⟩ : ByteArray), false, 0, 0)) else (if 0 ≤ ((at_ + i + 1 : Nat) : Int) then (if ((at_ + i + 1 : Nat) : Int) ≤ (wrap64 (((at_ + i + 1 : Nat) : Int) + bt152.1)) then (if (wrap64 (((at_ + i + 1 : Nat) : Int) + bt152.1)) ≤ ((ba p).size : Int) then (some (bt152.2.2.1, bt152.2.2.2.1, (ba p).extract (((at_ + i + 1 : Nat) : Int) : Int).toNat ((wrap64 (((at_ + i + 1 : Nat) : Int) + bt152.1)) : Int).toNat, bt152.2.2.2.2.2, wrap64 (((at_ + i + 1 : Nat) : Int) + bt152.1), 0)) else (none)) else (none)) else (none))))) else (none)) else (some ((⟨#[]⟩ : ByteArray), (⟨#[]⟩ : ByteArray), (⟨#[]⟩ : ByteArray), false, 0, 400)))) else (none)) else (if (ls.map ba).length < 8796093022208 then (http_Read.l0 k (ba p) (ls.map ba ++ [bt133.1]) ((at_ + i + 1 : Nat) : Int)) else (none))) else (if (ls.map ba).length < 8796093022208 then (http_Read.l0 k (ba p) (ls.map ba ++ [bt133.1]) ((at_ + i + 1 : Nat) : Int)) else (none))) else (some ((⟨#[]⟩ : ByteArray), (⟨#[]⟩ : ByteArray), (⟨#[]⟩ : ByteArray), false, 0, 400)))) := by
          intro k
          simp only [http_Read.l0]
          rw [if_neg g1, if_pos g0, if_pos g2, hx, hidx, Option.bind_some, if_neg (by omega), w1 (), if_pos (by omega), if_pos (by rw [ba_size]; omega), hx2, hsf, w2 (), w3 ()]
          cases crV ((p.drop at_).take i) <;> rfl
        clear hsf w1 w2 w3 hidx hx hx2
        dsimp only
        by_cases hbig : at_ + i + 1 > 2048
        · rw [if_pos hbig]
          refine ev_some fun k => ?_
          rw [pre]
          cases crV ((p.drop at_).take i) with
          | none => dsimp only; rw [Option.bind_some, if_pos (by omega)]; rfl
          | some m => dsimp only; rw [Option.bind_some, if_pos (by omega)]; rfl
        · rw [if_neg hbig]
          cases hcr : crV ((p.drop at_).take i) with
          | none =>
            rw [hcr] at pre
            dsimp only at pre ⊢
            refine ev_some fun k => ?_
            rw [pre, Option.bind_some, if_neg (by omega), if_neg (by simp)]; rfl
          | some line =>
            rw [hcr] at pre
            dsimp only at pre ⊢
            have hll := cr_le _ hcr
            rw [hsl] at hll
            have go : Ev (fun k => http_Read.l0 k (ba p) ((ls ++ [line]).map ba) ((at_ + i + 1 : Nat) : Int)) (rdV p f (ls ++ [line]) (at_ + i + 1)) := by
              refine ih (ls ++ [line]) (at_ + i + 1) (by omega) (by omega) (by omega) ?_ (by rw [List.length_append, List.length_singleton]; omega)
              intro s hs
              rcases List.mem_append.1 hs with h | h
              · exact hls s h
              · rw [List.mem_singleton.1 h]; omega
            by_cases hl : line = []
            · subst hl
              by_cases hne : ls = []
              · subst hne
                rw [if_neg (fun x => x.2 rfl)]
                refine Ev.step (fun k => ?_) go
                rw [pre, Option.bind_some, if_neg (by omega)]
                dsimp only
                rw [if_pos rfl, if_pos (ba_list []), if_neg (by simp), if_pos (by simp), lines_snoc]
              · rw [if_pos ⟨rfl, hne⟩]
                obtain ⟨l0, lr, rfl⟩ : ∃ a r, ls = a :: r := by
                  cases ls with
                  | nil => exact absurd rfl hne
                  | cons a r => exact ⟨a, r, rfl⟩
                unfold finV
                rw [List.headD_cons, List.drop_succ_cons, List.drop_zero]
                have hlp : ((l0 :: lr).map ba).length = lr.length + 1 := by simp
                obtain ⟨K1, f1⟩ := hfirst_ev l0 (hls l0 (by simp))
                have e0 : rdOf ByteArray.empty ((l0 :: lr).map ba) 0 = ba l0 := rfl
                dsimp only at f1
                cases hfv : firstV l0 with
                | none =>
                  rw [hfv] at f1
                  refine ⟨K1 + 1, fun k hk => ?_⟩
                  obtain ⟨k, rfl⟩ : ∃ j, k = j + 1 := ⟨k - 1, by omega⟩
                  show http_Read.l0 (k + 1) _ _ _ = _
                  rw [pre, Option.bind_some, if_neg (by omega)]
                  dsimp only
                  rw [if_pos rfl, if_pos (ba_list []), if_pos (by rw [hlp]; omega), if_pos (by rw [hlp]; omega), e0, f1 _ (by omega), Option.bind_some, if_neg (by simp [firstR])]; rfl
                | some mq =>
                  obtain ⟨m, q⟩ := mq
                  rw [hfv] at f1
                  obtain ⟨K2, f2⟩ := heads_ev lr (fun s hs => hls s (by simp [hs])) (by simp at hn; omega) (ba m) (ba q) eB false
                  have hle := hd_le lr 0 0 0 false
                  dsimp only at f2 ⊢
                  generalize hd lr 0 0 0 false = r at *
                  obtain ⟨r1, r2, r3⟩ := r
                  dsimp only at hle
                  have hA : at_ + i + 1 ≤ p.length := by omega
                  clear go ih
                  generalize at_ + i + 1 = A at *
                  have w4 : Unit → wrap64 (((ba p).size : Int) - ((A : Nat) : Int)) = ((p.length - (A) : Nat) : Int) := fun _ => by rw [ba_size, M.w64 (by omega) (by omega)]; omega
                  have w5 : Unit → wrap64 (((A : Nat) : Int) + (r1 : Int)) = ((A + r1 : Nat) : Int) := fun _ => by rw [M.w64 (by omega) (by omega)]; omega
                  refine ⟨K1 + K2 + 1, fun k hk => ?_⟩
                  obtain ⟨k, rfl⟩ : ∃ j, k = j + 1 := ⟨k - 1, by omega⟩
                  show http_Read.l0 (k + 1) _ _ _ = _
                  rw [pre, Option.bind_some, if_neg (by omega)]
                  dsimp only
                  rw [if_pos rfl, if_pos (ba_list []), if_pos (by rw [hlp]; omega), if_pos (by rw [hlp]; omega), e0, f1 _ (by omega), Option.bind_some]
                  simp only [firstR]
                  rw [if_pos trivial, if_pos (by rw [hlp]; omega), List.map_cons, List.drop_succ_cons, List.drop_zero, f2 _ (by omega), Option.bind_some]
                  simp only [hdR]
                  have w4' := w4 ()
                  have w5' := w5 ()
                  clear pre w4 w5
                  simp only [w4', w5']
                  clear w4' w5'
                  by_cases h20 : r2 > 0
                  · have ef : fin2 p (A) m q (r1, r2, r3) = no r2 := by unfold fin2; rw [if_pos h20]
                    rw [ef, if_pos (by omega)]; rfl
                  · have ef : fin2 p (A) m q (r1, r2, r3) = if p.length - (A) < r1 then no 0 else (ba m, ba q, ba ((p.drop (A)).take r1), r3, ((A + r1 : Nat) : Int), 0) := by unfold fin2; rw [if_neg h20]
                    rw [ef, if_neg (by omega)]
                    by_cases hs : p.length - (A) < r1
                    · rw [if_pos (by omega), if_pos hs]; rfl
                    · rw [if_neg (by omega), if_neg hs, if_pos (by omega), if_pos (by omega), if_pos (by rw [ba_size]; omega), Int.toNat_natCast, Int.toNat_natCast, ba_ext, show A + r1 - (A) = r1 by omega]
            · rw [if_neg (fun x => hl x.1)]
              refine Ev.step (fun k => ?_) go
              rw [pre, Option.bind_some, if_neg (by omega)]
              dsimp only
              rw [if_pos rfl, if_neg (by rw [ba_list]; exact hl), if_pos (by rw [List.length_map]; omega), lines_snoc]
theorem hread_ev (p : Tx) (hp : p.length ≤ 140737488351232) : Ev (fun k => http_Read.f k (ba p)) (readV p) :=
  hread_loop p hp _ [] 0 (by omega) (by omega) (by omega) (by simp) (by simp)

def reqT : Tx := [71, 69, 84, 32, 47, 116, 97, 98, 108, 101, 32, 72, 84, 84, 80, 47, 49, 46, 49, 13, 10, 72, 111, 115, 116, 58, 32, 120, 13, 10, 13, 10]
theorem awake_ev : Ev (fun k => fascinelaw12_awake.f k) true := by
  obtain ⟨K, h⟩ := hread_ev reqT (by decide)
  refine ⟨K, fun k hk => ?_⟩
  have h1 := h k hk
  dsimp only at h1 ⊢
  have e : readV reqT = (ba [71, 69, 84], ba [47, 116, 97, 98, 108, 101], ba [], false, 32, 0) := by decide +kernel
  rw [e] at h1
  simp only [fascinelaw12_awake.f]
  rw [show (⟨#[71, 69, 84, 32, 47, 116, 97, 98, 108, 101, 32, 72, 84, 84, 80, 47, 49, 46, 49, 13, 10, 72, 111, 115, 116, 58, 32, 120, 13, 10, 13, 10]⟩ : ByteArray) = ba reqT from rfl, h1, Option.bind_some]
  dsimp only
  rw [if_pos rfl, if_pos rfl, if_pos (ba_list _), ba_list]
  rfl

theorem ba_app (a b : Tx) : ba a ++ ba b = ba (a ++ b) := by
  apply ByteArray.ext; apply Array.toList_inj.1
  simp [ba]
theorem manyV_succ (i : Nat) : manyV (i + 1) = manyV i ++ [97, 58, 32, 98, 13, 10] := by
  unfold manyV
  rw [show manyL (i + 1) = manyL i ++ [lnAb] by unfold manyL; rw [List.append_assoc, List.replicate_succ'], jl_app]; rfl
def head33 : Tx := [71, 69, 84, 32, 47, 116, 97, 98, 108, 101, 32, 72, 84, 84, 80, 47, 49, 46, 49, 13, 10, 72, 111, 115, 116, 58, 32, 120, 13, 10, 97, 58, 32]
theorem longV_parts (l : Nat) : longV l = head33 ++ List.replicate l 98 ++ [13, 10, 13, 10] := by
  simp [longV, longL, jl, lnGet, lnHost, lnA, head33]
theorem bs_ba (n : Nat) : strOfNums (List.replicate n 98 : List Int) = ba (List.replicate n 98) := by
  unfold strOfNums ba
  rw [List.map_replicate]; rfl
theorem long_loop (l : Nat) (hl : l < 3000) : ∀ (d i : Nat), l - i = d → i ≤ l → Ev (fun k => fascinelaw12_HttpLines.l1 k (l : Int) (List.replicate i (98 : Int) ++ List.replicate (l - i) 0) (i : Int)) true := by
  intro d
  induction d with
  | zero =>
    intro i hd hi
    obtain rfl : i = l := by omega
    obtain ⟨K, h⟩ := hread_ev (longV i) (by rw [longV_len]; omega)
    dsimp only at h
    refine ⟨K + 1, fun k hk => ?_⟩
    obtain ⟨k, rfl⟩ : ∃ j, k = j + 1 := ⟨k - 1, by omega⟩
    have q := h k (by omega)
    have z := longV_len i
    have p1 : ((⟨#[71, 69, 84, 32, 47, 116, 97, 98, 108, 101, 32, 72, 84, 84, 80, 47, 49, 46, 49, 13, 10, 72, 111, 115, 116, 58, 32, 120, 13, 10, 97, 58, 32]⟩ : ByteArray) ++ ba (List.replicate i 98)) ++ (⟨#[13, 10, 13, 10]⟩ : ByteArray) = ba (longV i) := by
      rw [longV_parts, show (⟨#[71, 69, 84, 32, 47, 116, 97, 98, 108, 101, 32, 72, 84, 84, 80, 47, 49, 46, 49, 13, 10, 72, 111, 115, 116, 58, 32, 120, 13, 10, 97, 58, 32]⟩ : ByteArray) = ba head33 from rfl, show (⟨#[13, 10, 13, 10]⟩ : ByteArray) = ba [13, 10, 13, 10] from rfl, ba_app, ba_app]
    simp only [fascinelaw12_HttpLines.l1]
    rw [if_neg (by omega), Nat.sub_self, List.replicate_zero, List.append_nil, bs_ba, if_pos (by rw [ba_size, List.length_replicate]; omega), if_pos (by rw [ba_size, List.length_replicate]; omega), p1, q, Option.bind_some]
    by_cases hb : 2048 < 37 + i
    · rw [if_pos (by rw [ba_size]; omega), read_toolong i hb]; rfl
    · rw [if_neg (by rw [ba_size]; omega), read_long i (by omega)]
      dsimp only
      rw [if_pos (by rw [ba_size]; omega)]; rfl
  | succ d ih =>
    intro i hd hi
    have e64 : wrap64 ((i : Int) + 1) = ((i + 1 : Nat) : Int) := up1 (by omega)
    refine Ev.step (fun k => ?_) (ih (i + 1) (by omega) (by omega))
    simp only [fascinelaw12_HttpLines.l1]
    have hset : (List.replicate i (98 : Int) ++ List.replicate (l - i) 0).set i 98 = List.replicate (i + 1) 98 ++ List.replicate (l - (i + 1)) 0 := by
      rw [show l - i = (l - (i + 1)) + 1 by clear e64; omega, List.replicate_succ, List.set_append_right _ _ (by simp), List.length_replicate, Nat.sub_self, List.set_cons_zero, List.replicate_succ', List.append_assoc]; rfl
    rw [if_pos (by clear e64; omega), if_pos (by clear e64; omega), if_pos (by clear e64 hset; simp only [List.length_append, List.length_replicate]; omega), Int.toNat_natCast, hset, e64]
theorem lines_j1 (x : Int) (hx : 0 ≤ x ∧ x ≤ 65535) : Ev (fun k => fascinelaw12_HttpLines.j1 k x) true := by
  have e1 : Int.tmod (wrap64 x) 3000 = ((x.toNat % 3000 : Nat) : Int) := by
    rw [M.w64 (by omega) (by omega), Int.tmod_eq_emod_of_nonneg (by omega)]
    obtain ⟨u, rfl⟩ := Int.eq_ofNat_of_zero_le hx.1
    rfl
  have hlt : x.toNat % 3000 < 3000 := Nat.mod_lt _ (by decide)
  have h := long_loop (x.toNat % 3000) hlt _ 0 rfl (by omega)
  generalize x.toNat % 3000 = l at *
  rw [List.replicate_zero, List.nil_append, Nat.sub_zero] at h
  refine Ev.step (fun k => ?_) h
  simp only [fascinelaw12_HttpLines.j1]
  rw [e1, if_pos (by clear e1; omega), Int.toNat_natCast, if_pos (by clear e1; omega)]; rfl
theorem many_loop (x : Int) (hx : 0 ≤ x ∧ x ≤ 65535) (n : Nat) (hn : n < 40) : ∀ (d i : Nat), n - i = d → i ≤ n → Ev (fun k => fascinelaw12_HttpLines.l0 k x (n : Int) (ba (manyV i)) (i : Int)) true := by
  intro d
  induction d with
  | zero =>
    intro i hd hi
    obtain rfl : i = n := by omega
    have z : (manyV i).length = 30 + 6 * i := many_len i
    obtain ⟨K, h⟩ := hread_ev (manyV i ++ [13, 10]) (by rw [List.length_append]; simp only [List.length_cons, List.length_nil]; omega)
    obtain ⟨K1, h1⟩ := lines_j1 x hx
    dsimp only at h h1
    refine ⟨K + K1 + 1, fun k hk => ?_⟩
    obtain ⟨k, rfl⟩ : ∃ j, k = j + 1 := ⟨k - 1, by omega⟩
    have q := h k (by omega)
    have q1 := h1 k (by omega)
    have ew : Unit → wrap64 ((((manyV i).length : Nat) : Int) + 2) = (((manyV i).length + 2 : Nat) : Int) := fun _ => by rw [M.w64 (by omega) (by omega)]; omega
    simp only [fascinelaw12_HttpLines.l0]
    rw [if_neg (by omega), if_pos (by rw [ba_size]; omega), show (⟨#[13, 10]⟩ : ByteArray) = ba [13, 10] from rfl, ba_app, q, Option.bind_some]
    by_cases hb : 30 < i
    · rw [if_pos (by omega), read_toomany i hb hn]
      rw [if_pos (show (no 431).2.2.2.2.1 = 0 from rfl), if_pos (show (no 431).2.2.2.2.2 = 431 from rfl), q1]
    · rw [if_neg (by omega), read_many i (by omega)]
      dsimp only
      rw [ba_size, ew (), if_pos rfl, if_pos rfl, q1]
  | succ d ih =>
    intro i hd hi
    have z : (manyV i).length = 30 + 6 * i := many_len i
    have e64 : Unit → wrap64 ((i : Int) + 1) = ((i + 1 : Nat) : Int) := fun _ => up1 (by omega)
    refine Ev.step (fun k => ?_) (ih (i + 1) (by omega) (by omega))
    simp only [fascinelaw12_HttpLines.l0]
    rw [if_pos (by omega), if_pos (by rw [ba_size]; omega), show (⟨#[97, 58, 32, 98, 13, 10]⟩ : ByteArray) = ba [97, 58, 32, 98, 13, 10] from rfl, ba_app, ← manyV_succ, e64 ()]
theorem HttpLines : fascinelaw12_HttpLines.Pure := by
  intro a x ha hx'
  have hc : 0 ≤ a ∧ a ≤ 255 := by simpa [Lit.wf, IntKind.min, IntKind.max, IntKind.signed, IntKind.bits] using ha
  have hx : 0 ≤ x ∧ x ≤ 65535 := by simpa [Lit.wf, IntKind.min, IntKind.max, IntKind.signed, IntKind.bits] using hx'
  obtain ⟨K0, h0⟩ := awake_ev
  dsimp only at h0
  have e1 : Int.tmod (wrap64 a) 40 = ((a.toNat % 40 : Nat) : Int) := by
    rw [M.w64 (by omega) (by omega), Int.tmod_eq_emod_of_nonneg (by omega)]
    obtain ⟨u, rfl⟩ := Int.eq_ofNat_of_zero_le hc.1
    rfl
  have hlt : a.toNat % 40 < 40 := Nat.mod_lt _ (by decide)
  generalize a.toNat % 40 = n at *
  obtain ⟨K1, h1⟩ := many_loop x hx n hlt _ 0 rfl (by omega)
  dsimp only at h1
  refine Ev.rounds ⟨K0 + K1, fun k hk => ?_⟩
  have q1 := h1 k (by clear e1; omega)
  simp only [fascinelaw12_HttpLines.f]
  rw [h0 k (by clear e1; omega), Option.bind_some, if_pos rfl, e1]
  exact q1

end Go.Proofs.YtpigloohccpfiaaDoor.Pure
