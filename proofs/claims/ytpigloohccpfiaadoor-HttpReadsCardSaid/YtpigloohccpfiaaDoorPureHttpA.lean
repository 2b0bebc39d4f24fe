/- On the printed functions of HttpReads: what each of them answers, in plain words. -/
import Derived.Test.YtpigloohccpfiaaDoorPHttpReadsx
import Derived.Test.YtpigloohccpfiaaDoorMHttp
namespace Go.Proofs.YtpigloohccpfiaaDoor.Pure
open Go.RowKit Go.Proofs.YtpigloohccpfiaaDoor.G Go.Proofs.YtpigloohccpfiaaDoor.PHttpReads Go.Proofs.YtpigloohccpfiaaDoorW.PrintWords Go.Proofs.YtpigloohccpfiaaDoorW.PrintLast Go.Proofs.YtpigloohccpfiaaDoorW.PrintMore Go.Proofs.YtpigloohccpfiaaDoor.M
set_option linter.unusedVariables false
set_option linter.unusedSimpArgs false

theorem ev_some {α : Type} {g : Nat → Option α} {r : α} (h : ∀ k, g (k + 1) = some r) : Ev g r := Ev.step (f := fun _ => some r) h (Ev.now r)
theorem ev_mono {α : Type} {g : Nat → Option α} {r : α} (hg : ∀ k, LeO (g k) (g (k + 1))) {k : Nat} (h : g k = some r) : Ev g r := Ev.of hg h
theorem up1 {i : Nat} (h : i ≤ 140737488351232) : wrap64 ((i : Int) + 1) = ((i + 1 : Nat) : Int) := by rw [M.w64 (by omega) (by omega)]; omega
theorem ba_from (l : Tx) (i : Nat) : (ba l).extract i (ba l).size = ba (l.drop i) := by
  rw [ba_ext, ba_size, List.take_of_length_le (by rw [List.length_drop]; exact Nat.le_refl _)]
theorem ba_to (l : Tx) (i : Nat) : (ba l).extract 0 i = ba (l.take i) := by
  rw [ba_ext, List.drop_zero, Nat.sub_zero]
theorem find_loop (l : Tx) (hl : l.length ≤ 140737488351232) (c : UInt8) (ci : Int) (hc : ci = (c.toNat : Int)) : ∀ (d i : Nat), l.length - i = d → i ≤ l.length → Ev (fun k => fascineref12_find.l0 k (ba l) ci (i : Int)) (ixI ((ix (l.drop i) c).map (i + ·))) := by
  intro d
  induction d with
  | zero =>
    intro i hd hi
    rw [List.drop_of_length_le (by omega)]
    refine ev_some fun k => ?_
    simp only [fascineref12_find.l0]
    rw [if_neg (by rw [ba_size]; omega)]; rfl
  | succ d ih =>
    intro i hd hi
    have hlt : i < l.length := by omega
    have e64 := up1 (i := i) (by omega)
    rw [List.drop_eq_getElem_cons hlt]
    unfold ix
    by_cases hc2 : l[i] = c
    · rw [if_pos hc2]
      refine ev_some fun k => ?_
      simp only [fascineref12_find.l0]
      rw [if_pos (by rw [ba_size]; omega), if_pos (by omega), bt_ba l i hlt, if_pos (by rw [hc2, hc])]
      rfl
    · rw [if_neg hc2]
      have h2 := ih (i + 1) (by omega) (by omega)
      have e : ((ix (l.drop (i + 1)) c).map (· + 1)).map (i + ·) = (ix (l.drop (i + 1)) c).map (i + 1 + ·) := by
        rw [Option.map_map]; congr 1; funext x; simp only [Function.comp]; omega
      rw [e]
      refine Ev.step (fun k => ?_) h2
      simp only [fascineref12_find.l0]
      rw [if_pos (by rw [ba_size]; omega), if_pos (by omega), bt_ba l i hlt, if_neg (fun e => hc2 (UInt8.toNat_inj.1 (by omega))), e64]
theorem find_ev (l : Tx) (hl : l.length ≤ 140737488351232) (c : UInt8) (ci : Int) (hc : ci = (c.toNat : Int)) : Ev (fun k => fascineref12_find.f k (ba l) ci) (ixI (ix l c)) := by
  have h := find_loop l hl c ci hc _ 0 rfl (by omega)
  rw [List.drop_zero] at h
  have e : (ix l c).map (0 + ·) = ix l c := by cases ix l c <;> simp
  rw [e] at h
  exact h
theorem tokc_iff (b : UInt8) : tokc b = true ↔ ((97 ≤ b.toNat ∧ b.toNat ≤ 122) ∨ (65 ≤ b.toNat ∧ b.toNat ≤ 90) ∨ (48 ≤ b.toNat ∧ b.toNat ≤ 57) ∨ b.toNat = 45 ∨ b.toNat = 95) := by simp [tokc]
theorem bits_tab : ∀ b : Fin 256, (97 ≤ Go.bits .or .u8 (b.val : Int) 32 ∧ Go.bits .or .u8 (b.val : Int) 32 ≤ 122) ↔ ((97 ≤ b.val ∧ b.val ≤ 122) ∨ (65 ≤ b.val ∧ b.val ≤ 90)) := by decide +kernel
theorem token_loop (l : Tx) (hl : l.length ≤ 140737488351232) : ∀ (d i : Nat), l.length - i = d → i ≤ l.length → Ev (fun k => http_token.l0 k (ba l) (l.length : Int) (i : Int)) ((l.drop i).all tokc && !l.isEmpty) := by
  intro d
  induction d with
  | zero =>
    intro i hd hi
    refine ev_some fun k => ?_
    simp only [http_token.l0]
    rw [if_neg (by omega), ba_list, List.drop_of_length_le (by omega)]
    cases l <;> simp
  | succ d ih =>
    intro i hd hi
    have hlt : i < l.length := by omega
    have h2 := ih (i + 1) (by omega) (by omega)
    have e64 := up1 (i := i) (by omega)
    rw [List.drop_eq_getElem_cons hlt, List.all_cons]
    have hb := bits_tab ⟨l[i].toNat, l[i].toNat_lt⟩
    have hq := tokc_iff l[i]
    by_cases ht : tokc l[i] = true
    · rw [ht, Bool.true_and]
      refine Ev.step (fun k => ?_) h2
      simp only [http_token.l0]
      rw [if_pos (by omega), if_pos (by omega), if_pos (by rw [ba_size]; omega), bt_ba l i hlt, e64]
      replace hq := hq.1 ht
      dsimp only at hb
      generalize Go.bits .or .u8 ((l[i]).toNat : Int) 32 = x at *
      generalize (l[i]).toNat = b at *
      repeat' split
      all_goals first | rfl | (exfalso; omega)
    · rw [Bool.eq_false_iff.2 ht, Bool.false_and]
      refine ev_some fun k => ?_
      simp only [http_token.l0]
      rw [if_pos (by omega), if_pos (by omega), if_pos (by rw [ba_size]; omega), bt_ba l i hlt, e64]
      replace hq := mt hq.2 ht
      dsimp only at hb
      generalize Go.bits .or .u8 ((l[i]).toNat : Int) 32 = x at *
      generalize (l[i]).toNat = b at *
      repeat' split
      all_goals first | rfl | (exfalso; omega)
theorem token_ev (l : Tx) (hl : l.length ≤ 140737488351232) : Ev (fun k => http_token.f k (ba l)) (tokB l) := by
  have h := token_loop l hl _ 0 rfl (by omega)
  rw [List.drop_zero] at h
  refine Ev.congr (fun k => ?_) h
  simp only [http_token.f]
  rw [ba_size]; rfl
theorem name_loop (l : Tx) (hl : l.length ≤ 140737488351232) : ∀ (d i : Nat), l.length - i = d → i ≤ l.length → Ev (fun k => fascineref12_name.l0 k (ba l) (i : Int)) ((l.drop i).all tokc && !l.isEmpty) := by
  intro d
  induction d with
  | zero =>
    intro i hd hi
    refine ev_some fun k => ?_
    simp only [fascineref12_name.l0]
    rw [if_neg (by rw [ba_size]; omega), List.drop_of_length_le (by omega), ba_size]
    cases l with
    | nil => simp
    | cons a r => simp
  | succ d ih =>
    intro i hd hi
    have hlt : i < l.length := by omega
    have h2 := ih (i + 1) (by omega) (by omega)
    have e64 := up1 (i := i) (by omega)
    rw [List.drop_eq_getElem_cons hlt, List.all_cons]
    have hq := tokc_iff l[i]
    by_cases ht : tokc l[i] = true
    · rw [ht, Bool.true_and]
      refine Ev.step (fun k => ?_) h2
      simp only [fascineref12_name.l0]
      rw [if_pos (by rw [ba_size]; omega), if_pos (by omega), bt_ba l i hlt, e64]
      replace hq := hq.1 ht
      generalize (l[i]).toNat = b at *
      repeat' split
      all_goals first | rfl | (exfalso; omega)
    · rw [Bool.eq_false_iff.2 ht, Bool.false_and]
      refine ev_some fun k => ?_
      simp only [fascineref12_name.l0]
      rw [if_pos (by rw [ba_size]; omega), if_pos (by omega), bt_ba l i hlt, e64]
      replace hq := mt hq.2 ht
      generalize (l[i]).toNat = b at *
      repeat' split
      all_goals first | rfl | (exfalso; omega)
theorem name_ev (l : Tx) (hl : l.length ≤ 140737488351232) : Ev (fun k => fascineref12_name.f k (ba l)) (tokB l) := by
  have h := name_loop l hl _ 0 rfl (by omega)
  rw [List.drop_zero] at h
  exact h
theorem prefix_eq (q : Tx) : strings_HasPrefix.f (ba q) (⟨#[47]⟩ : ByteArray) = some (decide (q.head? = some 47)) := by
  have e1 : (⟨#[47]⟩ : ByteArray) = ba [47] := rfl
  unfold strings_HasPrefix.f stringslite_HasPrefix.f
  rw [e1]
  cases q with
  | nil => rw [if_neg (by simp only [ba_size, List.length_nil, List.length_cons]; omega)]; rfl
  | cons a r =>
    rw [if_pos (by simp only [ba_size, List.length_cons, List.length_nil]; omega), if_pos (by omega), if_pos (by simp only [ba_size, List.length_cons, List.length_nil]; omega)]
    rw [show ((((ba [47]).size : Int)).toNat) = 1 by rw [ba_size]; rfl, ba_to, ba_list, ba_list]
    simp only [List.take_succ_cons, List.take_zero, Option.bind_some, List.head?_cons]
    congr 1
    by_cases h : a = 47 <;> simp [h]
theorem suffix_eq (l : Tx) (hl : l.length ≤ 140737488351232) : strings_CutSuffix.f (ba l) (⟨#[13]⟩ : ByteArray) = some (match crV l with | some m => (ba m, true) | none => (ba l, false)) := by
  have e1 : (⟨#[13]⟩ : ByteArray) = ba [13] := rfl
  unfold strings_CutSuffix.f stringslite_CutSuffix.f stringslite_HasSuffix.f
  rw [e1]
  rcases List.eq_nil_or_concat l with rfl | ⟨m, b, hmb⟩
  · rw [if_neg (by simp only [ba_size, List.length_nil, List.length_cons]; omega)]; rfl
  · rw [List.concat_eq_append] at hmb
    subst hmb
    have hz : (m ++ [b]).length = m.length + 1 := by simp
    rw [hz] at hl
    have hw : wrap64 (((ba (m ++ [b])).size : Int) - ((ba [13]).size : Int)) = (m.length : Int) := by
      rw [ba_size, ba_size, hz, M.w64 (by simp only [List.length_cons, List.length_nil]; omega) (by simp only [List.length_cons, List.length_nil]; omega)]; simp
    rw [if_pos (by simp only [ba_size, hz, List.length_cons, List.length_nil]; omega), hw, if_pos (by omega), if_pos (by rw [ba_size, hz]; omega), Int.toNat_natCast, ba_from, ba_list, ba_list]
    simp only [List.drop_left, Option.bind_some]
    unfold crV
    rw [show (m ++ [b]).getLast? = some b by simp, ba_to]
    by_cases h : b = 13
    · subst h
      rw [if_pos (by simp), if_pos (by omega), if_pos (by rw [ba_size, hz]; omega)]
      simp
    · rw [if_neg (by simpa using h)]
      simp [h]

/-! ### the first line -/
abbrev eB : ByteArray := ⟨#[]⟩
def firstR (o : Option (Tx × Tx)) : ByteArray × ByteArray × ByteArray × Bool × Bool := match o with
  | none => (eB, eB, eB, false, false)
  | some (m, q) => (ba m, ba q, eB, false, true)
theorem pathc_iff (b : UInt8) : pathc b = true ↔ (33 ≤ b.toNat ∧ b.toNat ≤ 126) := by simp [pathc]
theorem rpath_loop (l q : Tx) (x4 : Nat) (h4 : x4 ≤ l.length) (hq : q.length ≤ 140737488351232) : ∀ (d i : Nat), q.length - i = d → i ≤ q.length → Ev (fun k => fascineref12_first.l0 k (ba l) (x4 : Int) (ba q) (i : Int)) (firstR (if (q.drop i).all pathc = true then some (l.take x4, q) else none)) := by
  intro d
  induction d with
  | zero =>
    intro i hd hi
    rw [List.drop_of_length_le (by omega)]
    refine ev_some fun k => ?_
    simp only [fascineref12_first.l0]
    rw [if_neg (by rw [ba_size]; omega), if_pos (by omega), if_pos (by rw [ba_size]; omega), Int.toNat_natCast, ba_to]; rfl
  | succ d ih =>
    intro i hd hi
    have hlt : i < q.length := by omega
    have h2 := ih (i + 1) (by omega) (by omega)
    have e64 := up1 (i := i) (by omega)
    rw [List.drop_eq_getElem_cons hlt, List.all_cons]
    have hb := pathc_iff q[i]
    by_cases ht : pathc q[i] = true
    · rw [ht, Bool.true_and]
      refine Ev.step (fun k => ?_) h2
      simp only [fascineref12_first.l0]
      have := hb.1 ht
      rw [if_pos (by rw [ba_size]; omega), if_pos (by omega), bt_ba q i hlt, if_neg (by omega), if_neg (by omega), e64]
    · rw [Bool.eq_false_iff.2 ht, Bool.false_and]
      refine ev_some fun k => ?_
      simp only [fascineref12_first.l0]
      have := mt hb.2 ht
      rw [if_pos (by rw [ba_size]; omega), if_pos (by omega), bt_ba q i hlt]
      by_cases h33 : ((q[i].toNat : Nat) : Int) < 33
      · rw [if_pos h33]; rfl
      · rw [if_neg h33, if_pos (by omega)]; rfl
theorem rj0_ev (l q : Tx) (x4 j : Nat) (h4 : x4 ≤ l.length) (hj : j ≤ q.length) (hq : q.length ≤ 140737488351232) : Ev (fun k => fascineref12_first.j0 k (ba l) (x4 : Int) (ba q) (j : Int) false) (firstR (if (q.take j).head? = some 47 ∧ (q.take j).all pathc = true then some (l.take x4, q.take j) else none)) := by
  have hzl : (q.take j).length ≤ 140737488351232 := by rw [List.length_take]; omega
  obtain ⟨K, h⟩ := rpath_loop l (q.take j) x4 h4 hzl _ 0 rfl (by omega)
  rw [List.drop_zero] at h
  dsimp only at h
  refine ⟨K + 2, fun k hk => ?_⟩
  obtain ⟨k, rfl⟩ : ∃ j, k = j + 2 := ⟨k - 2, by omega⟩
  simp only [fascineref12_first.j0]
  rw [if_neg (by simp), if_pos (by omega), if_pos (by rw [ba_size]; omega), Int.toNat_natCast, ba_to, ba_list]
  cases hp : q.take j with
  | nil =>
    rw [if_pos rfl, if_neg (by simp)]
    simp only [fascineref12_first.j1]
    rw [if_pos trivial]; rfl
  | cons a r =>
    rw [if_neg (by simp), if_pos (by rw [ba_size]; simp only [List.length_cons]; omega)]
    simp only [fascineref12_first.j1]
    have e0 := bt_ba (a :: r) 0 (by simp)
    simp only [List.getElem_cons_zero, Int.ofNat_zero] at e0
    have e0' : bt (ba (a :: r)) 0 = (a.toNat : Int) := e0
    rw [e0']
    by_cases ha : a = 47
    · rw [if_neg (by subst ha; simp)]
      have h3 := h k (by omega)
      rw [hp] at h3
      rw [show ((0 : Nat) : Int) = 0 from rfl] at h3
      rw [h3]
      subst ha
      simp
    · have : (a.toNat : Int) ≠ 47 := fun e => ha (UInt8.toNat_inj.1 (by show a.toNat = 47; omega))
      rw [if_pos (by simpa using this), if_neg (by simp [ha])]; rfl
theorem rj0_no (k : Nat) (x0 : ByteArray) (x4 : Int) (x5 : ByteArray) (x6 : Int) : fascineref12_first.j0 (k + 1) x0 x4 x5 x6 true = some (firstR none) := by
  simp only [fascineref12_first.j0]; rw [if_pos trivial]; rfl
theorem rfirst_ev (l : Tx) (hl : l.length ≤ 140737488351232) : Ev (fun k => fascineref12_first.f k (ba l)) (firstR (firstV l)) := by
  obtain ⟨K1, h1⟩ := find_ev l hl 32 32 rfl
  dsimp only at h1
  unfold firstV
  cases hi : ix l 32 with
  | none =>
    rw [hi] at h1
    refine ⟨K1, fun k hk => ?_⟩
    simp only [fascineref12_first.f]
    rw [h1 k hk, Option.bind_some, if_pos (by simp [ixI])]; rfl
  | some i =>
    rw [hi] at h1
    simp only [ixI] at h1
    have hil := ix_lt _ _ _ hi
    have e1 := up1 (i := i) (by omega)
    have hrl : (l.drop (i + 1)).length ≤ 140737488351232 := by rw [List.length_drop]; omega
    obtain ⟨K2, h2⟩ := find_ev (l.drop (i + 1)) hrl 32 32 rfl
    dsimp only at h2 ⊢
    generalize hr : l.drop (i + 1) = r at h2 hrl ⊢
    cases hj : ix r 32 with
    | none =>
      rw [hj] at h2
      refine ⟨K1 + K2 + 1, fun k hk => ?_⟩
      obtain ⟨k, rfl⟩ : ∃ j, k = j + 1 := ⟨k - 1, by omega⟩
      simp only [fascineref12_first.f]
      rw [h1 _ (by omega), Option.bind_some, if_neg (by omega), e1, if_pos (by omega), if_pos (by rw [ba_size]; omega), Int.toNat_natCast, ba_from, hr, h2 _ (by omega), Option.bind_some, if_pos (by simp [ixI]), rj0_no]
    | some j =>
      rw [hj] at h2
      simp only [ixI] at h2
      have hjl := ix_lt _ _ _ hj
      have e2 := up1 (i := j) (by omega)
      obtain ⟨K3, h3⟩ := name_ev (l.take i) (by rw [List.length_take]; omega)
      obtain ⟨K4, h4⟩ := rj0_ev l r i j (by omega) (by omega) hrl
      dsimp only at h3 h4 ⊢
      refine ⟨K1 + K2 + K3 + K4 + 1, fun k hk => ?_⟩
      obtain ⟨k, rfl⟩ : ∃ j, k = j + 1 := ⟨k - 1, by omega⟩
      simp only [fascineref12_first.f]
      rw [h1 _ (by omega), Option.bind_some, if_neg (by omega), e1, if_pos (by omega), if_pos (by rw [ba_size]; omega), Int.toNat_natCast, ba_from, hr, h2 _ (by omega), Option.bind_some, if_neg (by omega), e2, if_pos (by omega), if_pos (by rw [ba_size]; omega), Int.toNat_natCast, ba_from, ba_list, show ([72, 84, 84, 80, 47, 49, 46, 49] : List UInt8) = http11 from rfl]
      by_cases hh : r.drop (j + 1) = http11
      · rw [if_pos hh, if_pos (by omega), if_pos (by rw [ba_size]; omega), Int.toNat_natCast, ba_to, h3 _ (by omega), Option.bind_some]
        by_cases ht : tokB (l.take i) = true
        · rw [ht]
          simp only [Bool.not_true, hh, true_and]
          rw [h4 _ (by omega)]
        · rw [Bool.eq_false_iff.2 ht]
          simp only [Bool.not_false]
          rw [rj0_no, if_neg (by simp)]
      · rw [if_neg hh, rj0_no, if_neg (by simp [hh])]
theorem hpath_loop (a q c : ByteArray) (q' : Tx) (hqq : q = ba q') (hq : q'.length ≤ 140737488351232) : ∀ (d i : Nat), q'.length - i = d → i ≤ q'.length → Ev (fun k => http_first.l0 k [a, q, c] (q'.length : Int) (i : Int)) (if (q'.drop i).all pathc = true then (a, q, eB, false, true) else (eB, eB, eB, false, false)) := by
  subst hqq
  intro d
  induction d with
  | zero =>
    intro i hd hi
    rw [List.drop_of_length_le (by omega)]
    refine ev_some fun k => ?_
    simp only [http_first.l0]
    rw [if_neg (by omega), if_pos (by simp), if_pos (by simp)]; rfl
  | succ d ih =>
    intro i hd hi
    have hlt : i < q'.length := by omega
    have h2 := ih (i + 1) (by omega) (by omega)
    have e64 := up1 (i := i) (by omega)
    rw [List.drop_eq_getElem_cons hlt, List.all_cons]
    have hb := pathc_iff q'[i]
    have e1 : rdOf ByteArray.empty [a, ba q', c] 1 = ba q' := rfl
    by_cases ht : pathc q'[i] = true
    · rw [ht, Bool.true_and]
      refine Ev.step (fun k => ?_) h2
      simp only [http_first.l0]
      have := hb.1 ht
      rw [if_pos (by omega), if_pos (by simp), if_pos (by omega), e1, if_pos (by rw [ba_size]; omega), bt_ba q' i hlt, if_neg (by omega), if_neg (by omega), e64]
    · rw [Bool.eq_false_iff.2 ht, Bool.false_and]
      refine ev_some fun k => ?_
      simp only [http_first.l0]
      have := mt hb.2 ht
      rw [if_pos (by omega), if_pos (by simp), if_pos (by omega), e1, if_pos (by rw [ba_size]; omega), bt_ba q' i hlt]
      by_cases h33 : ((q'[i].toNat : Nat) : Int) ≤ 32
      · rw [if_pos h33]; rfl
      · rw [if_neg h33, if_pos (by omega)]; rfl
theorem hj0_no (k : Nat) (xs : List ByteArray) : http_first.j0 (k + 1) xs true = some (firstR none) := by
  simp only [http_first.j0]; rw [if_pos trivial]; rfl
theorem hfirst_ev (l : Tx) (hl : l.length ≤ 2048) : Ev (fun k => http_first.f k (ba l)) (firstR (firstV l)) := by
  have hsp : strings_Split.f (ba l) (⟨#[32]⟩ : ByteArray) = some (Lib.splitB (ba [32]) 0 (Lib.countB (ba l) (ba [32])) (ba l)) := by
    unfold strings_Split.f
    rw [if_pos ⟨by rw [ba_size]; omega, by show 1 ≤ (ba [32]).size; rw [ba_size]; simp⟩]; rfl
  unfold firstV
  cases hi : ix l 32 with
  | none =>
    refine ev_some fun k => ?_
    simp only [http_first.f]
    rw [hsp, Option.bind_some, sp_miss _ _ hi, if_neg (by simp), hj0_no]
  | some i =>
    have hil := ix_lt _ _ _ hi
    rw [sp_hit _ _ _ hi] at hsp
    have hrl : (l.drop (i + 1)).length ≤ 2048 := by rw [List.length_drop]; omega
    dsimp only
    generalize hr : l.drop (i + 1) = r at hrl hsp ⊢
    cases hj : ix r 32 with
    | none =>
      rw [sp_miss _ _ hj] at hsp
      refine ev_some fun k => ?_
      simp only [http_first.f]
      rw [hsp, Option.bind_some, if_neg (by simp), hj0_no]
    | some j =>
      rw [sp_hit _ _ _ hj] at hsp
      have hjl := ix_lt _ _ _ hj
      dsimp only
      cases hx : ix (r.drop (j + 1)) 32 with
      | some m =>
        rw [sp_hit _ _ _ hx] at hsp
        have hz := sp_len ((r.drop (j + 1)).drop (m + 1)) 32
        refine ev_some fun k => ?_
        simp only [http_first.f]
        rw [hsp, Option.bind_some, if_neg (by simp only [List.length_cons]; omega), hj0_no, if_neg]
        rintro ⟨h, _⟩
        rw [h, show ix http11 32 = none by decide] at hx
        cases hx
      | none =>
        rw [sp_miss _ _ hx] at hsp
        obtain ⟨K3, h3⟩ := token_ev (l.take i) (by rw [List.length_take]; omega)
        obtain ⟨K4, h4⟩ := hpath_loop (ba (l.take i)) (ba (r.take j)) (ba (r.drop (j + 1))) (r.take j) rfl (by rw [List.length_take]; omega) _ 0 rfl (by omega)
        rw [List.drop_zero] at h4
        dsimp only at h3 h4
        refine ⟨K3 + K4 + 2, fun k hk => ?_⟩
        obtain ⟨k, rfl⟩ : ∃ j, k = j + 2 := ⟨k - 2, by omega⟩
        simp only [http_first.f]
        rw [hsp, Option.bind_some, if_pos (by simp), if_pos (by simp)]
        rw [show rdOf ByteArray.empty [ba (l.take i), ba (r.take j), ba (r.drop (j + 1))] 0 = ba (l.take i) from rfl, show rdOf ByteArray.empty [ba (l.take i), ba (r.take j), ba (r.drop (j + 1))] 1 = ba (r.take j) from rfl, show rdOf ByteArray.empty [ba (l.take i), ba (r.take j), ba (r.drop (j + 1))] 2 = ba (r.drop (j + 1)) from rfl]
        rw [h3 _ (by omega), Option.bind_some]
        by_cases ht : tokB (l.take i) = true
        · rw [if_pos ht, if_pos (by simp), ba_list, show ([72, 84, 84, 80, 47, 49, 46, 49] : List UInt8) = http11 from rfl]
          by_cases hh : r.drop (j + 1) = http11
          · rw [if_pos hh, if_pos (by simp), prefix_eq, Option.bind_some]
            simp only [http_first.j0]
            by_cases hp : (r.take j).head? = some 47
            · rw [if_neg (by simp [hp]), if_pos (by simp)]
              rw [show rdOf ByteArray.empty [ba (l.take i), ba (r.take j), ba (r.drop (j + 1))] 1 = ba (r.take j) from rfl, ba_size]
              have h5 := h4 (k + 1) (by omega)
              rw [show ((0 : Nat) : Int) = 0 from rfl] at h5
              rw [h5]
              by_cases hap : (r.take j).all pathc = true
              · rw [if_pos hap, if_pos ⟨hh, ht, hp, hap⟩]; rfl
              · rw [if_neg hap, if_neg (fun h => hap h.2.2.2)]; rfl
            · rw [if_pos (by simp [hp]), if_neg (fun h => hp h.2.2.1)]; rfl
          · rw [if_neg hh, hj0_no, if_neg (fun h => hh h.1)]
        · rw [if_neg ht, hj0_no, if_neg (fun h => ht h.2.1)]

/-! ### trimming, small letters, lengths -/
theorem sp_iff (b : UInt8) : strings_Trim.sp b = true ↔ ((b.toNat : Int) = 32 ∨ (b.toNat : Int) = 9) := by
  have h1 : b = 32 ↔ b.toNat = 32 := ⟨fun h => by rw [h]; rfl, fun h => UInt8.toNat_inj.1 h⟩
  have h2 : b = 9 ↔ b.toNat = 9 := ⟨fun h => by rw [h]; rfl, fun h => UInt8.toNat_inj.1 h⟩
  have h3 : strings_Trim.sp b = true ↔ (b = 32 ∨ b = 9) := by simp [strings_Trim.sp]
  rw [h3, h1, h2]; omega
theorem rt_snoc (m : Tx) (b : UInt8) : rt (m ++ [b]) = if strings_Trim.sp b = true then rt m else m ++ [b] := by
  unfold rt
  rw [List.reverse_append, List.reverse_cons, List.reverse_nil, List.nil_append, List.singleton_append, List.dropWhile_cons]
  by_cases h : strings_Trim.sp b = true
  · rw [if_pos h, if_pos h]
  · rw [if_neg h, if_neg h]; simp
theorem rtrim_right : ∀ (d : Nat) (l : Tx), l.length = d → l.length ≤ 140737488351232 → Ev (fun k => fascineref12_trim.l1 k (ba l)) (ba (rt l)) := by
  intro d
  induction d with
  | zero =>
    intro l hd hl
    obtain rfl := List.eq_nil_of_length_eq_zero hd
    refine ev_some fun k => ?_
    simp only [fascineref12_trim.l1]
    rw [if_neg (by rw [ba_size]; simp)]; rfl
  | succ d ih =>
    intro l hd hl
    rcases List.eq_nil_or_concat l with rfl | ⟨m, b, hmb⟩
    · simp at hd
    · rw [List.concat_eq_append] at hmb
      subst hmb
      have hz : (m ++ [b]).length = m.length + 1 := by simp
      have hw : wrap64 (((ba (m ++ [b])).size : Int) - 1) = (m.length : Int) := by rw [ba_size, hz, M.w64 (by omega) (by omega)]; omega
      have hb : bt (ba (m ++ [b])) (m.length : Int) = (b.toNat : Int) := by rw [bt_ba _ _ (by rw [hz]; omega)]; simp
      have hx : (ba (m ++ [b])).extract 0 m.length = ba m := by rw [ba_to]; simp
      have hs := sp_iff b
      rw [rt_snoc]
      by_cases h : strings_Trim.sp b = true
      · rw [if_pos h]
        refine Ev.step (fun k => ?_) (ih m (by omega) (by omega))
        simp only [fascineref12_trim.l1]
        rw [hw, hb, if_pos (by rw [ba_size, hz]; omega), if_pos (by omega), if_pos (by rw [ba_size, hz]; omega), if_pos (show ((m.length : Nat) : Int) ≤ ((ba (m ++ [b])).size : Int) by rw [ba_size, hz]; omega), Int.toNat_natCast, hx]
        rcases hs.1 h with e | e
        · rw [if_pos e]
        · rw [if_neg (by omega), if_pos e]
      · rw [if_neg h]
        have := mt hs.2 h
        refine ev_some fun k => ?_
        simp only [fascineref12_trim.l1]
        rw [hw, hb, if_pos (by rw [ba_size, hz]; omega), if_pos (by omega), if_pos (by rw [ba_size, hz]; omega), if_neg (by omega), if_neg (by omega)]
theorem rtrim_left : ∀ (d : Nat) (l : Tx), l.length = d → l.length ≤ 140737488351232 → Ev (fun k => fascineref12_trim.l0 k (ba l)) (ba (rt (l.dropWhile strings_Trim.sp))) := by
  intro d
  induction d with
  | zero =>
    intro l hd hl
    obtain rfl := List.eq_nil_of_length_eq_zero hd
    refine Ev.step (f := fun k => fascineref12_trim.j1 k (ba [])) (fun k => ?_) (Ev.step (f := fun k => fascineref12_trim.l1 k (ba [])) (fun k => rfl) (rtrim_right _ [] rfl hl))
    simp only [fascineref12_trim.l0]
    rw [if_neg (by rw [ba_size]; simp)]
  | succ d ih =>
    intro l hd hl
    match l, hd with
    | b :: r, hd =>
      have hz : (b :: r).length = r.length + 1 := rfl
      have hb : bt (ba (b :: r)) 0 = (b.toNat : Int) := bt_ba (b :: r) 0 (by simp)
      have hx : (ba (b :: r)).extract 1 (ba (b :: r)).size = ba r := by rw [ba_from]; rfl
      have hs := sp_iff b
      rw [List.dropWhile_cons]
      by_cases h : strings_Trim.sp b = true
      · rw [if_pos h]
        refine Ev.step (fun k => ?_) (ih r (by omega) (by omega))
        simp only [fascineref12_trim.l0]
        rw [hb, hx, if_pos (by rw [ba_size, hz]; omega), if_pos (by rw [ba_size, hz]; omega), if_pos (show (1 : Int) ≤ ((ba (b :: r)).size : Int) by rw [ba_size, hz]; omega)]
        rcases hs.1 h with e | e
        · rw [if_pos e]
        · rw [if_neg (by omega), if_pos e]
      · rw [if_neg h]
        have := mt hs.2 h
        refine Ev.step (f := fun k => fascineref12_trim.j1 k (ba (b :: r))) (fun k => ?_) (Ev.step (f := fun k => fascineref12_trim.l1 k (ba (b :: r))) (fun k => rfl) (rtrim_right _ (b :: r) rfl hl))
        simp only [fascineref12_trim.l0]
        rw [hb, if_pos (by rw [ba_size, hz]; omega), if_pos (by rw [ba_size, hz]; omega), if_neg (by omega), if_neg (by omega)]
theorem rtrim_ev (l : Tx) (hl : l.length ≤ 140737488351232) : Ev (fun k => fascineref12_trim.f k (ba l)) (ba (trimV l)) := by
  rw [trimV_eq]; exact rtrim_left _ l rfl hl
theorem htrim_eq (l : Tx) (hl : l.length ≤ 2048) : strings_Trim.f (ba l) (⟨#[32, 9]⟩ : ByteArray) = some (ba (trimV l)) := by
  unfold strings_Trim.f
  rw [if_pos ⟨rfl, by rw [ba_size]; omega⟩]; rfl
theorem low_eq (l : Tx) (hl : l.length ≤ 140737488351232) : fascineref12_low.f (ba l) = some (ba (l.map tb)) := by
  unfold fascineref12_low.f
  rw [if_pos (by rw [ba_size]; omega)]; rfl
theorem small_eq (l : Tx) (hl : l.length ≤ 2048) : http_small.f (ba l) = some (ba (Lib.mapD http_small.lo l)) := by
  unfold http_small.f
  rw [if_pos (by rw [ba_size]; omega)]; rfl
theorem cut_eq (s : Tx) (hs : s.length ≤ 2048) : strings_Cut.f (ba s) (⟨#[58]⟩ : ByteArray) = some (match ix s 58 with | none => (ba s, eB, false) | some k => (ba (s.take k), ba (s.drop (k + 1)), true)) := by
  unfold strings_Cut.f
  rw [if_pos (by rw [ba_size]; omega), ba_data, show (⟨#[58]⟩ : ByteArray).data.toList = [58] from rfl]
  unfold Lib.cut
  rw [Lib.index_one, ix_index]
  cases ix s 58 with
  | none => rfl
  | some k =>
    have hp : 0 ≤ ixI (some k) := by show (0 : Int) ≤ (k : Int); omega
    simp only [if_pos hp]
    rfl
def lenR (o : Option Nat) : Int := match o with | none => -1 | some n => (n : Int)
theorem rlen_loop (l : Tx) (hl : l.length ≤ 9) : ∀ (d i acc : Nat), l.length - i = d → i ≤ l.length → acc < 10 ^ i → Ev (fun k => fascineref12_length.l0 k (ba l) (acc : Int) (i : Int)) (lenR (Lib.decFrom acc (l.drop i))) := by
  intro d
  induction d with
  | zero =>
    intro i acc hd hi ha
    rw [List.drop_of_length_le (by omega)]
    refine ev_some fun k => ?_
    simp only [fascineref12_length.l0]
    rw [if_neg (by rw [ba_size]; omega)]; rfl
  | succ d ih =>
    intro i acc hd hi ha
    have hlt : i < l.length := by omega
    have e64 := up1 (i := i) (by omega)
    have hp : 10 ^ i ≤ 10 ^ 9 := Nat.pow_le_pow_right (by decide) (by omega)
    have hp' : 10 ^ i ≤ 1000000000 := by simpa using hp
    rw [List.drop_eq_getElem_cons hlt]
    simp only [Lib.decFrom]
    have h256 := l[i].toNat_lt
    by_cases hb : 48 ≤ l[i].toNat ∧ l[i].toNat ≤ 57
    · rw [show Lib.digitVal l[i] = some (l[i].toNat - 48) by unfold Lib.digitVal; rw [if_pos hb]]
      have h2 := ih (i + 1) (acc * 10 + (l[i].toNat - 48)) (by omega) (by omega) (by rw [Nat.pow_succ]; omega)
      refine Ev.step (fun k => ?_) h2
      simp only [fascineref12_length.l0]
      rw [if_pos (by rw [ba_size]; omega), if_pos (by omega), bt_ba l i hlt, if_neg (by omega), if_neg (by omega), e64, M.w64 (x := 10 * (acc : Int)) (by omega) (by omega), M.w64 (by omega) (by omega)]
      congr 1
      omega
    · rw [show Lib.digitVal l[i] = none by unfold Lib.digitVal; rw [if_neg hb]]
      refine ev_some fun k => ?_
      simp only [fascineref12_length.l0]
      rw [if_pos (by rw [ba_size]; omega), if_pos (by omega), bt_ba l i hlt]
      by_cases h48 : ((l[i].toNat : Nat) : Int) < 48
      · rw [if_pos h48]; rfl
      · rw [if_neg h48, if_pos (by omega)]; rfl
theorem rlen_no (k : Nat) (x : ByteArray) : fascineref12_length.j0 (k + 1) x true = some (-1) := by
  simp only [fascineref12_length.j0]; rw [if_pos trivial]
theorem rlen_ev (l : Tx) : Ev (fun k => fascineref12_length.f k (ba l)) (lenR (lenV l)) := by
  unfold lenV
  by_cases hc : l.length < 1 ∨ 9 < l.length ∨ (1 < l.length ∧ l.head? = some 48)
  · rw [if_pos hc]
    refine ev_some fun k => ?_
    simp only [fascineref12_length.f]
    rw [ba_size]
    by_cases h1 : (l.length : Int) < 1
    · rw [if_pos h1, rlen_no]; rfl
    · rw [if_neg h1]
      by_cases h9 : (l.length : Int) > 9
      · rw [if_pos h9, rlen_no]; rfl
      · rw [if_neg h9]
        obtain ⟨h2, h3⟩ : 1 < l.length ∧ l.head? = some 48 := by
          rcases hc with h | h | h
          · omega
          · omega
          · exact h
        rw [if_pos (by omega), if_pos (by omega)]
        cases l with
        | nil => simp at h2
        | cons b r =>
          rw [show bt (ba (b :: r)) 0 = (b.toNat : Int) from bt_ba (b :: r) 0 (by simp)]
          obtain rfl : b = 48 := Option.some.inj h3
          exact rlen_no k _
  · rw [if_neg hc]
    obtain ⟨K, h⟩ := rlen_loop l (by omega) _ 0 0 rfl (by omega) (by simp)
    rw [List.drop_zero] at h
    dsimp only at h
    refine ⟨K + 1, fun k hk => ?_⟩
    obtain ⟨k, rfl⟩ : ∃ j, k = j + 1 := ⟨k - 1, by omega⟩
    have hj : fascineref12_length.j0 (k + 1) (ba l) false = some (lenR (Lib.decFrom 0 l)) := by
      simp only [fascineref12_length.j0]
      rw [if_neg (by simp)]
      exact h k (by omega)
    simp only [fascineref12_length.f]
    rw [ba_size, if_neg (by omega), if_neg (by omega)]
    by_cases h1 : (l.length : Int) > 1
    · rw [if_pos h1, if_pos (by omega)]
      have hne : (bt (ba l) 0 == 48) = false := by
        cases l with
        | nil => simp at h1
        | cons b r =>
          rw [show bt (ba (b :: r)) 0 = (b.toNat : Int) from bt_ba (b :: r) 0 (by simp)]
          apply Bool.eq_false_iff.2
          intro e
          have e2 : (b.toNat : Int) = 48 := by simpa using e
          have : b = 48 := UInt8.toNat_inj.1 (by show b.toNat = 48; omega)
          exact hc (Or.inr (Or.inr ⟨by omega, by rw [this]; rfl⟩))
      rw [hne]; exact hj
    · rw [if_neg h1]; exact hj
theorem charOk_iff (b : UInt8) : charOk b = true ↔ ((32 ≤ b.toNat ∨ b.toNat = 9) ∧ b.toNat ≠ 127) := by simp [charOk]
/-! ### the other lines: the program's side -/
abbrev HR := Int × Int × ByteArray × ByteArray × ByteArray × Bool
def hdR (m q e : ByteArray) (r : Nat × Nat × Bool) : HR := ((r.1 : Int), (r.2.1 : Int), m, q, e, r.2.2)
theorem hchars (n h c : Int) (nm : ByteArray) (v : Tx) (L : List ByteArray) (x18 x19 : Int) (m q e : ByteArray) (cl : Bool) (hv : v.length ≤ 2048) (r : HR)
    (h1 : v.all charOk = true → Ev (fun k => http_heads.l1 k n h c nm (ba v) L x18 x19 (v.length : Int) (v.length : Int) m q e cl) r)
    (h0 : v.all charOk = false → r = (0, 400, m, q, e, cl)) : ∀ (d j : Nat), v.length - j = d → j ≤ v.length → (v.take j).all charOk = true → Ev (fun k => http_heads.l1 k n h c nm (ba v) L x18 x19 (v.length : Int) (j : Int) m q e cl) r := by
  intro d
  induction d with
  | zero =>
    intro j hd hj hp
    obtain rfl : j = v.length := by omega
    rw [List.take_length] at hp
    exact h1 hp
  | succ d ih =>
    intro j hd hj hp
    have hlt : j < v.length := by omega
    have e64 := up1 (i := j) (by omega)
    have hb := charOk_iff v[j]
    by_cases ht : charOk v[j] = true
    · have h2 := ih (j + 1) (by omega) (by omega) (by rw [List.take_succ_eq_append_getElem hlt, List.all_append, hp]; simp [ht])
      refine Ev.step (fun k => ?_) h2
      have := hb.1 ht
      simp only [http_heads.l1]
      rw [if_pos (by omega), if_pos (by omega), if_pos (by rw [ba_size]; omega), bt_ba v j hlt, e64]
      by_cases h32 : ((v[j].toNat : Nat) : Int) < 32
      · rw [if_pos h32, if_pos (by omega), if_neg (by omega)]
      · rw [if_neg h32, if_neg (by omega)]
    · have hf : v.all charOk = false := by
        apply Bool.eq_false_iff.2
        intro e
        exact ht (List.all_eq_true.1 e _ (List.getElem_mem hlt))
      rw [h0 hf]
      refine ev_some fun k => ?_
      have := mt hb.2 ht
      simp only [http_heads.l1]
      rw [if_pos (by omega), if_pos (by omega), if_pos (by rw [ba_size]; omega), bt_ba v j hlt, e64]
      by_cases h32 : ((v[j].toNat : Nat) : Int) < 32
      · rw [if_pos h32]
        by_cases h9 : ((v[j].toNat : Nat) : Int) = 9
        · omega
        · rw [if_neg h9]
      · rw [if_neg h32, if_pos (by omega)]

theorem rdOf_at (ls : List Tx) (i : Nat) (h : i < ls.length) : rdOf ByteArray.empty (ls.map ba) (i : Int) = ba ls[i] := by
  unfold rdOf
  rw [Int.toNat_natCast, List.getD_eq_getElem?_getD, List.getElem?_eq_getElem (by simpa using h)]
  simp
theorem ap2 : ∀ b ∈ hostT, b.toNat < 128 := by decide
theorem ap3 : ∀ b ∈ clenT, b.toNat < 128 := by decide
theorem ap4 : ∀ b ∈ tencT, b.toNat < 128 := by decide
theorem ap5 : ∀ b ∈ connT, b.toNat < 128 := by decide
theorem ap6 : ∀ b ∈ closeT, b.toNat < 128 := by decide
/-- one line, behind its signs -/
def lineR (s : Tx) (r : List Tx) (nm v : Tx) (n h c : Nat) (cl : Bool) : Nat × Nat × Bool :=
  if nm = hostT then hd r n (h + 1) c cl
      else if nm = clenT then (match lenV v with | none => (0, 400, cl) | some m => hd r m h (c + 1) cl)
      else if nm = tencT then (0, 400, cl)
      else if nm = connT then hd r n h c (cl || decide (v.map tb = closeT))
      else hd r n h c cl
theorem hd_cons (s : Tx) (r : List Tx) (n h c : Nat) (cl : Bool) : hd (s :: r) n h c cl = match lineV s with | none => (0, 400, cl) | some (nm, v) => lineR s r nm v n h c cl := by
  rw [hd.eq_2]; rfl
theorem hj1_no (k : Nat) (x6 x7 x8 : Int) (x11 x12 : ByteArray) (x17 : List ByteArray) (x18 x19 : Int) (m q e : ByteArray) (cl : Bool) : http_heads.j1 (k + 1) x6 x7 x8 x11 x12 x17 x18 x19 true m q e cl = some (0, 400, m, q, e, cl) := by
  simp only [http_heads.j1]; rw [if_pos trivial]
theorem atoi_ok (v : Tx) (hv : v.length ≤ 2048) {a : Int} (h : Lib.atoiAll v = .ok a) : strconv_Atoi.f (ba v) = some (a, none) := by
  unfold strconv_Atoi.f
  rw [if_pos (by rw [ba_size]; omega), ba_data, h]
theorem atoi_no (v : Tx) (hv : v.length ≤ 2048) (h : ∀ a, Lib.atoiAll v ≠ .ok a) : ∃ a c, strconv_Atoi.f (ba v) = some (a, some c) := by
  unfold strconv_Atoi.f
  rw [if_pos (by rw [ba_size]; omega), ba_data]
  cases hx : Lib.atoiAll v <;> first | exact absurd hx (h _) | exact ⟨_, _, rfl⟩
theorem heads_loop (ls : List Tx) (hls : ∀ s ∈ ls, s.length ≤ 2048) (hn : ls.length ≤ 40) (m q e : ByteArray) : ∀ (d i n h c : Nat) (cl : Bool), ls.length - i = d → i ≤ ls.length → h ≤ i → c ≤ i → Ev (fun k => http_heads.l0 k (n : Int) (h : Int) (c : Int) (ls.map ba) (ls.length : Int) (i : Int) m q e cl) (hdR m q e (hd (ls.drop i) n h c cl)) := by
  intro d
  induction d with
  | zero =>
    intro i n h c cl hd' hi hh hc
    rw [List.drop_of_length_le (by omega)]
    refine ⟨2, fun k hk => ?_⟩
    obtain ⟨k, rfl⟩ : ∃ j, k = j + 2 := ⟨k - 2, by omega⟩
    simp only [http_heads.l0, http_heads.j3, hd]
    rw [if_neg (by omega)]
    by_cases h1 : h = 1
    · subst h1
      rw [if_pos (by omega)]
      by_cases hc1 : c ≤ 1
      · rw [if_neg (by simp; omega), if_pos (show (1 : Nat) = 1 ∧ c ≤ 1 from ⟨rfl, hc1⟩)]
        by_cases hb : n > 8192
        · rw [if_pos (show (n : Int) > 8192 by omega), if_pos hb]; rfl
        · rw [if_neg (show ¬ (n : Int) > 8192 by omega), if_neg hb]; rfl
      · rw [if_pos (by simp; omega), if_neg (fun x => hc1 x.2)]; rfl
    · rw [if_neg (by omega), if_pos trivial, if_neg (fun x => h1 x.1)]; rfl
  | succ d ih =>
    intro i n h c cl hd' hi hh hc
    have hlt : i < ls.length := by omega
    have e64 := up1 (i := i) (by omega)
    have eh := up1 (i := h) (by omega)
    have ec := up1 (i := c) (by omega)
    rw [List.drop_eq_getElem_cons hlt, hd_cons]
    have hs := hls _ (List.getElem_mem hlt)
    have e1 := rdOf_at ls i hlt
    generalize ls[i] = s at hs e1 ⊢
    have hcut := cut_eq s hs
    have hlen : ((ls.map ba).length : Int) = (ls.length : Int) := by rw [List.length_map]
    unfold lineV
    cases hk : ix s 58 with
    | none =>
      rw [hk] at hcut
      refine ⟨2, fun k hk => ?_⟩
      obtain ⟨k, rfl⟩ : ∃ j, k = j + 2 := ⟨k - 2, by omega⟩
      simp only [http_heads.l0]
      rw [if_pos (by omega), if_pos (by omega), if_pos (by omega), e1, hcut, Option.bind_some, if_neg (by simp), hj1_no]; rfl
    | some w =>
      rw [hk] at hcut
      have hnl : (s.take w).length ≤ 2048 := by rw [List.length_take]; omega
      have hvl : (trimV (s.drop (w + 1))).length ≤ 2048 := by
        have := trim_le (s.drop (w + 1))
        rw [List.length_drop] at this; omega
      have htr := htrim_eq (s.drop (w + 1)) (by rw [List.length_drop]; omega)
      obtain ⟨K1, h1⟩ := token_ev (s.take w) (by omega)
      dsimp only at hcut h1 ⊢
      generalize s.take w = nm at *
      generalize trimV (s.drop (w + 1)) = v at *
      by_cases ht : tokB nm = true
      · have key : ∀ R : HR, (v.all charOk = true → R = hdR m q e (lineR s (ls.drop (i + 1)) (nm.map tb) v n h c cl)) → (v.all charOk = false → R = (0, 400, m, q, e, cl)) → Ev (fun k => http_heads.l1 k (n : Int) (h : Int) (c : Int) (ba nm) (ba v) (ls.map ba) (ls.length : Int) (i : Int) (v.length : Int) 0 m q e cl) R := by
          intro R hR1 hR0
          refine hchars _ _ _ _ v _ _ _ _ _ _ _ hvl R (fun ha => ?_) hR0 _ 0 rfl (by omega) rfl
          rw [hR1 ha]
          have hsm := small_eq nm hnl
          have mh : Lib.mapD http_small.lo nm = ([104, 111, 115, 116] : List UInt8) ↔ nm.map tb = hostT := mapD_small nm hostT ap2
          have mc : Lib.mapD http_small.lo nm = ([99, 111, 110, 116, 101, 110, 116, 45, 108, 101, 110, 103, 116, 104] : List UInt8) ↔ nm.map tb = clenT := mapD_small nm clenT ap3
          have mt : Lib.mapD http_small.lo nm = ([116, 114, 97, 110, 115, 102, 101, 114, 45, 101, 110, 99, 111, 100, 105, 110, 103] : List UInt8) ↔ nm.map tb = tencT := mapD_small nm tencT ap4
          have mo : Lib.mapD http_small.lo nm = ([99, 111, 110, 110, 101, 99, 116, 105, 111, 110] : List UInt8) ↔ nm.map tb = connT := mapD_small nm connT ap5
          unfold lineR
          by_cases g1 : nm.map tb = hostT
          · rw [if_pos g1]
            refine Ev.step (fun k => ?_) (ih (i + 1) n (h + 1) c cl (by omega) (by omega) (by omega) (by omega))
            simp only [http_heads.l1]
            rw [if_neg (by omega), hsm, Option.bind_some, ba_list, if_pos (mh.2 g1), eh, e64]
          · rw [if_neg g1]
            have g1' := fun x => g1 (mh.1 x)
            by_cases g2 : nm.map tb = clenT
            · rw [if_pos g2]
              cases hv : lenV v with
              | some a =>
                obtain ⟨a1, a2, a3, a4⟩ := lenV_some hv
                have hat := atoi_ok v hvl a1
                refine Ev.step (fun k => ?_) (ih (i + 1) a h (c + 1) cl (by omega) (by omega) (by omega) (by omega))
                simp only [http_heads.l1]
                have hit : strconv_Itoa.f (a : Int) = some (ba v) := by
                  unfold strconv_Itoa.f
                  rw [if_pos ⟨by omega, by omega⟩, a2]; rfl
                rw [if_neg (by omega), hsm, Option.bind_some, ba_list, if_neg g1', if_pos (mc.2 g2), hat, Option.bind_some, if_pos (show ((a : Int), (none : Option Int)).2.isNone = true from rfl), ba_size, if_neg (by omega), if_neg (show ¬ (a : Int) < 0 by omega), hit, Option.bind_some, if_pos rfl, ec, e64]
              | none =>
                dsimp only
                refine ev_some fun k => ?_
                simp only [http_heads.l1]
                rw [if_neg (by omega), hsm, Option.bind_some, ba_list, if_neg g1', if_pos (mc.2 g2)]
                by_cases hok : ∃ a, Lib.atoiAll v = .ok a
                · obtain ⟨a, ha⟩ := hok
                  rw [atoi_ok v hvl ha, Option.bind_some, if_pos (show (a, (none : Option Int)).2.isNone = true from rfl), ba_size]
                  dsimp only
                  by_cases h9 : (v.length : Int) > 9
                  · rw [if_pos h9]; rfl
                  · rw [if_neg h9]
                    by_cases hz : a < 0
                    · rw [if_pos hz]; rfl
                    · rw [if_neg hz]
                      have hne := lenV_none hv ha (by omega) (by omega)
                      have hit : strconv_Itoa.f a = some (ba (Lib.itoa a)) := by
                        unfold strconv_Itoa.f
                        have hr := Lib.atoiAll_bounds ha
                        rw [if_pos ⟨by omega, by omega⟩]; rfl
                      rw [hit, Option.bind_some, ba_list, ba_list, if_neg hne]; rfl
                · obtain ⟨a, b, hat⟩ := atoi_no v hvl (fun a ha => hok ⟨a, ha⟩)
                  rw [hat, Option.bind_some, if_neg (by simp)]; rfl
            · rw [if_neg g2]
              have g2' := fun x => g2 (mc.1 x)
              by_cases g3 : nm.map tb = tencT
              · rw [if_pos g3]
                refine ev_some fun k => ?_
                simp only [http_heads.l1]
                rw [if_neg (by omega), hsm, Option.bind_some, ba_list, if_neg g1', if_neg g2', if_pos (mt.2 g3)]; rfl
              · rw [if_neg g3]
                have g3' := fun x => g3 (mt.1 x)
                by_cases g4 : nm.map tb = connT
                · rw [if_pos g4]
                  refine Ev.step (fun k => ?_) (ih (i + 1) n h c (cl || decide (v.map tb = closeT)) (by omega) (by omega) (by omega) (by omega))
                  simp only [http_heads.l1]
                  rw [if_neg (by omega), hsm, Option.bind_some, ba_list, if_neg g1', if_neg g2', if_neg g3', if_pos (mo.2 g4), e64]
                  cases cl with
                  | true => rw [if_pos rfl, Bool.true_or]
                  | false =>
                    rw [if_neg (by simp), small_eq v hvl, Option.bind_some, ba_list, Bool.false_or]
                    have ml := mapD_small v closeT ap6
                    have : (Lib.mapD http_small.lo v == [99, 108, 111, 115, 101]) = decide (v.map tb = closeT) := by
                      rw [Bool.eq_iff_iff, decide_eq_true_iff, ← ml]
                      show _ ↔ Lib.mapD http_small.lo v = [99, 108, 111, 115, 101]
                      simp
                    rw [this]
                · rw [if_neg g4]
                  have g4' := fun x => g4 (mo.1 x)
                  refine Ev.step (fun k => ?_) (ih (i + 1) n h c cl (by omega) (by omega) (by omega) (by omega))
                  simp only [http_heads.l1]
                  rw [if_neg (by omega), hsm, Option.bind_some, ba_list, if_neg g1', if_neg g2', if_neg g3', if_neg g4', e64]
        have fin : ∀ R : HR, (v.all charOk = true → R = hdR m q e (lineR s (ls.drop (i + 1)) (nm.map tb) v n h c cl)) → (v.all charOk = false → R = (0, 400, m, q, e, cl)) → Ev (fun k => http_heads.l0 k (n : Int) (h : Int) (c : Int) (ls.map ba) (ls.length : Int) (i : Int) m q e cl) R := by
          intro R hR1 hR0
          obtain ⟨K2, h2⟩ := key R hR1 hR0
          dsimp only at h2
          refine ⟨K1 + K2 + 2, fun k hk => ?_⟩
          obtain ⟨k, rfl⟩ : ∃ j, k = j + 2 := ⟨k - 2, by omega⟩
          simp only [http_heads.l0]
          rw [if_pos (by omega), if_pos (by omega), if_pos (by omega), e1, hcut, Option.bind_some]
          dsimp only
          rw [if_pos rfl, h1 _ (by omega), Option.bind_some, ht]
          simp only [http_heads.j1]
          rw [if_neg (by simp), htr, Option.bind_some, ba_size]
          exact h2 k (by omega)
        by_cases ha : v.all charOk = true
        · rw [if_pos ⟨ht, ha⟩]
          exact fin _ (fun _ => rfl) (fun h => by rw [ha] at h; cases h)
        · rw [if_neg (fun x => ha x.2)]
          exact fin _ (fun h => absurd h ha) (fun _ => rfl)
      · rw [if_neg (fun x => ht x.1)]
        refine ⟨K1 + 2, fun k hk => ?_⟩
        obtain ⟨k, rfl⟩ : ∃ j, k = j + 2 := ⟨k - 2, by omega⟩
        simp only [http_heads.l0]
        rw [if_pos (by omega), if_pos (by omega), if_pos (by omega), e1, hcut, Option.bind_some]
        dsimp only
        rw [if_pos rfl, h1 _ (by omega), Option.bind_some, Bool.eq_false_iff.2 ht]
        exact hj1_no _ _ _ _ _ _ _ _ _ _ _ _ _
theorem heads_ev (ls : List Tx) (hls : ∀ s ∈ ls, s.length ≤ 2048) (hn : ls.length ≤ 40) (m q e : ByteArray) (cl : Bool) : Ev (fun k => http_heads.f k m q e cl (ls.map ba)) (hdR m q e (hd ls 0 0 0 cl)) := by
  have h := heads_loop ls hls hn m q e _ 0 0 0 0 cl rfl (by omega) (by omega) (by omega)
  rw [List.drop_zero] at h
  refine Ev.congr (fun k => ?_) h
  simp only [http_heads.f]
  rw [List.length_map]; rfl

end Go.Proofs.YtpigloohccpfiaaDoor.Pure
