/- On the printed functions of MatchOrder: what each of them answers, in plain words. -/
import Derived.Test.YtpkjfpapjcmhdaaDoorPMatchOrderx
import Derived.Test.YtpkjfpapjcmhdaaDoorMTok
import Derived.Test.YtpkjfpapjcmhdaaDoorQMatchOrder
namespace Go.Proofs.YtpkjfpapjcmhdaaDoor.Pure
open Go.RowKit Go.Proofs.YtpkjfpapjcmhdaaDoor.G Go.Proofs.YtpkjfpapjcmhdaaDoor.PMatchOrder Go.Proofs.YtpkjfpapjcmhdaaDoorW.PrintWords Go.Proofs.YtpkjfpapjcmhdaaDoorW.PrintLast Go.Proofs.YtpkjfpapjcmhdaaDoorW.PrintMore Go.Proofs.YtpkjfpapjcmhdaaDoor.M
set_option linter.unusedVariables false
set_option linter.unusedSimpArgs false

theorem ev_some {α : Type} {g : Nat → Option α} {r : α} (h : ∀ k, g (k + 1) = some r) : Ev g r := Ev.step (f := fun _ => some r) h (Ev.now r)
theorem ev_mono {α : Type} {g : Nat → Option α} {r : α} (hg : ∀ k, LeO (g k) (g (k + 1))) {k : Nat} (h : g k = some r) : Ev g r := Ev.of hg h
theorem dec_at (s : ByteArray) (i : Nat) (h : i < s.size) : Lib.decodeGo (s.extract i s.size) = Lib.decodeL (s.data.toList.drop i) := by
  have e : (s.extract i s.size).data.toList = s.data.toList.drop i := by
    rw [Lib.extract_data, List.take_of_length_le (by rw [List.length_drop, ← Lib.size_eq]; exact Nat.le_refl _)]
  have e2 : s.extract i s.size = ⟨(s.data.toList.drop i).toArray⟩ := by
    rw [← e]
  have hz : (s.extract i s.size).size ≠ 0 := by
    rw [Lib.size_eq, e, List.length_drop, ← Lib.size_eq]; omega
  unfold Lib.decodeGo
  rw [if_neg hz, e2]
  rfl
def lowR (b : Nat) : Int := if 65 ≤ b ∧ b ≤ 90 then (b : Int) + 32 else (b : Int)
theorem letter_low : ∀ b : Fin 128, words_letter.f 1 (b.val : Int) 1 = some (lowR b.val, decide (M.low (UInt8.ofNat b.val) ≠ [])) := by decide +kernel
theorem enc_low : ∀ b : Fin 128, M.low (UInt8.ofNat b.val) ≠ [] → (Utf8.encode (lowR b.val)).data.toList = M.low (UInt8.ofNat b.val) := by decide +kernel
theorem letter_err1 : words_letter.f 1 65533 1 = some (65533, false) := by decide +kernel
theorem letter_err3 : words_letter.f 1 65533 3 = some (65533, true) := by decide +kernel
theorem letter_big {R n : Int} (h0 : 128 ≤ R) (h1 : R ≠ 65533) : words_letter.f 1 R n = some (R, true) := by
  unfold words_letter.f
  rw [if_pos (by omega)]
  simp only [words_letter.j0]
  rw [if_neg (by simp; omega), if_pos (by omega), if_neg (by omega), if_pos (by omega), if_neg (by omega), if_pos (by omega), if_neg h1]
/-- The program's letter at the first character of a text. -/
theorem letter_ev (l : List UInt8) (hne : l ≠ []) : (Lib.decodeL l).2 = (M.tok l).2 ∧ ∃ r : Int, Ev (fun k => words_letter.f k ((Lib.decodeL l).1 : Int) ((Lib.decodeL l).2 : Int)) (r, decide ((M.tok l).1 ≠ [])) ∧ ((M.tok l).1 ≠ [] → (Utf8.encode r).data.toList = (M.tok l).1) := by
  match l, hne with
  | b :: t, _ =>
    have hb256 := b.toNat_lt
    by_cases hb : b.toNat < 128
    · have hd := Lib.decodeL_ascii b t hb
      have ht : M.tok (b :: t) = (M.low b, 1) := by simp [M.tok, hb]
      rw [hd, ht]
      have hl := letter_low ⟨b.toNat, hb⟩
      have he := enc_low ⟨b.toNat, hb⟩
      simp only [UInt8.ofNat_toNat] at hl he
      exact ⟨rfl, lowR b.toNat, ev_mono (fun k => words_letter.mono _ _ k) hl, he⟩
    · have hN := Lib.decodeL_N (b :: t)
      have k0 : ((b :: t).getD 0 0).toNat = b.toNat := rfl
      rw [k0] at hN
      by_cases hd : (Lib.decodeL (b :: t)).1 = 65533 ∧ (Lib.decodeL (b :: t)).2 = 1
      · have ht : M.tok (b :: t) = ([], 1) := by simp [M.tok, hb, hd]
        rw [ht, hd.1, hd.2]
        exact ⟨rfl, 65533, ev_mono (fun k => words_letter.mono _ _ k) letter_err1, fun h => absurd rfl h⟩
      · have ht : M.tok (b :: t) = ((b :: t).take (Lib.decodeL (b :: t)).2, (Lib.decodeL (b :: t)).2) := by simp only [M.tok]; rw [if_neg hb, if_neg hd]
        have hw := Lib.decodeL_width (b :: t)
        have hne' : (M.tok (b :: t)).1 ≠ [] := by
          rw [ht]; intro h; have := congrArg List.length h; rw [List.length_take] at this; simp at this; omega
        have hv : (Lib.decodeL (b :: t)).1 < 55296 ∨ (57343 < (Lib.decodeL (b :: t)).1 ∧ (Lib.decodeL (b :: t)).1 ≤ 1114111) := by
          rw [hN]; exact Lib.decodeN_valid _ _ _ _ _ hb256
        have hle := Lib.decodeL_rune (b :: t)
        have hbig : 128 ≤ (Lib.decodeL (b :: t)).1 ∧ ((Lib.decodeL (b :: t)).1 = 65533 → (Lib.decodeL (b :: t)).2 = 3) := by
          rw [hN] at hd ⊢
          rcases Lib.decodeN_shape (b :: t).length b.toNat ((b :: t).getD 1 0).toNat ((b :: t).getD 2 0).toNat ((b :: t).getD 3 0).toNat with ⟨c, e⟩ | ⟨c1, c2, c3, cv, e⟩ | ⟨c1, c2, c3, c4, cv, cs, e⟩ | ⟨c1, c2, c3, c4, c5, cv, cw, e⟩ | e
          · omega
          · rw [e]; exact ⟨by simp only; omega, by simp only; omega⟩
          · rw [e]; exact ⟨by simp only; omega, fun _ => rfl⟩
          · rw [e]; exact ⟨by simp only; omega, by simp only; omega⟩
          · rw [e] at hd; exact absurd ⟨rfl, rfl⟩ hd
        have henc : (Utf8.encode ((Lib.decodeL (b :: t)).1 : Int)).data.toList = (M.tok (b :: t)).1 := by
          rw [M.utf8_encode_eq hle (by omega), Lib.encode_decode (b :: t) (by simp) hd, ht]
        refine ⟨by rw [ht], ((Lib.decodeL (b :: t)).1 : Int), ?_, fun _ => henc⟩
        rw [show decide ((M.tok (b :: t)).1 ≠ []) = true from decide_eq_true hne']
        by_cases h3 : (Lib.decodeL (b :: t)).1 = 65533
        · rw [h3, hbig.2 h3]
          exact ev_mono (fun k => words_letter.mono _ _ k) letter_err3
        · exact ev_mono (fun k => words_letter.mono _ _ k) (letter_big (by omega) (by omega))

def s34 (w : M.Wd) : S34 := ⟨⟨w.text.toArray⟩, (w.st : Int), (w.en : Int)⟩
theorem rd34_last (L : List S34) (a : S34) : rd_T34 (L ++ [a]) (L.length : Int) = a := by
  unfold rd_T34
  rw [Int.toNat_natCast, List.getD_eq_getElem?_getD, List.getElem?_append_right (Nat.le_refl _), Nat.sub_self]
  rfl
theorem set34_last (L : List S34) (a b : S34) : (L ++ [a]).set L.length b = L ++ [b] := by simp
theorem last64 (L : List S34) (a : S34) (h : L.length ≤ 8388608) : wrap64 (((L ++ [a]).length : Int) - 1) = (L.length : Int) := by
  rw [List.length_append, List.length_singleton, M.w64 (by omega) (by omega)]; omega
theorem app_eq (a t : List UInt8) (e : ByteArray) (h : e.data.toList = t) : (⟨a.toArray⟩ : ByteArray) ++ e = ⟨(a ++ t).toArray⟩ := by
  apply ByteArray.ext
  rw [ByteArray.data_append]
  apply Array.toList_inj.1
  simp [h]
theorem toksF_cons (f : Nat) (l : List UInt8) (h : l ≠ []) : M.toksF (f + 1) l = M.tok l :: M.toksF f (l.drop (M.tok l).2) := by
  cases l with
  | nil => exact absurd rfl h
  | cons b t => rfl
theorem words_loop (s : ByteArray) (hs : s.size ≤ 8388608) : ∀ (f i : Nat) (done : List M.Wd) (cur : Option M.Wd), s.size - i ≤ f → i ≤ s.size → done.length + cur.toList.length ≤ i → (∀ c, cur = some c → c.text.length ≤ i) →
    Ev (fun k => words_Words.l0 k s ((done ++ cur.toList).map s34) cur.isSome (i : Int)) ((done ++ M.gw (M.toksF f (s.data.toList.drop i)) i cur).map s34) := by
  intro f
  induction f with
  | zero =>
    intro i done cur hf hi hd hc
    exact ev_some (fun k => by simp only [words_Words.l0]; rw [if_neg (by omega)]; simp [M.toksF, M.gw])
  | succ f ih =>
    intro i done cur hf hi hd hc
    by_cases hlt : i < s.size
    · have hsz := Lib.size_eq s
      have hne : s.data.toList.drop i ≠ [] := by
        intro h; have := congrArg List.length h; rw [List.length_drop] at this; simp at this; omega
      obtain ⟨hn, r, ⟨K, hK⟩, henc⟩ := letter_ev _ hne
      have hdec := dec_at s i hlt
      have hpos := M.tok_pos (s.data.toList.drop i)
      have hle := M.tok_le _ hne
      have htl := M.tok_len (s.data.toList.drop i)
      have h4 := M.tok_le4 (s.data.toList.drop i)
      rw [List.length_drop, ← hsz] at hle
      rw [toksF_cons f _ hne, List.drop_drop]
      generalize M.tok (s.data.toList.drop i) = tk at *
      obtain ⟨tx, n⟩ := tk
      simp only at hn hpos hle htl h4 henc hK ⊢
      have e64 : wrap64 ((i : Int) + (n : Int)) = ((i + n : Nat) : Int) := by rw [M.w64 (by omega) (by omega)]; omega
      have hlen : ((done ++ cur.toList).map s34).length ≤ i := by simp; omega
      by_cases htx : tx = []
      · have hb : decide (tx ≠ []) = false := by simp [htx]
        rw [hb] at hK
        obtain ⟨K', hK'⟩ := ih (i + n) (done ++ cur.toList) none (by omega) (by omega) (by simp; omega) (by simp)
        refine ⟨K + K' + 1, fun k hk => ?_⟩
        obtain ⟨k, rfl⟩ : ∃ j, k = j + 1 := ⟨k - 1, by omega⟩
        have h2 := hK' k (by omega)
        simp only [words_Words.l0]
        rw [if_pos (by omega), if_pos (by omega), if_pos (by omega)]
        simp only [utf8_DecodeRuneInString.f, Option.bind_some, Int.toNat_natCast]
        rw [hdec, hK k (by omega), Option.bind_some, if_neg (by simp), hn, e64]
        simp only [Option.toList_none, List.append_nil, Option.isSome_none] at h2
        simp only [M.gw]
        rw [if_pos htx, h2, List.append_assoc]
      · have hb : decide (tx ≠ []) = true := by simp [htx]
        have henc := henc htx
        have htl := htl htx
        rw [hb] at hK
        have hes : (Utf8.encode r).size = n := by rw [Lib.size_eq, henc, htl]
        cases cur with
        | none =>
          obtain ⟨K', hK'⟩ := ih (i + n) done (some ⟨tx, i, i + n⟩) (by omega) (by omega) (by simp at hd ⊢; omega) (by intro c hc; cases hc; simp only; omega)
          refine ⟨K + K' + 1, fun k hk => ?_⟩
          obtain ⟨k, rfl⟩ : ∃ j, k = j + 1 := ⟨k - 1, by omega⟩
          have h2 := hK' k (by omega)
          simp only [words_Words.l0]
          rw [if_pos (by omega), if_pos (by omega), if_pos (by omega)]
          simp only [utf8_DecodeRuneInString.f, Option.bind_some, Int.toNat_natCast]
          rw [hdec, hK k (by omega), Option.bind_some, if_pos rfl, if_neg (by simp), if_pos (by omega)]
          simp only [Option.toList_none, List.append_nil] at hlen ⊢
          simp only [last64 _ _ (show ((done.map s34)).length ≤ 8388608 by omega)]
          rw [if_pos (by omega), if_pos (by simp; omega)]
          simp only [rd34_last, set34_last, Int.toNat_natCast, Option.bind_some]
          rw [if_pos (by rw [hes]; show 0 + n ≤ 9223372036854775807; omega)]
          have ea := app_eq [] tx _ henc
          simp only [List.nil_append] at ea
          rw [hn, e64, show ((⟨#[]⟩ : ByteArray) ++ Utf8.encode r) = ⟨tx.toArray⟩ from ea]
          simp only [Option.toList_some, List.map_append, List.map_cons, List.map_nil, Option.isSome_some] at h2
          simp only [M.gw]
          rw [if_neg htx]
          simpa [s34] using h2
        | some c =>
          have hct := hc c rfl
          simp only [Option.toList_some, List.length_singleton] at hd
          by_cases h32 : c.text.length + n > 32
          · obtain ⟨K', hK'⟩ := ih (i + n) (done ++ [c]) (some ⟨tx, i, i + n⟩) (by omega) (by omega) (by simp; omega) (by intro c hc; cases hc; simp only; omega)
            refine ⟨K + K' + 1, fun k hk => ?_⟩
            obtain ⟨k, rfl⟩ : ∃ j, k = j + 1 := ⟨k - 1, by omega⟩
            have h2 := hK' k (by omega)
            simp only [words_Words.l0]
            rw [if_pos (by omega), if_pos (by omega), if_pos (by omega)]
            simp only [utf8_DecodeRuneInString.f, Option.bind_some, Int.toNat_natCast]
            rw [hdec, hK k (by omega), Option.bind_some, if_pos rfl, if_pos (by simp)]
            simp only [Option.toList_some, List.map_append, List.map_cons, List.map_nil] at hlen ⊢
            have hl1 : (done.map s34).length ≤ 8388608 := by simp at hlen ⊢; omega
            have hl2 : (done.map s34 ++ [s34 c]).length ≤ 8388608 := by simp at hlen ⊢; omega
            simp only [last64 _ _ hl1]
            rw [if_pos (by omega), if_pos (by simp; omega)]
            simp only [rd34_last]
            rw [if_pos (by
              show wrap64 (((⟨c.text.toArray⟩ : ByteArray).size : Int) + _) > 32
              rw [hn, show (⟨c.text.toArray⟩ : ByteArray).size = c.text.length from by simp [ByteArray.size], M.w64 (by omega) (by omega)]; omega), if_pos (by omega)]
            simp only [last64 _ _ hl2]
            rw [if_pos (by omega), if_pos (by simp; try omega)]
            simp only [rd34_last, set34_last, Int.toNat_natCast, Option.bind_some]
            rw [if_pos (by rw [hes]; show 0 + n ≤ 9223372036854775807; omega)]
            have ea := app_eq [] tx _ henc
            simp only [List.nil_append] at ea
            rw [hn, e64, show ((⟨#[]⟩ : ByteArray) ++ Utf8.encode r) = ⟨tx.toArray⟩ from ea]
            simp only [Option.toList_some, List.map_append, List.map_cons, List.map_nil, Option.isSome_some] at h2
            simp only [M.gw]
            rw [if_neg htx, if_pos h32]
            simpa [s34] using h2
          · obtain ⟨K', hK'⟩ := ih (i + n) done (some ⟨c.text ++ tx, c.st, i + n⟩) (by omega) (by omega) (by simp; omega) (by intro c hc; cases hc; simp only [List.length_append]; omega)
            refine ⟨K + K' + 1, fun k hk => ?_⟩
            obtain ⟨k, rfl⟩ : ∃ j, k = j + 1 := ⟨k - 1, by omega⟩
            have h2 := hK' k (by omega)
            simp only [words_Words.l0]
            rw [if_pos (by omega), if_pos (by omega), if_pos (by omega)]
            simp only [utf8_DecodeRuneInString.f, Option.bind_some, Int.toNat_natCast]
            rw [hdec, hK k (by omega), Option.bind_some, if_pos rfl, if_pos (by simp)]
            simp only [Option.toList_some, List.map_append, List.map_cons, List.map_nil] at hlen ⊢
            have hl1 : (done.map s34).length ≤ 8388608 := by simp at hlen ⊢; omega
            simp only [last64 _ _ hl1]
            rw [if_pos (by omega), if_pos (by simp; omega)]
            simp only [rd34_last]
            have hcs : (s34 c).f0.size = c.text.length := by simp [s34, ByteArray.size]
            rw [if_neg (by rw [hn, hcs, M.w64 (by omega) (by omega)]; omega), if_pos (by rw [hes, hcs]; omega)]
            simp only [rd34_last, set34_last, Int.toNat_natCast, Option.bind_some]
            have ea := app_eq c.text tx _ henc
            rw [hn, e64, show ((s34 c).f0 ++ Utf8.encode r) = ⟨(c.text ++ tx).toArray⟩ from ea]
            simp only [Option.toList_some, List.map_append, List.map_cons, List.map_nil, Option.isSome_some] at h2
            simp only [M.gw]
            rw [if_neg htx, if_neg h32]
            simpa [s34] using h2
    · obtain rfl : i = s.size := by omega
      have he : s.data.toList.drop s.size = [] := by rw [Lib.size_eq]; simp
      rw [he]
      exact ev_some (fun k => by simp only [words_Words.l0]; rw [if_neg (by omega)]; simp [M.toksF, M.gw])
theorem words_ev (s : ByteArray) (hs : s.size ≤ 8388608) : Ev (fun k => words_Words.f k s) ((M.wds s.data.toList).map s34) := by
  have h := words_loop s hs s.size 0 [] none (by omega) (by omega) (by simp) (by simp)
  refine Ev.congr (f := fun k => words_Words.l0 k s [] false 0) (fun k => rfl) ?_
  simpa [M.wds, M.toks, ← Lib.size_eq] using h

theorem awake_ev : Ev (fun k => fascinelaw07_awake.f k) true := ev_mono (fun k => fascinelaw07_awake.mono k) (k := 60) (by decide +kernel)

theorem less_iff : ∀ (a b : List UInt8), Op.bytesLess a b = true ↔ a < b
  | [], [] => by simp [Op.bytesLess]
  | [], _ :: _ => by simp [Op.bytesLess]
  | _ :: _, [] => by simp [Op.bytesLess]
  | x :: a, y :: b => by
    simp only [Op.bytesLess, List.cons_lt_cons_iff]
    have ih := less_iff a b
    by_cases h : x < y
    · simp [h]
    · by_cases h2 : x = y
      · subst h2; simp [ih]
      · simp [h, h2]
theorem rdB_nat {l : List ByteArray} {j : Nat} (h : j < l.length) : rdOf ByteArray.empty l (j : Int) = l[j] := by
  unfold rdOf
  rw [Int.toNat_natCast, List.getD_eq_getElem?_getD, List.getElem?_eq_getElem h]
  rfl
theorem chrs_toList (x : ByteArray) : x.toList = chrs x := by rw [Lib.toList_data]; rfl

def ordL (p : List UInt8) (t : Int) (q : List UInt8) (u : Int) : Int := if t < u then -1 else if u < t then 1 else if p < q then -1 else if p = q then 0 else 1
theorem tri (p q : List UInt8) (h1 : ¬ p < q) (h2 : ¬ p = q) : q < p := by
  rcases List.le_iff_lt_or_eq.1 (List.not_lt.1 h1) with h | h
  · exact h
  · exact absurd h.symm h2
theorem ordL_neg (p : List UInt8) (t : Int) (q : List UInt8) (u : Int) : ordL p t q u < 0 ↔ (t < u ∨ t = u ∧ p < q) := by
  unfold ordL
  by_cases h1 : t < u
  · simp [h1]
  · by_cases h2 : u < t
    · rw [if_neg h1, if_pos h2]; constructor
      · intro h; omega
      · rintro (h | ⟨h, _⟩) <;> omega
    · rw [if_neg h1, if_neg h2]
      by_cases h3 : p < q
      · rw [if_pos h3]; exact ⟨fun _ => .inr ⟨by omega, h3⟩, fun _ => by omega⟩
      · rw [if_neg h3]
        constructor
        · intro h; split at h <;> omega
        · rintro (h | ⟨_, h⟩)
          · omega
          · exact absurd h h3
theorem ordL_pos (p : List UInt8) (t : Int) (q : List UInt8) (u : Int) : ordL p t q u > 0 ↔ (u < t ∨ u = t ∧ q < p) := by
  unfold ordL
  by_cases h1 : t < u
  · rw [if_pos h1]; constructor
    · intro h; omega
    · rintro (h | ⟨h, _⟩) <;> omega
  · by_cases h2 : u < t
    · rw [if_neg h1, if_pos h2]; exact ⟨fun _ => .inl h2, fun _ => by omega⟩
    · rw [if_neg h1, if_neg h2]
      by_cases h3 : p < q
      · rw [if_pos h3]
        constructor
        · intro h; omega
        · rintro (h | ⟨_, h⟩)
          · omega
          · exact absurd (List.lt_trans h h3) (List.lt_irrefl _)
      · rw [if_neg h3]
        by_cases h4 : p = q
        · rw [if_pos h4]
          subst h4
          constructor
          · intro h; omega
          · rintro (h | ⟨_, h⟩)
            · omega
            · exact absurd h (List.lt_irrefl _)
        · rw [if_neg h4]
          exact ⟨fun _ => .inr ⟨by omega, tri p q h3 h4⟩, fun _ => by omega⟩
theorem or_ev (a b : Int) : Ev (fun k => cmp_Or_int.f k [a, b]) (if a = 0 then b else a) := by
  refine ⟨3, fun k hk => ?_⟩
  obtain ⟨k, rfl⟩ : ∃ j, k = j + 3 := ⟨k - 3, by omega⟩
  have e0 : rd [a, b] 0 = a := rfl
  have e1 : rd [a, b] 1 = b := rfl
  have w1 : wrap64 (0 + 1) = 1 := by rw [M.w64 (by omega) (by omega)]; rfl
  have w2 : wrap64 (1 + 1) = 2 := by rw [M.w64 (by omega) (by omega)]; rfl
  have hl : (([a, b] : List Int).length : Int) = 2 := rfl
  simp only [cmp_Or_int.f, cmp_Or_int.l0, hl]
  rw [if_pos (show (0 : Int) < 2 by decide), if_pos (show (0 : Int) ≤ 0 by decide), if_pos (show (0 : Int) < 2 by decide), e0, w1, if_pos (show (1 : Int) < 2 by decide), if_pos (show (0 : Int) ≤ 1 by decide), if_pos (show (1 : Int) < 2 by decide), e1, w2, if_neg (show ¬ (2 : Int) < 2 by decide)]
  by_cases h : a = 0
  · rw [if_pos h, if_pos h]
    by_cases h2 : b = 0
    · rw [if_pos h2, h2]
    · rw [if_neg h2]
  · rw [if_neg h, if_neg h]
theorem cmpI (t u : Int) : cmp_Compare_int64.f t u = some (if t < u then -1 else if u < t then 1 else 0) := by
  simp only [cmp_Compare_int64.f, cmp_isNaN_int64.f, Option.bind_some]
  have h1 : (t != t) = false := by simp
  have h2 : (u != u) = false := by simp
  rw [h1, h2, if_neg (by decide), if_neg (by decide)]
  by_cases h : t < u
  · rw [if_pos h, if_pos h]
  · rw [if_neg h, if_neg h]
    by_cases h' : u < t
    · rw [if_pos h', if_pos h']
    · rw [if_neg h', if_neg h']
theorem cmpS (i j : ByteArray) : cmp_Compare_string.f i j = some (if chrs i < chrs j then -1 else if chrs i = chrs j then 0 else 1) := by
  simp only [cmp_Compare_string.f, cmp_isNaN_string.f, Option.bind_some]
  have h1 : (i.toList != i.toList) = false := by simp
  have h2 : (j.toList != j.toList) = false := by simp
  rw [h1, h2, if_neg (by decide), if_neg (by decide), chrs_toList, chrs_toList]
  by_cases h : chrs i < chrs j
  · rw [if_pos ((less_iff _ _).2 h), if_pos h]
  · have hb : Op.bytesLess (chrs i) (chrs j) = false := Bool.eq_false_iff.2 (fun h' => h ((less_iff _ _).1 h'))
    rw [hb, if_neg (by decide), if_neg h, Bool.false_or]
    by_cases h' : chrs i = chrs j
    · rw [if_pos (beq_iff_eq.2 h'), if_pos h']
    · rw [if_neg (fun e => h' (beq_iff_eq.1 e)), if_neg h']
theorem order_ev (i : ByteArray) (t : Int) (s : ByteArray) (j : ByteArray) (u : Int) (s' : ByteArray) : Ev (fun k => match_Order.f k i t s j u s') (ordL (chrs i) t (chrs j) u) := by
  refine Ev.congr (f := fun k => (cmp_Or_int.f k [if t < u then -1 else if u < t then 1 else 0, if chrs i < chrs j then -1 else if chrs i = chrs j then 0 else 1]).bind fun x => some x) (fun k => ?_) (Ev.bind (or_ev _ _) ?_)
  · simp only [match_Order.f]
    rw [cmpI, cmpS, Option.bind_some, Option.bind_some]
  · refine ⟨0, fun k _ => ?_⟩
    dsimp only
    unfold ordL
    by_cases h1 : t < u
    · simp [h1]
    · by_cases h2 : u < t
      · simp [h1, h2]
      · simp [h1, h2]
theorem ahead_eq (i : ByteArray) (t : Int) (s : ByteArray) (j : ByteArray) (u : Int) (s' : ByteArray) : fascineref07_Ahead.f i t s j u s' = some (decide (t < u ∨ t = u ∧ chrs i < chrs j)) := by
  unfold fascineref07_Ahead.f
  by_cases h1 : t < u
  · rw [if_pos h1, decide_eq_true (.inl h1)]
  · rw [if_neg h1]
    by_cases h2 : t = u
    · rw [if_pos h2, chrs_toList, chrs_toList]
      congr 1
      by_cases h3 : chrs i < chrs j
      · rw [(less_iff _ _).2 h3, decide_eq_true (.inr ⟨h2, h3⟩)]
      · rw [Bool.eq_false_iff.2 (fun h' => h3 ((less_iff _ _).1 h'))]
        refine (decide_eq_false ?_).symm
        rintro (h | ⟨_, h⟩)
        · exact h1 h
        · exact h3 h
    · rw [if_neg h2]
      congr 1
      refine (decide_eq_false ?_).symm
      rintro (h | ⟨h, _⟩)
      · exact h1 h
      · exact h2 h
theorem ordL_trans (p q r : List UInt8) (t u v : Int) (h1 : ordL p t q u ≤ 0) (h2 : ordL q u r v ≤ 0) : ordL p t r v ≤ 0 := by
  have n1 : ¬ (u < t ∨ u = t ∧ q < p) := fun h => by have := (ordL_pos p t q u).2 h; omega
  have n2 : ¬ (v < u ∨ v = u ∧ r < q) := fun h => by have := (ordL_pos q u r v).2 h; omega
  refine Int.not_lt.1 (fun h => ?_)
  rcases (ordL_pos p t r v).1 h with h | ⟨h, h'⟩
  · exact n1 (.inl (by have : ¬ v < u := fun x => n2 (.inl x); omega))
  · have a1 : ¬ u < t := fun x => n1 (.inl x)
    have a2 : ¬ v < u := fun x => n2 (.inl x)
    have b1 : ¬ q < p := fun x => n1 (.inr ⟨by omega, x⟩)
    have b2 : ¬ r < q := fun x => n2 (.inr ⟨by omega, x⟩)
    rcases List.le_iff_lt_or_eq.1 (List.not_lt.1 b1) with c1 | c1
    · exact b2 (List.lt_trans h' c1)
    · exact b2 (c1 ▸ h')
theorem MatchOrder : MatchOrder_PureU := by
  intro i t x j u y l v z ht hu hv
  refine Ev.rounds ?_
  refine Ev.congr (fun k => rfl) (Ev.bind awake_ev ?_)
  obtain ⟨K1, h1⟩ := order_ev i t x j u y
  obtain ⟨K2, h2⟩ := order_ev j u y l v z
  obtain ⟨K3, h3⟩ := order_ev i t x l v z
  obtain ⟨K4, h4⟩ := order_ev j u y i t x
  refine ⟨K1 + K2 + K3 + K4, fun k hk => ?_⟩
  have g1 := h1 k (by omega)
  have g2 := h2 k (by omega)
  have g3 := h3 k (by omega)
  have g4 := h4 k (by omega)
  dsimp only at g1 g2 g3 g4 ⊢
  rw [if_pos rfl, g1, Option.bind_some, g2, Option.bind_some, g3, Option.bind_some, ahead_eq, Option.bind_some, ahead_eq, Option.bind_some, g4, Option.bind_some]
  have e1 : decide (ordL (chrs i) t (chrs j) u < 0) = decide (t < u ∨ t = u ∧ chrs i < chrs j) := decide_eq_decide.2 (ordL_neg _ _ _ _)
  have e2 : decide (ordL (chrs i) t (chrs j) u > 0) = decide (u < t ∨ u = t ∧ chrs j < chrs i) := decide_eq_decide.2 (ordL_pos _ _ _ _)
  have e3 : decide (ordL (chrs j) u (chrs i) t < 0) = decide (u < t ∨ u = t ∧ chrs j < chrs i) := decide_eq_decide.2 (ordL_neg _ _ _ _)
  rw [e1, e2, e3]
  simp only [bne_self_eq_false, Bool.false_eq_true, if_false]
  by_cases c1 : ordL (chrs i) t (chrs j) u ≤ 0
  · rw [if_pos c1]
    by_cases c2 : ordL (chrs j) u (chrs l) v ≤ 0
    · rw [if_pos c2, decide_eq_true (ordL_trans _ _ _ _ _ _ c1 c2)]
    · rw [if_neg c2]
  · rw [if_neg c1]

end Go.Proofs.YtpkjfpapjcmhdaaDoor.Pure
