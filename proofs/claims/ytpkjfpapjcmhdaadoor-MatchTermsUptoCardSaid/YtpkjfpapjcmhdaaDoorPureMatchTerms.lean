/- On the printed functions of MatchTerms: what each of them answers, in plain words. -/
import Derived.Test.YtpkjfpapjcmhdaaDoorPMatchTermsx
import Derived.Test.YtpkjfpapjcmhdaaDoorMTok
import Derived.Test.YtpkjfpapjcmhdaaDoorQMatchTerms
namespace Go.Proofs.YtpkjfpapjcmhdaaDoor.Pure
open Go.RowKit Go.Proofs.YtpkjfpapjcmhdaaDoor.G Go.Proofs.YtpkjfpapjcmhdaaDoor.PMatchTerms Go.Proofs.YtpkjfpapjcmhdaaDoorW.PrintWords Go.Proofs.YtpkjfpapjcmhdaaDoorW.PrintLast Go.Proofs.YtpkjfpapjcmhdaaDoorW.PrintMore Go.Proofs.YtpkjfpapjcmhdaaDoor.M
set_option linter.unusedVariables false
set_option linter.unusedSimpArgs false

theorem ev_some {α : Type} {g : Nat → Option α} {r : α} (h : ∀ k, g (k + 1) = some r) : Ev g r := Ev.step (f := fun _ => some r) h (Ev.now r)
theorem ev_mono {α : Type} {g : Nat → Option α} {r : α} (hg : ∀ k, LeO (g k) (g (k + 1))) {k : Nat} (h : g k = some r) : Ev g r := Ev.of hg h
theorem dec_at (s : ByteArray) (i : Nat) (h : i < s.size) : Lib.decodeGo (s.extract i s.size) = Lib.decodeL (s.data.toList.drop i) := by
  have e : (s.extract i s.size).data.toList = s.data.toList.drop i := by
    rw [Lib.extract_data, List.take_of_length_le (by rw [List.length_drop, ← Lib.size_eq]; exact Nat.le_refl _)]
  have e2 : s.extract i s.size = ⟨(s.data.toList.drop i).toArray⟩ := by
    rw [← e]
  have hz : (s.extract i s.size).size ≠ 0 := by
    rw [Lib.size_eq, e, List.length_drop, ← Lib.size_eq]; omega
  unfold Lib.decodeGo
  rw [if_neg hz, e2]
  rfl
def lowR (b : Nat) : Int := if 65 ≤ b ∧ b ≤ 90 then (b : Int) + 32 else (b : Int)
theorem letter_low : ∀ b : Fin 128, words_letter.f 1 (b.val : Int) 1 = some (lowR b.val, decide (M.low (UInt8.ofNat b.val) ≠ [])) := by decide +kernel
theorem enc_low : ∀ b : Fin 128, M.low (UInt8.ofNat b.val) ≠ [] → (Utf8.encode (lowR b.val)).data.toList = M.low (UInt8.ofNat b.val) := by decide +kernel
theorem letter_err1 : words_letter.f 1 65533 1 = some (65533, false) := by decide +kernel
theorem letter_err3 : words_letter.f 1 65533 3 = some (65533, true) := by decide +kernel
theorem letter_big {R n : Int} (h0 : 128 ≤ R) (h1 : R ≠ 65533) : words_letter.f 1 R n = some (R, true) := by
  unfold words_letter.f
  rw [if_pos (by omega)]
  simp only [words_letter.j0]
  rw [if_neg (by simp; omega), if_pos (by omega), if_neg (by omega), if_pos (by omega), if_neg (by omega), if_pos (by omega), if_neg h1]
/-- The program's letter at the first character of a text. -/
theorem letter_ev (l : List UInt8) (hne : l ≠ []) : (Lib.decodeL l).2 = (M.tok l).2 ∧ ∃ r : Int, Ev (fun k => words_letter.f k ((Lib.decodeL l).1 : Int) ((Lib.decodeL l).2 : Int)) (r, decide ((M.tok l).1 ≠ [])) ∧ ((M.tok l).1 ≠ [] → (Utf8.encode r).data.toList = (M.tok l).1) := by
  match l, hne with
  | b :: t, _ =>
    have hb256 := b.toNat_lt
    by_cases hb : b.toNat < 128
    · have hd := Lib.decodeL_ascii b t hb
      have ht : M.tok (b :: t) = (M.low b, 1) := by simp [M.tok, hb]
      rw [hd, ht]
      have hl := letter_low ⟨b.toNat, hb⟩
      have he := enc_low ⟨b.toNat, hb⟩
      simp only [UInt8.ofNat_toNat] at hl he
      exact ⟨rfl, lowR b.toNat, ev_mono (fun k => words_letter.mono _ _ k) hl, he⟩
    · have hN := Lib.decodeL_N (b :: t)
      have k0 : ((b :: t).getD 0 0).toNat = b.toNat := rfl
      rw [k0] at hN
      by_cases hd : (Lib.decodeL (b :: t)).1 = 65533 ∧ (Lib.decodeL (b :: t)).2 = 1
      · have ht : M.tok (b :: t) = ([], 1) := by simp [M.tok, hb, hd]
        rw [ht, hd.1, hd.2]
        exact ⟨rfl, 65533, ev_mono (fun k => words_letter.mono _ _ k) letter_err1, fun h => absurd rfl h⟩
      · have ht : M.tok (b :: t) = ((b :: t).take (Lib.decodeL (b :: t)).2, (Lib.decodeL (b :: t)).2) := by simp only [M.tok]; rw [if_neg hb, if_neg hd]
        have hw := Lib.decodeL_width (b :: t)
        have hne' : (M.tok (b :: t)).1 ≠ [] := by
          rw [ht]; intro h; have := congrArg List.length h; rw [List.length_take] at this; simp at this; omega
        have hv : (Lib.decodeL (b :: t)).1 < 55296 ∨ (57343 < (Lib.decodeL (b :: t)).1 ∧ (Lib.decodeL (b :: t)).1 ≤ 1114111) := by
          rw [hN]; exact Lib.decodeN_valid _ _ _ _ _ hb256
        have hle := Lib.decodeL_rune (b :: t)
        have hbig : 128 ≤ (Lib.decodeL (b :: t)).1 ∧ ((Lib.decodeL (b :: t)).1 = 65533 → (Lib.decodeL (b :: t)).2 = 3) := by
          rw [hN] at hd ⊢
          rcases Lib.decodeN_shape (b :: t).length b.toNat ((b :: t).getD 1 0).toNat ((b :: t).getD 2 0).toNat ((b :: t).getD 3 0).toNat with ⟨c, e⟩ | ⟨c1, c2, c3, cv, e⟩ | ⟨c1, c2, c3, c4, cv, cs, e⟩ | ⟨c1, c2, c3, c4, c5, cv, cw, e⟩ | e
          · omega
          · rw [e]; exact ⟨by simp only; omega, by simp only; omega⟩
          · rw [e]; exact ⟨by simp only; omega, fun _ => rfl⟩
          · rw [e]; exact ⟨by simp only; omega, by simp only; omega⟩
          · rw [e] at hd; exact absurd ⟨rfl, rfl⟩ hd
        have henc : (Utf8.encode ((Lib.decodeL (b :: t)).1 : Int)).data.toList = (M.tok (b :: t)).1 := by
          rw [M.utf8_encode_eq hle (by omega), Lib.encode_decode (b :: t) (by simp) hd, ht]
        refine ⟨by rw [ht], ((Lib.decodeL (b :: t)).1 : Int), ?_, fun _ => henc⟩
        rw [show decide ((M.tok (b :: t)).1 ≠ []) = true from decide_eq_true hne']
        by_cases h3 : (Lib.decodeL (b :: t)).1 = 65533
        · rw [h3, hbig.2 h3]
          exact ev_mono (fun k => words_letter.mono _ _ k) letter_err3
        · exact ev_mono (fun k => words_letter.mono _ _ k) (letter_big (by omega) (by omega))

def s34 (w : M.Wd) : S34 := ⟨⟨w.text.toArray⟩, (w.st : Int), (w.en : Int)⟩
theorem rd34_last (L : List S34) (a : S34) : rd_T34 (L ++ [a]) (L.length : Int) = a := by
  unfold rd_T34
  rw [Int.toNat_natCast, List.getD_eq_getElem?_getD, List.getElem?_append_right (Nat.le_refl _), Nat.sub_self]
  rfl
theorem set34_last (L : List S34) (a b : S34) : (L ++ [a]).set L.length b = L ++ [b] := by simp
theorem last64 (L : List S34) (a : S34) (h : L.length ≤ 8388608) : wrap64 (((L ++ [a]).length : Int) - 1) = (L.length : Int) := by
  rw [List.length_append, List.length_singleton, M.w64 (by omega) (by omega)]; omega
theorem app_eq (a t : List UInt8) (e : ByteArray) (h : e.data.toList = t) : (⟨a.toArray⟩ : ByteArray) ++ e = ⟨(a ++ t).toArray⟩ := by
  apply ByteArray.ext
  rw [ByteArray.data_append]
  apply Array.toList_inj.1
  simp [h]
theorem toksF_cons (f : Nat) (l : List UInt8) (h : l ≠ []) : M.toksF (f + 1) l = M.tok l :: M.toksF f (l.drop (M.tok l).2) := by
  cases l with
  | nil => exact absurd rfl h
  | cons b t => rfl
theorem words_loop (s : ByteArray) (hs : s.size ≤ 8388608) : ∀ (f i : Nat) (done : List M.Wd) (cur : Option M.Wd), s.size - i ≤ f → i ≤ s.size → done.length + cur.toList.length ≤ i → (∀ c, cur = some c → c.text.length ≤ i) →
    Ev (fun k => words_Words.l0 k s ((done ++ cur.toList).map s34) cur.isSome (i : Int)) ((done ++ M.gw (M.toksF f (s.data.toList.drop i)) i cur).map s34) := by
  intro f
  induction f with
  | zero =>
    intro i done cur hf hi hd hc
    exact ev_some (fun k => by simp only [words_Words.l0]; rw [if_neg (by omega)]; simp [M.toksF, M.gw])
  | succ f ih =>
    intro i done cur hf hi hd hc
    by_cases hlt : i < s.size
    · have hsz := Lib.size_eq s
      have hne : s.data.toList.drop i ≠ [] := by
        intro h; have := congrArg List.length h; rw [List.length_drop] at this; simp at this; omega
      obtain ⟨hn, r, ⟨K, hK⟩, henc⟩ := letter_ev _ hne
      have hdec := dec_at s i hlt
      have hpos := M.tok_pos (s.data.toList.drop i)
      have hle := M.tok_le _ hne
      have htl := M.tok_len (s.data.toList.drop i)
      have h4 := M.tok_le4 (s.data.toList.drop i)
      rw [List.length_drop, ← hsz] at hle
      rw [toksF_cons f _ hne, List.drop_drop]
      generalize M.tok (s.data.toList.drop i) = tk at *
      obtain ⟨tx, n⟩ := tk
      simp only at hn hpos hle htl h4 henc hK ⊢
      have e64 : wrap64 ((i : Int) + (n : Int)) = ((i + n : Nat) : Int) := by rw [M.w64 (by omega) (by omega)]; omega
      have hlen : ((done ++ cur.toList).map s34).length ≤ i := by simp; omega
      by_cases htx : tx = []
      · have hb : decide (tx ≠ []) = false := by simp [htx]
        rw [hb] at hK
        obtain ⟨K', hK'⟩ := ih (i + n) (done ++ cur.toList) none (by omega) (by omega) (by simp; omega) (by simp)
        refine ⟨K + K' + 1, fun k hk => ?_⟩
        obtain ⟨k, rfl⟩ : ∃ j, k = j + 1 := ⟨k - 1, by omega⟩
        have h2 := hK' k (by omega)
        simp only [words_Words.l0]
        rw [if_pos (by omega), if_pos (by omega), if_pos (by omega)]
        simp only [utf8_DecodeRuneInString.f, Option.bind_some, Int.toNat_natCast]
        rw [hdec, hK k (by omega), Option.bind_some, if_neg (by simp), hn, e64]
        simp only [Option.toList_none, List.append_nil, Option.isSome_none] at h2
        simp only [M.gw]
        rw [if_pos htx, h2, List.append_assoc]
      · have hb : decide (tx ≠ []) = true := by simp [htx]
        have henc := henc htx
        have htl := htl htx
        rw [hb] at hK
        have hes : (Utf8.encode r).size = n := by rw [Lib.size_eq, henc, htl]
        cases cur with
        | none =>
          obtain ⟨K', hK'⟩ := ih (i + n) done (some ⟨tx, i, i + n⟩) (by omega) (by omega) (by simp at hd ⊢; omega) (by intro c hc; cases hc; simp only; omega)
          refine ⟨K + K' + 1, fun k hk => ?_⟩
          obtain ⟨k, rfl⟩ : ∃ j, k = j + 1 := ⟨k - 1, by omega⟩
          have h2 := hK' k (by omega)
          simp only [words_Words.l0]
          rw [if_pos (by omega), if_pos (by omega), if_pos (by omega)]
          simp only [utf8_DecodeRuneInString.f, Option.bind_some, Int.toNat_natCast]
          rw [hdec, hK k (by omega), Option.bind_some, if_pos rfl, if_neg (by simp), if_pos (by omega)]
          simp only [Option.toList_none, List.append_nil] at hlen ⊢
          simp only [last64 _ _ (show ((done.map s34)).length ≤ 8388608 by omega)]
          rw [if_pos (by omega), if_pos (by simp; omega)]
          simp only [rd34_last, set34_last, Int.toNat_natCast, Option.bind_some]
          rw [if_pos (by rw [hes]; show 0 + n ≤ 9223372036854775807; omega)]
          have ea := app_eq [] tx _ henc
          simp only [List.nil_append] at ea
          rw [hn, e64, show ((⟨#[]⟩ : ByteArray) ++ Utf8.encode r) = ⟨tx.toArray⟩ from ea]
          simp only [Option.toList_some, List.map_append, List.map_cons, List.map_nil, Option.isSome_some] at h2
          simp only [M.gw]
          rw [if_neg htx]
          simpa [s34] using h2
        | some c =>
          have hct := hc c rfl
          simp only [Option.toList_some, List.length_singleton] at hd
          by_cases h32 : c.text.length + n > 32
          · obtain ⟨K', hK'⟩ := ih (i + n) (done ++ [c]) (some ⟨tx, i, i + n⟩) (by omega) (by omega) (by simp; omega) (by intro c hc; cases hc; simp only; omega)
            refine ⟨K + K' + 1, fun k hk => ?_⟩
            obtain ⟨k, rfl⟩ : ∃ j, k = j + 1 := ⟨k - 1, by omega⟩
            have h2 := hK' k (by omega)
            simp only [words_Words.l0]
            rw [if_pos (by omega), if_pos (by omega), if_pos (by omega)]
            simp only [utf8_DecodeRuneInString.f, Option.bind_some, Int.toNat_natCast]
            rw [hdec, hK k (by omega), Option.bind_some, if_pos rfl, if_pos (by simp)]
            simp only [Option.toList_some, List.map_append, List.map_cons, List.map_nil] at hlen ⊢
            have hl1 : (done.map s34).length ≤ 8388608 := by simp at hlen ⊢; omega
            have hl2 : (done.map s34 ++ [s34 c]).length ≤ 8388608 := by simp at hlen ⊢; omega
            simp only [last64 _ _ hl1]
            rw [if_pos (by omega), if_pos (by simp; omega)]
            simp only [rd34_last]
            rw [if_pos (by
              show wrap64 (((⟨c.text.toArray⟩ : ByteArray).size : Int) + _) > 32
              rw [hn, show (⟨c.text.toArray⟩ : ByteArray).size = c.text.length from by simp [ByteArray.size], M.w64 (by omega) (by omega)]; omega), if_pos (by omega)]
            simp only [last64 _ _ hl2]
            rw [if_pos (by omega), if_pos (by simp; try omega)]
            simp only [rd34_last, set34_last, Int.toNat_natCast, Option.bind_some]
            rw [if_pos (by rw [hes]; show 0 + n ≤ 9223372036854775807; omega)]
            have ea := app_eq [] tx _ henc
            simp only [List.nil_append] at ea
            rw [hn, e64, show ((⟨#[]⟩ : ByteArray) ++ Utf8.encode r) = ⟨tx.toArray⟩ from ea]
            simp only [Option.toList_some, List.map_append, List.map_cons, List.map_nil, Option.isSome_some] at h2
            simp only [M.gw]
            rw [if_neg htx, if_pos h32]
            simpa [s34] using h2
          · obtain ⟨K', hK'⟩ := ih (i + n) done (some ⟨c.text ++ tx, c.st, i + n⟩) (by omega) (by omega) (by simp; omega) (by intro c hc; cases hc; simp only [List.length_append]; omega)
            refine ⟨K + K' + 1, fun k hk => ?_⟩
            obtain ⟨k, rfl⟩ : ∃ j, k = j + 1 := ⟨k - 1, by omega⟩
            have h2 := hK' k (by omega)
            simp only [words_Words.l0]
            rw [if_pos (by omega), if_pos (by omega), if_pos (by omega)]
            simp only [utf8_DecodeRuneInString.f, Option.bind_some, Int.toNat_natCast]
            rw [hdec, hK k (by omega), Option.bind_some, if_pos rfl, if_pos (by simp)]
            simp only [Option.toList_some, List.map_append, List.map_cons, List.map_nil] at hlen ⊢
            have hl1 : (done.map s34).length ≤ 8388608 := by simp at hlen ⊢; omega
            simp only [last64 _ _ hl1]
            rw [if_pos (by omega), if_pos (by simp; omega)]
            simp only [rd34_last]
            have hcs : (s34 c).f0.size = c.text.length := by simp [s34, ByteArray.size]
            rw [if_neg (by rw [hn, hcs, M.w64 (by omega) (by omega)]; omega), if_pos (by rw [hes, hcs]; omega)]
            simp only [rd34_last, set34_last, Int.toNat_natCast, Option.bind_some]
            have ea := app_eq c.text tx _ henc
            rw [hn, e64, show ((s34 c).f0 ++ Utf8.encode r) = ⟨(c.text ++ tx).toArray⟩ from ea]
            simp only [Option.toList_some, List.map_append, List.map_cons, List.map_nil, Option.isSome_some] at h2
            simp only [M.gw]
            rw [if_neg htx, if_neg h32]
            simpa [s34] using h2
    · obtain rfl : i = s.size := by omega
      have he : s.data.toList.drop s.size = [] := by rw [Lib.size_eq]; simp
      rw [he]
      exact ev_some (fun k => by simp only [words_Words.l0]; rw [if_neg (by omega)]; simp [M.toksF, M.gw])
theorem words_ev (s : ByteArray) (hs : s.size ≤ 8388608) : Ev (fun k => words_Words.f k s) ((M.wds s.data.toList).map s34) := by
  have h := words_loop s hs s.size 0 [] none (by omega) (by omega) (by simp) (by simp)
  refine Ev.congr (f := fun k => words_Words.l0 k s [] false 0) (fun k => rfl) ?_
  simpa [M.wds, M.toks, ← Lib.size_eq] using h

theorem awake_ev : Ev (fun k => fascinelaw07_awake.f k) true := ev_mono (fun k => fascinelaw07_awake.mono k) (k := 60) (by decide +kernel)

theorem low_if : ∀ b : Fin 128, (if ((b.val : Nat) : Int) ≥ 65 then fascineref05_letter.j0 2 (b.val : Int) (decide (((b.val : Nat) : Int) ≤ 90)) else fascineref05_letter.j0 2 (b.val : Int) false) = some (⟨(M.low (UInt8.ofNat b.val)).toArray⟩, 1) := by decide +kernel
theorem bt_drop (s : ByteArray) (i : Nat) (b : UInt8) (t : List UInt8) (h : s.data.toList.drop i = b :: t) (hi : i < s.size) : bt s (i : Int) = (b.toNat : Int) := by
  have e := List.getElem?_drop (xs := s.data.toList) (i := i) (j := 0)
  rw [h, Nat.add_zero] at e
  have e2 := Lib.data_getElem? s i hi
  rw [← e] at e2
  have e3 : b = s[i] := Option.some.inj e2
  unfold bt
  simp only [Int.toNat_natCast, hi, dif_pos]
  rw [e3]
theorem dec_big (b : UInt8) (t : List UInt8) (hb : ¬ b.toNat < 128) (hd : ¬ ((Lib.decodeL (b :: t)).1 = 65533 ∧ (Lib.decodeL (b :: t)).2 = 1)) (h : (Lib.decodeL (b :: t)).1 = 65533) : (Lib.decodeL (b :: t)).2 = 3 := by
  have hN := Lib.decodeL_N (b :: t)
  have k0 : ((b :: t).getD 0 0).toNat = b.toNat := rfl
  have hb256 := b.toNat_lt
  rw [k0] at hN
  rw [hN] at hd h ⊢
  rcases Lib.decodeN_shape (b :: t).length b.toNat ((b :: t).getD 1 0).toNat ((b :: t).getD 2 0).toNat ((b :: t).getD 3 0).toNat with ⟨c, e⟩ | ⟨c1, c2, c3, cv, e⟩ | ⟨c1, c2, c3, c4, cv, cs, e⟩ | ⟨c1, c2, c3, c4, c5, cv, cw, e⟩ | e
  · omega
  · rw [e] at h; simp only at h; omega
  · rw [e]
  · rw [e] at h; simp only at h; omega
  · rw [e] at hd; exact absurd ⟨rfl, rfl⟩ hd
theorem ext_take (s : ByteArray) (i n : Nat) : s.extract i (i + n) = ⟨((s.data.toList.drop i).take n).toArray⟩ := by
  have e : (s.extract i (i + n)).data.toList = (s.data.toList.drop i).take n := by
    rw [Lib.extract_data, show i + n - i = n by omega]
  rw [← e]
theorem refletter_ev (s : ByteArray) (hs : s.size ≤ 8388608) (i : Nat) (hi : i < s.size) : Ev (fun k => fascineref05_letter.f k s (i : Int)) (⟨(M.tok (s.data.toList.drop i)).1.toArray⟩, ((M.tok (s.data.toList.drop i)).2 : Int)) := by
  have hsz := Lib.size_eq s
  have hne : s.data.toList.drop i ≠ [] := by
    intro h; have := congrArg List.length h; rw [List.length_drop] at this; simp at this; omega
  refine ev_mono (fun k => fascineref05_letter.mono _ _ k) (k := 2) ?_
  have hdec := dec_at s i hi
  have hle := Lib.decodeL_le _ hne
  have hw := Lib.decodeL_width (s.data.toList.drop i)
  rw [List.length_drop, ← hsz] at hle
  have hx := ext_take s i (Lib.decodeL (s.data.toList.drop i)).2
  cases hl : s.data.toList.drop i with
  | nil => exact absurd hl hne
  | cons b t =>
    have hbt := bt_drop s i b t hl hi
    rw [hl] at hdec hle hw hx
    unfold fascineref05_letter.f
    rw [if_pos (by omega), if_pos (by omega), hbt]
    by_cases hb : b.toNat < 128
    · rw [if_pos (by omega)]
      have h2 := low_if ⟨b.toNat, hb⟩
      simp only [UInt8.ofNat_toNat] at h2
      rw [h2]
      simp [M.tok, hb]
    · rw [if_neg (by omega), if_pos (by omega)]
      simp only [utf8_DecodeRuneInString.f, Option.bind_some, Int.toNat_natCast, hdec]
      by_cases hd : (Lib.decodeL (b :: t)).1 = 65533 ∧ (Lib.decodeL (b :: t)).2 = 1
      · rw [hd.1, hd.2, if_pos (by decide), if_pos (by decide)]
        simp [M.tok, hb, hd]
      · have ht : M.tok (b :: t) = ((b :: t).take (Lib.decodeL (b :: t)).2, (Lib.decodeL (b :: t)).2) := by simp only [M.tok]; rw [if_neg hb, if_neg hd]
        have e64 : wrap64 ((i : Int) + ((Lib.decodeL (b :: t)).2 : Int)) = ((i + (Lib.decodeL (b :: t)).2 : Nat) : Int) := by rw [M.w64 (by omega) (by omega)]; omega
        have fin : (if (i : Int) ≤ (wrap64 ((i : Int) + ((Lib.decodeL (b :: t)).2 : Int))) then (if (wrap64 ((i : Int) + ((Lib.decodeL (b :: t)).2 : Int))) ≤ (s.size : Int) then (some (s.extract i ((wrap64 ((i : Int) + ((Lib.decodeL (b :: t)).2 : Int))) : Int).toNat, ((Lib.decodeL (b :: t)).2 : Int))) else (none)) else (none)) = some ((⟨(M.tok (b :: t)).1.toArray⟩ : ByteArray), ((M.tok (b :: t)).2 : Int)) := by
          rw [e64, if_pos (by omega), if_pos (by omega), Int.toNat_natCast, hx, ht]
        by_cases h3 : (Lib.decodeL (b :: t)).1 = 65533
        · have h33 := dec_big b t hb hd h3
          rw [if_pos (by omega), if_neg (by omega)]
          exact fin
        · rw [if_neg (by omega)]
          exact fin
def s35 (w : M.Wd) : S35 := ⟨⟨w.text.toArray⟩, (w.st : Int), (w.en : Int)⟩
theorem toList_mk (l : List UInt8) : (⟨l.toArray⟩ : ByteArray).toList = l := by rw [Lib.toList_data]
theorem size_mk (l : List UInt8) : (⟨l.toArray⟩ : ByteArray).size = l.length := by simp [ByteArray.size]
theorem app_mk (a t : List UInt8) : (⟨a.toArray⟩ : ByteArray) ++ ⟨t.toArray⟩ = ⟨(a ++ t).toArray⟩ := app_eq a t _ rfl
theorem refwords_loop (s : ByteArray) (hs : s.size ≤ 8388608) : ∀ (f : Nat),
    (∀ (i : Nat) (done : List M.Wd), s.size - i ≤ f → i ≤ s.size → done.length ≤ i → Ev (fun k => fascineref05_Words.l0 k s (done.map s35) (i : Int)) ((done ++ M.gw (M.toksF f (s.data.toList.drop i)) i none).map s35)) ∧
    (∀ (i : Nat) (done : List M.Wd) (tx : List UInt8) (st : Nat), s.size - i ≤ f → i ≤ s.size → done.length < i → tx.length ≤ i → Ev (fun k => fascineref05_Words.l1 k s (done.map s35) (i : Int) ⟨tx.toArray⟩ (st : Int) 0) ((done ++ M.gw (M.toksF f (s.data.toList.drop i)) i (some ⟨tx, st, i⟩)).map s35)) := by
  intro f
  have hsz := Lib.size_eq s
  have endA : ∀ (f : Nat) (done : List M.Wd), Ev (fun k => fascineref05_Words.l0 k s (done.map s35) (s.size : Int)) ((done ++ M.gw (M.toksF f (s.data.toList.drop s.size)) s.size none).map s35) := by
    intro f done
    have he : s.data.toList.drop s.size = [] := by rw [Lib.size_eq]; simp
    rw [he]
    exact ev_some (fun k => by simp only [fascineref05_Words.l0]; rw [if_neg (by omega)]; cases f <;> simp [M.toksF, M.gw])
  have endB : ∀ (f : Nat) (done : List M.Wd) (tx : List UInt8) (st : Nat), done.length < s.size → Ev (fun k => fascineref05_Words.l1 k s (done.map s35) (s.size : Int) ⟨tx.toArray⟩ (st : Int) 0) ((done ++ M.gw (M.toksF f (s.data.toList.drop s.size)) s.size (some ⟨tx, st, s.size⟩)).map s35) := by
    intro f done tx st hd
    obtain ⟨K, hK⟩ := endA f (done ++ [⟨tx, st, s.size⟩])
    refine ⟨K + 1, fun k hk => ?_⟩
    obtain ⟨k, rfl⟩ : ∃ j, k = j + 1 := ⟨k - 1, by omega⟩
    have h2 := hK k (by omega)
    have he : s.data.toList.drop s.size = [] := by rw [Lib.size_eq]; simp
    rw [he] at h2 ⊢
    have hg : ∀ cur, M.gw (M.toksF f []) s.size cur = cur.toList := by intro cur; cases f <;> rfl
    rw [hg] at h2 ⊢
    simp only [fascineref05_Words.l1]
    rw [if_neg (by omega), if_pos (by simp; omega)]
    simpa [s35] using h2
  induction f with
  | zero =>
    refine ⟨fun i done hf hi hd => ?_, fun i done tx st hf hi hd ht => ?_⟩
    · obtain rfl : i = s.size := by omega
      exact endA 0 done
    · obtain rfl : i = s.size := by omega
      exact endB 0 done tx st hd
  | succ f ih =>
    have A : ∀ (i : Nat) (done : List M.Wd), s.size - i ≤ f + 1 → i ≤ s.size → done.length ≤ i → Ev (fun k => fascineref05_Words.l0 k s (done.map s35) (i : Int)) ((done ++ M.gw (M.toksF (f + 1) (s.data.toList.drop i)) i none).map s35) := by
      intro i done hf hi hd
      by_cases hlt : i < s.size
      · have hne : s.data.toList.drop i ≠ [] := by
          intro h; have := congrArg List.length h; rw [List.length_drop] at this; simp at this; omega
        obtain ⟨K, hK⟩ := refletter_ev s hs i hlt
        have hpos := M.tok_pos (s.data.toList.drop i)
        have hle := M.tok_le _ hne
        have htl := M.tok_len (s.data.toList.drop i)
        have h4 := M.tok_le4 (s.data.toList.drop i)
        rw [List.length_drop, ← hsz] at hle
        rw [toksF_cons f _ hne, List.drop_drop]
        generalize M.tok (s.data.toList.drop i) = tk at *
        obtain ⟨tx, n⟩ := tk
        simp only at hpos hle htl h4 hK ⊢
        have e64 : wrap64 ((i : Int) + (n : Int)) = ((i + n : Nat) : Int) := by rw [M.w64 (by omega) (by omega)]; omega
        by_cases htx : tx = []
        · obtain ⟨K', hK'⟩ := ih.1 (i + n) done (by omega) (by omega) (by omega)
          refine ⟨K + K' + 1, fun k hk => ?_⟩
          obtain ⟨k, rfl⟩ : ∃ j, k = j + 1 := ⟨k - 1, by omega⟩
          have h2 := hK' k (by omega)
          simp only [fascineref05_Words.l0]
          rw [if_pos (by omega), hK k (by omega), Option.bind_some]
          simp only [toList_mk]
          dsimp only at h2
          rw [if_pos htx, e64, h2]
          simp [M.gw, htx]
        · have htl := htl htx
          obtain ⟨K', hK'⟩ := ih.2 (i + n) done tx i (by omega) (by omega) (by omega) (by omega)
          refine ⟨K + K' + 2, fun k hk => ?_⟩
          obtain ⟨k, rfl⟩ : ∃ j, k = j + 2 := ⟨k - 2, by omega⟩
          have h2 := hK' k (by omega)
          dsimp only at h2
          simp only [fascineref05_Words.l0]
          rw [if_pos (by omega), hK (k + 1) (by omega), Option.bind_some]
          simp only [toList_mk]
          rw [if_neg htx]
          simp only [fascineref05_Words.l1]
          rw [if_pos (by omega), hK k (by omega), Option.bind_some]
          simp only [toList_mk]
          have hz : ((⟨#[]⟩ : ByteArray).size : Int) = 0 := rfl
          rw [if_neg htx, hz, if_neg (by rw [M.w64 (by omega) (by omega)]; omega), if_pos (by rw [size_mk]; show 0 + tx.length ≤ 9223372036854775807; omega), e64, show (⟨#[]⟩ : ByteArray) ++ ⟨tx.toArray⟩ = ⟨tx.toArray⟩ from app_mk [] tx, h2]
          simp [M.gw, htx]
      · obtain rfl : i = s.size := by omega
        exact endA _ done
    refine ⟨A, fun i done tx st hf hi hd ht => ?_⟩
    by_cases hlt : i < s.size
    · have hne : s.data.toList.drop i ≠ [] := by
        intro h; have := congrArg List.length h; rw [List.length_drop] at this; simp at this; omega
      obtain ⟨K, hK⟩ := refletter_ev s hs i hlt
      have hA := A i (done ++ [⟨tx, st, i⟩]) hf hi (by simp; omega)
      have hpos := M.tok_pos (s.data.toList.drop i)
      have hle := M.tok_le _ hne
      have htl := M.tok_len (s.data.toList.drop i)
      have h4 := M.tok_le4 (s.data.toList.drop i)
      rw [List.length_drop, ← hsz] at hle
      rw [toksF_cons f _ hne, List.drop_drop] at hA ⊢
      generalize M.tok (s.data.toList.drop i) = tk at *
      obtain ⟨ty, n⟩ := tk
      simp only at hpos hle htl h4 hK hA ⊢
      have e64 : wrap64 ((i : Int) + (n : Int)) = ((i + n : Nat) : Int) := by rw [M.w64 (by omega) (by omega)]; omega
      by_cases hty : ty = []
      · obtain ⟨K', hK'⟩ := hA
        refine ⟨K + K' + 1, fun k hk => ?_⟩
        obtain ⟨k, rfl⟩ : ∃ j, k = j + 1 := ⟨k - 1, by omega⟩
        have h2 := hK' k (by omega)
        simp only [fascineref05_Words.l1]
        rw [if_pos (by omega), hK k (by omega), Option.bind_some]
        simp only [toList_mk]
        rw [if_pos hty, if_pos (by simp; omega)]
        simpa [M.gw, hty, s35] using h2
      · have htl := htl hty
        by_cases h32 : tx.length + n > 32
        · obtain ⟨K', hK'⟩ := hA
          refine ⟨K + K' + 1, fun k hk => ?_⟩
          obtain ⟨k, rfl⟩ : ∃ j, k = j + 1 := ⟨k - 1, by omega⟩
          have h2 := hK' k (by omega)
          simp only [fascineref05_Words.l1]
          rw [if_pos (by omega), hK k (by omega), Option.bind_some]
          simp only [toList_mk, size_mk]
          rw [if_neg hty, if_pos (by rw [M.w64 (by omega) (by omega)]; omega), if_pos (by simp; omega)]
          simpa [M.gw, hty, s35, h32] using h2
        · obtain ⟨K', hK'⟩ := ih.2 (i + n) done (tx ++ ty) st (by omega) (by omega) (by omega) (by rw [List.length_append]; omega)
          refine ⟨K + K' + 1, fun k hk => ?_⟩
          obtain ⟨k, rfl⟩ : ∃ j, k = j + 1 := ⟨k - 1, by omega⟩
          have h2 := hK' k (by omega)
          dsimp only at h2
          simp only [fascineref05_Words.l1]
          rw [if_pos (by omega), hK k (by omega), Option.bind_some]
          simp only [toList_mk, size_mk]
          rw [if_neg hty, if_neg (by rw [M.w64 (by omega) (by omega)]; omega), if_pos (by omega), e64, app_mk, h2]
          simp [M.gw, hty, h32]
    · obtain rfl : i = s.size := by omega
      exact endB _ done tx st hd
theorem refwords_ev (s : ByteArray) (hs : s.size ≤ 8388608) : Ev (fun k => fascineref05_Words.f k s) ((M.wds s.data.toList).map s35) := by
  have h := (refwords_loop s hs s.size).1 0 [] (by omega) (by omega) (by simp)
  refine Ev.congr (f := fun k => fascineref05_Words.l0 k s [] 0) (fun k => rfl) ?_
  simpa [M.wds, M.toks, ← Lib.size_eq] using h

theorem rd34_nat {l : List M.Wd} {j : Nat} (h : j < l.length) : rd_T34 (l.map s34) (j : Int) = s34 l[j] := by
  unfold rd_T34
  rw [Int.toNat_natCast, List.getD_eq_getElem?_getD, List.getElem?_eq_getElem (by simpa using h)]
  simp
theorem rd35_nat {l : List M.Wd} {j : Nat} (h : j < l.length) : rd_T35 (l.map s35) (j : Int) = s35 l[j] := by
  unfold rd_T35
  rw [Int.toNat_natCast, List.getD_eq_getElem?_getD, List.getElem?_eq_getElem (by simpa using h)]
  simp
theorem pair_text (v w : List UInt8) : ((⟨v.toArray⟩ : ByteArray) ++ (⟨#[61]⟩ : ByteArray)) ++ ⟨w.toArray⟩ = ⟨(v ++ 61 :: w).toArray⟩ := by
  rw [show (⟨#[61]⟩ : ByteArray) = ⟨[61].toArray⟩ from rfl, app_mk, app_mk, List.append_assoc]; rfl

theorem less_iff : ∀ (a b : List UInt8), Op.bytesLess a b = true ↔ a < b
  | [], [] => by simp [Op.bytesLess]
  | [], _ :: _ => by simp [Op.bytesLess]
  | _ :: _, [] => by simp [Op.bytesLess]
  | x :: a, y :: b => by
    simp only [Op.bytesLess, List.cons_lt_cons_iff]
    have ih := less_iff a b
    by_cases h : x < y
    · simp [h]
    · by_cases h2 : x = y
      · subst h2; simp [ih]
      · simp [h, h2]
theorem rdB_nat {l : List ByteArray} {j : Nat} (h : j < l.length) : rdOf ByteArray.empty l (j : Int) = l[j] := by
  unfold rdOf
  rw [Int.toNat_natCast, List.getD_eq_getElem?_getD, List.getElem?_eq_getElem h]
  rfl
theorem chrs_toList (x : ByteArray) : x.toList = chrs x := by rw [Lib.toList_data]; rfl

theorem put_ev (l : List ByteArray) (s : ByteArray) (hl : l.length ≤ 33554432) : Ev (fun k => fascineref05_put.f k l s) (M.putB s l) := by
  have key : ∀ (d j : Nat), l.length - j = d → j ≤ l.length → M.putB s l = l.take j ++ M.putB s (l.drop j) → Ev (fun k => fascineref05_put.l0 k l s (j : Int)) (M.putB s l) := by
    intro d
    induction d with
    | zero =>
      intro j hd hj hp
      refine ev_some (fun k => ?_)
      have hdr : l.drop j = [] := by rw [List.drop_eq_nil_iff]; omega
      rw [hdr] at hp
      simp only [fascineref05_put.l0]
      rw [if_neg (by omega), if_pos (by omega), if_pos (by omega)]
      simp only [Option.bind_some, Int.toNat_natCast, List.nil_append, List.length_nil, hdr, List.append_nil]
      rw [if_pos (by rw [List.length_take]; omega), if_pos (by rw [List.length_take]; omega), if_pos (by rw [List.length_append, List.length_take]; simp; omega), hp]
      rfl
    | succ d ih =>
      intro j hd hj hp
      have hlt : j < l.length := by omega
      have hdr : l.drop j = l[j] :: l.drop (j + 1) := List.drop_eq_getElem_cons hlt
      have e64 : wrap64 ((j : Int) + 1) = ((j + 1 : Nat) : Int) := by rw [M.w64 (by omega) (by omega)]; omega
      by_cases h1 : chrs l[j] < chrs s
      · have hp2 : M.putB s l = l.take (j + 1) ++ M.putB s (l.drop (j + 1)) := by
          rw [hp, hdr, List.take_succ_eq_append_getElem hlt, List.append_assoc]
          simp only [M.putB, if_pos h1]
          rfl
        refine Ev.step (fun k => ?_) (ih (j + 1) (by omega) (by omega) hp2)
        simp only [fascineref05_put.l0]
        rw [if_pos (by omega), if_pos (by omega), rdB_nat hlt, chrs_toList, chrs_toList, if_pos ((less_iff _ _).2 h1), e64]
      · refine ev_some (fun k => ?_)
        simp only [fascineref05_put.l0]
        rw [if_pos (by omega), if_pos (by omega), rdB_nat hlt, chrs_toList, chrs_toList, if_neg (fun h => h1 ((less_iff _ _).1 h))]
        rw [hdr] at hp
        by_cases h2 : chrs l[j] = chrs s
        · rw [if_pos h2, hp]
          simp only [M.putB, if_neg h1, if_pos h2]
          rw [← hdr, List.take_append_drop]
        · rw [if_neg h2, if_pos (by omega)]
          simp only [Option.bind_some, Int.toNat_natCast, List.nil_append, List.length_nil]
          rw [if_pos (by rw [List.length_take]; omega), if_pos (by rw [List.length_take]; omega), if_pos (by rw [List.length_append, List.length_take, List.length_drop]; simp; omega), hp]
          simp only [M.putB, if_neg h1, if_neg h2]
          rw [hdr, List.append_assoc]
          rfl
  exact Ev.congr (f := fun k => fascineref05_put.l0 k l s 0) (fun k => rfl) (key l.length 0 (by omega) (by omega) (by simp))

theorem wp1 (i : Nat) (h : i ≤ 33554432) : wrap64 ((i : Int) + 1) = ((i + 1 : Nat) : Int) := by rw [M.w64 (by omega) (by omega)]; omega
theorem wm1 (i : Nat) (h0 : 1 ≤ i) (h : i ≤ 33554432) : wrap64 ((i : Int) - 1) = ((i - 1 : Nat) : Int) := by rw [M.w64 (by omega) (by omega)]; omega

def pv (W : List M.Wd) (i : Nat) : Option M.Wd := if i = 0 then none else W[i - 1]?
theorem bt_getD (s : ByteArray) (j : Nat) (h : j < s.size) : bt s (j : Int) = ((s.data.toList.getD j 0).toNat : Int) := by
  have e := Lib.data_getElem? s j h
  unfold bt
  simp only [Int.toNat_natCast, h, dif_pos]
  rw [List.getD_eq_getElem?_getD, e]
  rfl
theorem bt_eq (s : ByteArray) (j : Nat) (h : j < s.size) : bt s (j : Int) = 61 ↔ s.data.toList.getD j 0 = 61 := by
  rw [bt_getD s j h]
  constructor
  · intro e; exact UInt8.toNat_inj.1 (by simpa using (by omega : (s.data.toList.getD j 0).toNat = 61))
  · intro e; rw [e]; rfl
theorem terms_loop (s : ByteArray) (hs : s.size ≤ 8388608) (W : List M.Wd) (hW : W.length ≤ 8388608) (hin : ∀ w ∈ W, w.st ≤ s.size ∧ w.en ≤ s.size ∧ w.text.length ≤ 32) : ∀ (d i : Nat) (out : List ByteArray), W.length - i = d → i ≤ W.length → out.length + 2 * d ≤ 33554432 →
    Ev (fun k => words_Terms.l0 k s out (W.map s34) (W.map s34) (W.length : Int) (i : Int)) (M.uniq (out ++ (M.tms s.data.toList (pv W i) (W.drop i)).map unchrs)) := by
  intro d
  induction d with
  | zero =>
    intro i out hd hi ho
    have hdr : W.drop i = [] := by rw [List.drop_eq_nil_iff]; omega
    rw [hdr]
    refine ev_some (fun k => ?_)
    simp only [words_Terms.l0, slices_Sort_string_string.f, slices_Compact_string_string.f]
    rw [if_neg (by omega), if_pos (by omega)]
    simp [M.tms, M.uniq]
  | succ d ih =>
    intro i out hd hi ho
    have hlt : i < W.length := by omega
    have hdr : W.drop i = W[i] :: W.drop (i + 1) := List.drop_eq_getElem_cons hlt
    have hw := hin W[i] (List.getElem_mem hlt)
    have hpv : pv W (i + 1) = some W[i] := by simp [pv, hlt]
    have f0 : (s34 W[i]).f0 = unchrs W[i].text := rfl
    have f1 : (s34 W[i]).f1 = (W[i].st : Int) := rfl
    have lenm : ((W.map s34).length : Int) = (W.length : Int) := by simp
    -- without a pair
    have plain : Ev (fun k => words_Terms.l0 k s (out ++ [unchrs W[i].text]) (W.map s34) (W.map s34) (W.length : Int) (wrap64 ((i : Int) + 1))) (M.uniq (out ++ (W[i].text :: M.tms s.data.toList (some W[i]) (W.drop (i + 1))).map unchrs)) := by
      have h2 := ih (i + 1) (out ++ [unchrs W[i].text]) (by omega) (by omega) (by simp; omega)
      rw [hpv] at h2
      rw [wp1 i (by omega)]
      simpa using h2
    by_cases hi0 : i = 0
    · subst hi0
      refine Ev.step (fun k => ?_) (g := fun k => words_Terms.l0 k s out (W.map s34) (W.map s34) (W.length : Int) ((0 : Nat) : Int)) (f := fun k => words_Terms.l0 k s (out ++ [unchrs W[0].text]) (W.map s34) (W.map s34) (W.length : Int) (wrap64 (((0 : Nat) : Int) + 1))) ?_
      · simp only [words_Terms.l0]
        rw [if_pos (by omega), if_pos (by omega), if_pos (by rw [lenm]; omega), if_pos (by omega)]
        simp only [Option.bind_some]
        rw [if_neg (by omega), rd34_nat hlt, f0]
      · rw [hdr]
        simpa [M.tms, pv] using plain
    · have hp1 : i - 1 < W.length := by omega
      have hv := hin W[i - 1] (List.getElem_mem hp1)
      have hpv0 : pv W i = some W[i - 1] := by simp [pv, hi0, hp1]
      have g0 : (s34 W[i - 1]).f0 = unchrs W[i - 1].text := rfl
      have g2 : (s34 W[i - 1]).f2 = (W[i - 1].en : Int) := rfl
      by_cases hc : W[i - 1].en + 1 = W[i].st ∧ s.data.toList.getD (W[i].st - 1) 0 = 61
      · have est : wrap64 ((W[i].st : Int) - 1) = ((W[i].st - 1 : Nat) : Int) := by rw [M.w64 (by omega) (by omega)]; omega
        have hbt := (bt_eq s (W[i].st - 1) (by omega)).2 hc.2
        have h2 := ih (i + 1) (out ++ [unchrs W[i].text] ++ [unchrs (W[i - 1].text ++ 61 :: W[i].text)]) (by omega) (by omega) (by simp; omega)
        rw [hpv] at h2
        refine Ev.step (fun k => ?_) (f := fun k => words_Terms.l0 k s (out ++ [unchrs W[i].text] ++ [unchrs (W[i - 1].text ++ 61 :: W[i].text)]) (W.map s34) (W.map s34) (W.length : Int) ((i + 1 : Nat) : Int)) ?_
        · simp only [words_Terms.l0]
          rw [if_pos (by omega), if_pos (by omega), if_pos (by rw [lenm]; omega), if_pos (by omega)]
          simp only [Option.bind_some]
          rw [if_pos (by omega), wm1 i (by omega) (by omega), if_pos (by omega), if_pos (by rw [lenm]; omega), rd34_nat hlt, rd34_nat hp1, f0, f1, g0, g2, wp1 W[i - 1].en (by omega), if_pos (by omega), wm1 W[i].st (by omega) (by omega), if_pos (by omega), if_pos (by omega), if_pos hbt,
            if_pos (by show (⟨W[i - 1].text.toArray⟩ : ByteArray).size + 1 ≤ _; rw [size_mk]; omega), if_pos (by show (⟨W[i - 1].text.toArray⟩ : ByteArray).size + 1 + (⟨W[i].text.toArray⟩ : ByteArray).size ≤ _; rw [size_mk, size_mk]; omega), if_pos (by simp; omega), wp1 i (by omega)]
          rw [show (unchrs W[i - 1].text ++ (⟨#[61]⟩ : ByteArray)) ++ unchrs W[i].text = unchrs (W[i - 1].text ++ 61 :: W[i].text) from pair_text _ _]
        · rw [hdr, hpv0]
          simp only [M.tms]
          rw [if_pos hc]
          simpa using h2
      · refine Ev.step (fun k => ?_) (f := fun k => words_Terms.l0 k s (out ++ [unchrs W[i].text]) (W.map s34) (W.map s34) (W.length : Int) (wrap64 ((i : Int) + 1))) ?_
        · simp only [words_Terms.l0]
          rw [if_pos (by omega), if_pos (by omega), if_pos (by rw [lenm]; omega), if_pos (by omega)]
          simp only [Option.bind_some]
          rw [if_pos (by omega), wm1 i (by omega) (by omega), if_pos (by omega), if_pos (by rw [lenm]; omega), rd34_nat hlt, rd34_nat hp1, f0, f1, g0, g2, wp1 W[i - 1].en (by omega)]
          by_cases h1 : W[i - 1].en + 1 = W[i].st
          · have est : wrap64 ((W[i].st : Int) - 1) = ((W[i].st - 1 : Nat) : Int) := by rw [M.w64 (by omega) (by omega)]; omega
            rw [if_pos (by omega), wm1 W[i].st (by omega) (by omega), if_pos (by omega), if_pos (by omega), if_neg (fun h => hc ⟨h1, (bt_eq s (W[i].st - 1) (by omega)).1 h⟩)]
          · rw [if_neg (by omega)]
        · rw [hdr, hpv0]
          simp only [M.tms]
          rw [if_neg hc, List.nil_append]
          exact plain
theorem terms_ev (s : ByteArray) (hs : s.size ≤ 8388608) : Ev (fun k => words_Terms.f k s) (M.terms s.data.toList) := by
  have hsz := Lib.size_eq s
  have hc := M.wds_count s.data.toList
  refine Ev.congr (fun k => rfl) (Ev.bind (words_ev s hs) ?_)
  have h := terms_loop s hs (M.wds s.data.toList) (by omega) (fun w hw => ⟨by have := (M.wds_in _ w hw).1; omega, by have := (M.wds_in _ w hw).2; omega, M.wds_len _ w hw⟩) _ 0 [] rfl (by omega) (by simp; omega)
  simpa [M.terms, pv] using h

theorem putB_len (s : ByteArray) : ∀ l : List ByteArray, (M.putB s l).length ≤ l.length + 1
  | [] => by simp [M.putB]
  | x :: t => by
    unfold M.putB
    split
    · have := putB_len s t; simp only [List.length_cons]; omega
    · split <;> simp
theorem refterms_loop (s : ByteArray) (hs : s.size ≤ 8388608) (W : List M.Wd) (hW : W.length ≤ 8388608) (hin : ∀ w ∈ W, w.st ≤ s.size ∧ w.en ≤ s.size ∧ w.text.length ≤ 32) : ∀ (d i : Nat) (out : List ByteArray), W.length - i = d → i ≤ W.length → out.length + 2 * d ≤ 33554432 →
    Ev (fun k => fascineref05_Terms.l0 k s out (W.map s35) (i : Int)) (((M.tms s.data.toList (pv W i) (W.drop i)).map unchrs).foldl (fun a x => M.putB x a) out) := by
  intro d
  induction d with
  | zero =>
    intro i out hd hi ho
    have hdr : W.drop i = [] := by rw [List.drop_eq_nil_iff]; omega
    rw [hdr]
    refine ev_some (fun k => ?_)
    simp only [fascineref05_Terms.l0]
    rw [if_neg (by simp; omega)]
    simp [M.tms]
  | succ d ih =>
    intro i out hd hi ho
    have hlt : i < W.length := by omega
    have hdr : W.drop i = W[i] :: W.drop (i + 1) := List.drop_eq_getElem_cons hlt
    have hw := hin W[i] (List.getElem_mem hlt)
    have hpv : pv W (i + 1) = some W[i] := by simp [pv, hlt]
    have f0 : (s35 W[i]).f0 = unchrs W[i].text := rfl
    have f1 : (s35 W[i]).f1 = (W[i].st : Int) := rfl
    have lenm : ((W.map s35).length : Int) = (W.length : Int) := by simp
    have hl1 := putB_len (unchrs W[i].text) out
    obtain ⟨K1, h1⟩ := put_ev out (unchrs W[i].text) (by omega)
    dsimp only at h1
    by_cases hi0 : i = 0
    · subst hi0
      obtain ⟨K2, h2⟩ := ih 1 (M.putB (unchrs W[0].text) out) (by omega) (by omega) (by omega)
      rw [hpv] at h2
      dsimp only at h2
      refine ⟨K1 + K2 + 1, fun k hk => ?_⟩
      obtain ⟨k, rfl⟩ : ∃ j, k = j + 1 := ⟨k - 1, by omega⟩
      simp only [fascineref05_Terms.l0]
      rw [if_pos (by rw [lenm]; omega), if_pos (by omega), rd35_nat hlt, f0, h1 k (by omega), Option.bind_some, if_neg (by omega), wp1 0 (by omega), h2 k (by omega), hdr]
      simp [M.tms, pv]
    · have hp1 : i - 1 < W.length := by omega
      have hv := hin W[i - 1] (List.getElem_mem hp1)
      have hpv0 : pv W i = some W[i - 1] := by simp [pv, hi0, hp1]
      have g0 : (s35 W[i - 1]).f0 = unchrs W[i - 1].text := rfl
      have g2 : (s35 W[i - 1]).f2 = (W[i - 1].en : Int) := rfl
      by_cases hc : W[i - 1].en + 1 = W[i].st ∧ s.data.toList.getD (W[i].st - 1) 0 = 61
      · have hbt := (bt_eq s (W[i].st - 1) (by omega)).2 hc.2
        have hl2 := putB_len (unchrs (W[i - 1].text ++ 61 :: W[i].text)) (M.putB (unchrs W[i].text) out)
        obtain ⟨K2, h2⟩ := put_ev (M.putB (unchrs W[i].text) out) (unchrs (W[i - 1].text ++ 61 :: W[i].text)) (by omega)
        obtain ⟨K3, h3⟩ := ih (i + 1) _ (by omega) (by omega) (show (M.putB (unchrs (W[i - 1].text ++ 61 :: W[i].text)) (M.putB (unchrs W[i].text) out)).length + 2 * d ≤ 33554432 by omega)
        rw [hpv] at h3
        dsimp only at h2 h3
        refine ⟨K1 + K2 + K3 + 1, fun k hk => ?_⟩
        obtain ⟨k, rfl⟩ : ∃ j, k = j + 1 := ⟨k - 1, by omega⟩
        simp only [fascineref05_Terms.l0]
        rw [if_pos (by rw [lenm]; omega), if_pos (by omega), rd35_nat hlt, f0, h1 k (by omega), Option.bind_some, if_pos (by omega), wm1 i (by omega) (by omega), if_pos (by omega), if_pos (by rw [lenm]; omega), rd35_nat hp1, f1, g0, g2, wp1 W[i - 1].en (by omega), if_pos (by omega), wm1 W[i].st (by omega) (by omega), if_pos (by omega), if_pos (by omega), if_pos hbt,
          if_pos (by show (⟨W[i - 1].text.toArray⟩ : ByteArray).size + 1 ≤ _; rw [size_mk]; omega), if_pos (by show (⟨W[i - 1].text.toArray⟩ : ByteArray).size + 1 + (⟨W[i].text.toArray⟩ : ByteArray).size ≤ _; rw [size_mk, size_mk]; omega)]
        rw [show (unchrs W[i - 1].text ++ (⟨#[61]⟩ : ByteArray)) ++ unchrs W[i].text = unchrs (W[i - 1].text ++ 61 :: W[i].text) from pair_text _ _, h2 k (by omega), Option.bind_some, wp1 i (by omega), h3 k (by omega), hdr, hpv0]
        simp only [M.tms]
        rw [if_pos hc]
        simp
      · obtain ⟨K2, h2⟩ := ih (i + 1) (M.putB (unchrs W[i].text) out) (by omega) (by omega) (by omega)
        rw [hpv] at h2
        dsimp only at h2
        refine ⟨K1 + K2 + 1, fun k hk => ?_⟩
        obtain ⟨k, rfl⟩ : ∃ j, k = j + 1 := ⟨k - 1, by omega⟩
        simp only [fascineref05_Terms.l0]
        rw [if_pos (by rw [lenm]; omega), if_pos (by omega), rd35_nat hlt, f0, h1 k (by omega), Option.bind_some, if_pos (by omega), wm1 i (by omega) (by omega), if_pos (by omega), if_pos (by rw [lenm]; omega), rd35_nat hp1, f1, g0, g2, wp1 W[i - 1].en (by omega)]
        have fin : fascineref05_Terms.l0 k s (M.putB (unchrs W[i].text) out) (W.map s35) (wrap64 ((i : Int) + 1)) = some (((M.tms s.data.toList (pv W i) (W.drop i)).map unchrs).foldl (fun a x => M.putB x a) out) := by
          rw [wp1 i (by omega), h2 k (by omega), hdr, hpv0]
          simp only [M.tms]
          rw [if_neg hc]
          simp
        by_cases h3 : W[i - 1].en + 1 = W[i].st
        · rw [if_pos (by omega), wm1 W[i].st (by omega) (by omega), if_pos (by omega), if_pos (by omega), if_neg (fun h => hc ⟨h3, (bt_eq s (W[i].st - 1) (by omega)).1 h⟩)]
          exact fin
        · rw [if_neg (by omega)]
          exact fin
theorem refterms_ev (s : ByteArray) (hs : s.size ≤ 8388608) : Ev (fun k => fascineref05_Terms.f k s) (M.terms s.data.toList) := by
  have hsz := Lib.size_eq s
  have hc := M.wds_count s.data.toList
  refine Ev.congr (fun k => rfl) (Ev.bind (refwords_ev s hs) ?_)
  have h := refterms_loop s hs (M.wds s.data.toList) (by omega) (fun w hw => ⟨by have := (M.wds_in _ w hw).1; omega, by have := (M.wds_in _ w hw).2; omega, M.wds_len _ w hw⟩) _ 0 [] rfl (by omega) (by simp; omega)
  rw [M.terms, M.uniq_puts]
  simpa [pv] using h

theorem nodup_len' : ∀ {A C : List ByteArray}, A.Nodup → (∀ x ∈ A, x ∈ C) → A.length ≤ C.length
  | [], C, _, _ => by simp
  | x :: r, C, hA, h => by
    obtain ⟨a, b, rfl⟩ := List.append_of_mem (h x List.mem_cons_self)
    have h1 := List.nodup_cons.1 hA
    have := nodup_len' (C := a ++ b) h1.2 (fun y hy => by
      have hne : y ≠ x := fun e => h1.1 (e ▸ hy)
      have := h y (List.mem_cons_of_mem _ hy)
      simp only [List.mem_append, List.mem_cons] at this ⊢
      rcases this with h | h | h
      · exact .inl h
      · exact absurd h hne
      · exact .inr h)
    simp only [List.length_cons, List.length_append] at this ⊢
    omega
theorem terms_len (s : List UInt8) : (M.terms s).length ≤ 2 * s.length := by
  have h1 := (M.uniq_ok ((M.tms s none (M.wds s)).map unchrs))
  have hn := M.Rise.nodup h1.1
  have hle : (M.terms s).length ≤ ((M.tms s none (M.wds s)).map unchrs).length := nodup_len' hn (fun x hx => (h1.2 x).1 hx)
  have key : ∀ (W : List M.Wd) (p : Option M.Wd), (M.tms s p W).length ≤ 2 * W.length := by
    intro W
    induction W with
    | nil => intro p; simp [M.tms]
    | cons w r ih =>
      intro p
      have := ih (some w)
      simp only [M.tms, List.length_cons, List.length_append]
      cases p with
      | none => simp only [List.length_nil]; omega
      | some v => simp only; split <;> simp only [List.length_cons, List.length_nil] <;> omega
  have hk := key (M.wds s) none
  have hc := M.wds_count s
  rw [List.length_map] at hle
  omega

theorem mid64 (i j : Nat) (hi : i ≤ 33554432) (hj : j ≤ 33554432) : wrap64 ((IntKind.u64.wrap (wrap64 ((i : Int) + (j : Int)))) / 2) = (((i + j) / 2 : Nat) : Int) := by
  rw [M.w64 (x := (i : Int) + (j : Int)) (by omega) (by omega)]
  have e : IntKind.u64.wrap ((i : Int) + (j : Int)) = (i : Int) + (j : Int) := by
    have : ((i : Int) + (j : Int)) = ((i + j : Nat) : Int) := by omega
    rw [this]
    have h : i + j < 18446744073709551616 := by omega
    generalize i + j = n at h
    unfold IntKind.wrap
    simp [IntKind.bits, IntKind.signed]
    omega
  rw [e, M.w64 (by omega) (by omega)]
  omega
theorem less_eq (a b : ByteArray) : cmp_Less_string.f a b = some (Op.bytesLess (chrs a) (chrs b)) := by
  have h1 : (a.toList != a.toList) = false := by simp
  simp only [cmp_Less_string.f, cmp_isNaN_string.f, Option.bind_some]
  rw [h1, if_neg (by decide), chrs_toList, chrs_toList]
theorem search_loop (l : List ByteArray) (hl : l.length ≤ 33554432) (hr : M.Rise l) (z : ByteArray) : ∀ (d i j : Nat), j - i ≤ d → i ≤ j → j ≤ l.length → (∀ (q : Nat) (h : q < l.length), q < i → chrs l[q] < chrs z) → (∀ (q : Nat) (h : q < l.length), j ≤ q → ¬ chrs l[q] < chrs z) →
    ∃ r : Int, Ev (fun k => slices_BinarySearch_string_string.l0 k l z (l.length : Int) (i : Int) (j : Int)) (r, M.inB l z) := by
  have hend : ∀ i : Nat, i ≤ l.length → (∀ (q : Nat) (h : q < l.length), q < i → chrs l[q] < chrs z) → (∀ (q : Nat) (h : q < l.length), i ≤ q → ¬ chrs l[q] < chrs z) → Ev (fun k => slices_BinarySearch_string_string.l0 k l z (l.length : Int) (i : Int) (i : Int)) ((i : Int), M.inB l z) := by
    intro i hi h1 h2
    refine ev_some (fun k => ?_)
    simp only [slices_BinarySearch_string_string.l0, slices_isNaN_string.f]
    rw [if_neg (by omega)]
    by_cases hlt : i < l.length
    · rw [if_pos (by omega), if_pos (by omega), if_pos (by omega), rdB_nat hlt, chrs_toList, chrs_toList]
      by_cases he : chrs l[i] = chrs z
      · rw [if_pos he, (M.inB_iff l z).2 (chrs_inj he ▸ List.getElem_mem hlt)]
      · have hn : (chrs l[i] != chrs l[i]) = false := by simp
        rw [if_neg he, Option.bind_some, hn, if_neg (by decide)]
        have : M.inB l z = false := Bool.eq_false_iff.2 (fun hm => by
          obtain ⟨q, hq, hqz⟩ := List.getElem_of_mem ((M.inB_iff l z).1 hm)
          rcases Nat.lt_trichotomy q i with h | h | h
          · have := h1 q hq h; rw [hqz] at this; exact List.lt_irrefl _ this
          · subst h; exact he (by rw [hqz])
          · have hlt2 := (List.pairwise_iff_getElem.1 hr) i q hlt hq h
            rw [hqz] at hlt2
            exact h2 i hlt (Nat.le_refl _) hlt2)
        rw [this]
    · rw [if_neg (by omega)]
      have : M.inB l z = false := Bool.eq_false_iff.2 (fun hm => by
        obtain ⟨q, hq, hqz⟩ := List.getElem_of_mem ((M.inB_iff l z).1 hm)
        have := h1 q hq (by omega); rw [hqz] at this; exact List.lt_irrefl _ this)
      rw [this]
  intro d
  induction d with
  | zero =>
    intro i j hd hij hj h1 h2
    obtain rfl : i = j := by omega
    exact ⟨_, hend i hj h1 h2⟩
  | succ d ih =>
    intro i j hd hij hj h1 h2
    by_cases hlt : i < j
    · have hm : (i + j) / 2 < l.length := by omega
      by_cases hc : chrs l[(i + j) / 2] < chrs z
      · obtain ⟨r, hr2⟩ := ih ((i + j) / 2 + 1) j (by omega) (by omega) hj (fun q hq hqi => by
          rcases Nat.lt_or_ge q ((i + j) / 2) with h | h
          · exact List.lt_trans ((List.pairwise_iff_getElem.1 hr) q ((i + j) / 2) hq hm h) hc
          · obtain rfl : q = (i + j) / 2 := by omega
            exact hc) h2
        refine ⟨r, Ev.step (fun k => ?_) hr2⟩
        simp only [slices_BinarySearch_string_string.l0]
        rw [mid64 i j (by omega) (by omega), if_pos (by omega), if_pos (by omega), if_pos (by omega), rdB_nat hm, less_eq, Option.bind_some, if_pos ((less_iff _ _).2 hc), wp1 _ (by omega)]
      · obtain ⟨r, hr2⟩ := ih i ((i + j) / 2) (by omega) (by omega) (by omega) h1 (fun q hq hqi => by
          intro hq2
          rcases Nat.lt_or_ge ((i + j) / 2) q with h | h
          · exact hc (List.lt_trans ((List.pairwise_iff_getElem.1 hr) ((i + j) / 2) q hm hq h) hq2)
          · obtain rfl : q = (i + j) / 2 := by omega
            exact hc hq2)
        refine ⟨r, Ev.step (fun k => ?_) hr2⟩
        simp only [slices_BinarySearch_string_string.l0]
        rw [mid64 i j (by omega) (by omega), if_pos (by omega), if_pos (by omega), if_pos (by omega), rdB_nat hm, less_eq, Option.bind_some, if_neg (fun h => hc ((less_iff _ _).1 h))]
    · obtain rfl : i = j := by omega
      exact ⟨_, hend i hj h1 h2⟩
theorem Has_ev (q : Int) (hq : q = 1 ∨ q = 2) (z : ByteArray) (n t : Int) (id s : ByteArray) (hs : s.size ≤ 8388608) : Ev (fun k => match_Has.f k q z n ([] : List S41) id t s) (M.inB (M.terms s.data.toList) z) := by
  have hsz := Lib.size_eq s
  have hlen := terms_len s.data.toList
  obtain ⟨K1, h1⟩ := terms_ev s hs
  obtain ⟨r, K2, h2⟩ := search_loop (M.terms s.data.toList) (by omega) (M.uniq_ok _).1 z _ 0 (M.terms s.data.toList).length (Nat.le_refl _) (by omega) (Nat.le_refl _) (fun q h hq => absurd hq (by omega)) (fun q h hq => absurd hq (by omega))
  refine ⟨K1 + K2, fun k hk => ?_⟩
  have g1 := h1 k (by omega)
  have g2 := h2 k (by omega)
  dsimp only at g1 g2 ⊢
  simp only [match_Has.f]
  rw [g1, Option.bind_some]
  simp only [match_has.f, slices_BinarySearch_string_string.f]
  rw [if_pos hq, show (0 : Int) = ((0 : Nat) : Int) from rfl, g2]
  rfl
theorem there_loop (l m : List ByteArray) (hl : l.length ≤ 33554432) (hm : m.length ≤ 33554432) (id : ByteArray) (t : Int) (s : ByteArray) (hs : s.size ≤ 8388608) (hls : l = M.terms s.data.toList) (i : Nat) (hi : i < m.length) {R : Bool}
    (hnext : Ev (fun k => fascinelaw07_MatchTerms.l1 k l m ((i + 1 : Nat) : Int) id t s) R) : ∀ (d j : Nat), l.length - j = d → j ≤ l.length → Ev (fun k => fascinelaw07_MatchTerms.l2 k l m (i : Int) (M.inB (l.take j) m[i]) (j : Int) id t s) R := by
  intro d
  induction d with
  | zero =>
    intro j hd hj
    obtain rfl : j = l.length := by omega
    rw [List.take_length]
    obtain ⟨K1, h1⟩ := Has_ev 1 (.inl rfl) m[i] 0 t id s hs
    obtain ⟨K2, h2⟩ := hnext
    dsimp only at h1 h2
    refine ⟨K1 + K2 + 1, fun k hk => ?_⟩
    obtain ⟨k, rfl⟩ : ∃ j, k = j + 1 := ⟨k - 1, by omega⟩
    simp only [fascinelaw07_MatchTerms.l2]
    rw [if_neg (by omega), if_pos (by omega), if_pos (by omega), rdB_nat hi, h1 k (by omega), Option.bind_some, ← hls, wp1 i (by omega)]
    simp only [bne_self_eq_false, Bool.false_eq_true, if_false]
    exact h2 k (by omega)
  | succ d ih =>
    intro j hd hj
    have hlt : j < l.length := by omega
    have e : M.inB (l.take (j + 1)) m[i] = (M.inB (l.take j) m[i] || (chrs l[j] == chrs m[i])) := by
      rw [List.take_succ_eq_append_getElem hlt]
      unfold M.inB
      rw [List.any_append]
      simp
    refine Ev.step (fun k => ?_) (ih (j + 1) (by omega) (by omega))
    simp only [fascinelaw07_MatchTerms.l2]
    rw [if_pos (by omega), e, wp1 j (by omega)]
    cases hb : M.inB (l.take j) m[i] with
    | true => rw [if_pos rfl, Bool.true_or]
    | false => rw [if_neg (by decide), if_pos (by omega), if_pos (by omega), if_pos (by omega), rdB_nat hlt, rdB_nat hi, chrs_toList, chrs_toList, Bool.false_or]
theorem second_loop (l m : List ByteArray) (hl : l.length ≤ 33554432) (hm : m.length ≤ 33554432) (id : ByteArray) (t : Int) (s : ByteArray) (hs : s.size ≤ 8388608) (hls : l = M.terms s.data.toList) : ∀ (d i : Nat), m.length - i = d → i ≤ m.length → Ev (fun k => fascinelaw07_MatchTerms.l1 k l m (i : Int) id t s) true := by
  intro d
  induction d with
  | zero =>
    intro i hd hi
    exact ev_some (fun k => by simp only [fascinelaw07_MatchTerms.l1]; rw [if_neg (by omega)])
  | succ d ih =>
    intro i hd hi
    have hlt : i < m.length := by omega
    have h := there_loop l m hl hm id t s hs hls i hlt (ih (i + 1) (by omega) (by omega)) _ 0 rfl (by omega)
    refine Ev.step (fun k => ?_) h
    simp only [fascinelaw07_MatchTerms.l1]
    rw [if_pos (by omega)]
    rfl
theorem first_loop (l : List ByteArray) (hl : l.length ≤ 33554432) (x id : ByteArray) (t : Int) (s : ByteArray) (hx : x.size ≤ 8388608) (hs : s.size ≤ 8388608) (hls : l = M.terms s.data.toList) : ∀ (d i : Nat), l.length - i = d → i ≤ l.length → Ev (fun k => fascinelaw07_MatchTerms.l0 k x l (i : Int) id t s) true := by
  intro d
  induction d with
  | zero =>
    intro i hd hi
    have hsz := Lib.size_eq x
    have hlen := terms_len x.data.toList
    obtain ⟨K1, h1⟩ := refterms_ev x hx
    obtain ⟨K2, h2⟩ := second_loop l (M.terms x.data.toList) hl (by omega) id t s hs hls _ 0 rfl (by omega)
    dsimp only at h1 h2
    refine ⟨K1 + K2 + 1, fun k hk => ?_⟩
    obtain ⟨k, rfl⟩ : ∃ j, k = j + 1 := ⟨k - 1, by omega⟩
    simp only [fascinelaw07_MatchTerms.l0]
    rw [if_neg (by omega), h1 k (by omega), Option.bind_some]
    exact h2 k (by omega)
  | succ d ih =>
    intro i hd hi
    have hlt : i < l.length := by omega
    have hin : M.inB (M.terms s.data.toList) l[i] = true := (M.inB_iff _ _).2 (hls ▸ List.getElem_mem hlt)
    obtain ⟨K1, h1⟩ := Has_ev 1 (.inl rfl) l[i] 0 t id s hs
    obtain ⟨K2, h2⟩ := Has_ev 2 (.inr rfl) l[i] 0 t id s hs
    obtain ⟨K3, h3⟩ := ih (i + 1) (by omega) (by omega)
    rw [hin] at h1 h2
    dsimp only at h1 h2 h3
    refine ⟨K1 + K2 + K3 + 1, fun k hk => ?_⟩
    obtain ⟨k, rfl⟩ : ∃ j, k = j + 1 := ⟨k - 1, by omega⟩
    simp only [fascinelaw07_MatchTerms.l0]
    rw [if_pos (by omega), if_pos (by omega), rdB_nat hlt, h1 k (by omega), Option.bind_some, if_pos rfl, h2 k (by omega), Option.bind_some, if_pos rfl, wp1 i (by omega)]
    exact h3 k (by omega)
theorem MatchTerms : MatchTerms_PureU := by
  intro id t s x hid ht hs hx
  have hsz := Lib.size_eq s
  have hlen := terms_len s.data.toList
  refine Ev.rounds ?_
  refine Ev.congr (fun k => rfl) (Ev.bind awake_ev ?_)
  obtain ⟨K0, h0⟩ := awake_ev
  obtain ⟨K1, h1⟩ := refterms_ev s (by omega)
  obtain ⟨K2, h2⟩ := first_loop (M.terms s.data.toList) (by omega) x id t s (by omega) (by omega) rfl _ 0 rfl (by omega)
  dsimp only at h0 h1 h2
  have hj : ∀ b : Bool, Ev (fun k => fascinelaw07_MatchTerms.j0 k x b id t s) true := by
    intro b
    refine ⟨K0 + K1 + K2 + 1, fun k hk => ?_⟩
    obtain ⟨k, rfl⟩ : ∃ j, k = j + 1 := ⟨k - 1, by omega⟩
    simp only [fascinelaw07_MatchTerms.j0]
    cases b with
    | true => rw [if_pos rfl, h0 k (by omega)]; rfl
    | false => rw [if_neg (by decide), h1 k (by omega), Option.bind_some]; exact h2 k (by omega)
  refine Ev.congr (fun k => if_pos rfl) ?_
  by_cases c : ((s.size : Int) > 600)
  · exact Ev.congr (fun k => if_pos c) (hj true)
  · exact Ev.congr (fun k => if_neg c) (hj _)

end Go.Proofs.YtpkjfpapjcmhdaaDoor.Pure
