/- On the printed functions of WordsCase: what each of them answers, in plain words. -/
import Derived.Test.YtpkjfpapjcmhdaaDoorPWordsCasex
import Derived.Test.YtpkjfpapjcmhdaaDoorMTok
import Derived.Test.YtpkjfpapjcmhdaaDoorQWordsCase
namespace Go.Proofs.YtpkjfpapjcmhdaaDoor.Pure
open Go.RowKit Go.Proofs.YtpkjfpapjcmhdaaDoor.G Go.Proofs.YtpkjfpapjcmhdaaDoor.PWordsCase Go.Proofs.YtpkjfpapjcmhdaaDoorW.PrintWords Go.Proofs.YtpkjfpapjcmhdaaDoorW.PrintLast Go.Proofs.YtpkjfpapjcmhdaaDoorW.PrintMore Go.Proofs.YtpkjfpapjcmhdaaDoor.M
set_option linter.unusedVariables false
set_option linter.unusedSimpArgs false

theorem ev_some {α : Type} {g : Nat → Option α} {r : α} (h : ∀ k, g (k + 1) = some r) : Ev g r := Ev.step (f := fun _ => some r) h (Ev.now r)
theorem ev_mono {α : Type} {g : Nat → Option α} {r : α} (hg : ∀ k, LeO (g k) (g (k + 1))) {k : Nat} (h : g k = some r) : Ev g r := Ev.of hg h
theorem dec_at (s : ByteArray) (i : Nat) (h : i < s.size) : Lib.decodeGo (s.extract i s.size) = Lib.decodeL (s.data.toList.drop i) := by
  have e : (s.extract i s.size).data.toList = s.data.toList.drop i := by
    rw [Lib.extract_data, List.take_of_length_le (by rw [List.length_drop, ← Lib.size_eq]; exact Nat.le_refl _)]
  have e2 : s.extract i s.size = ⟨(s.data.toList.drop i).toArray⟩ := by
    rw [← e]
  have hz : (s.extract i s.size).size ≠ 0 := by
    rw [Lib.size_eq, e, List.length_drop, ← Lib.size_eq]; omega
  unfold Lib.decodeGo
  rw [if_neg hz, e2]
  rfl
def lowR (b : Nat) : Int := if 65 ≤ b ∧ b ≤ 90 then (b : Int) + 32 else (b : Int)
theorem letter_low : ∀ b : Fin 128, words_letter.f 1 (b.val : Int) 1 = some (lowR b.val, decide (M.low (UInt8.ofNat b.val) ≠ [])) := by decide +kernel
theorem enc_low : ∀ b : Fin 128, M.low (UInt8.ofNat b.val) ≠ [] → (Utf8.encode (lowR b.val)).data.toList = M.low (UInt8.ofNat b.val) := by decide +kernel
theorem letter_err1 : words_letter.f 1 65533 1 = some (65533, false) := by decide +kernel
theorem letter_err3 : words_letter.f 1 65533 3 = some (65533, true) := by decide +kernel
theorem letter_big {R n : Int} (h0 : 128 ≤ R) (h1 : R ≠ 65533) : words_letter.f 1 R n = some (R, true) := by
  unfold words_letter.f
  rw [if_pos (by omega)]
  simp only [words_letter.j0]
  rw [if_neg (by simp; omega), if_pos (by omega), if_neg (by omega), if_pos (by omega), if_neg (by omega), if_pos (by omega), if_neg h1]
/-- The program's letter at the first character of a text. -/
theorem letter_ev (l : List UInt8) (hne : l ≠ []) : (Lib.decodeL l).2 = (M.tok l).2 ∧ ∃ r : Int, Ev (fun k => words_letter.f k ((Lib.decodeL l).1 : Int) ((Lib.decodeL l).2 : Int)) (r, decide ((M.tok l).1 ≠ [])) ∧ ((M.tok l).1 ≠ [] → (Utf8.encode r).data.toList = (M.tok l).1) := by
  match l, hne with
  | b :: t, _ =>
    have hb256 := b.toNat_lt
    by_cases hb : b.toNat < 128
    · have hd := Lib.decodeL_ascii b t hb
      have ht : M.tok (b :: t) = (M.low b, 1) := by simp [M.tok, hb]
      rw [hd, ht]
      have hl := letter_low ⟨b.toNat, hb⟩
      have he := enc_low ⟨b.toNat, hb⟩
      simp only [UInt8.ofNat_toNat] at hl he
      exact ⟨rfl, lowR b.toNat, ev_mono (fun k => words_letter.mono _ _ k) hl, he⟩
    · have hN := Lib.decodeL_N (b :: t)
      have k0 : ((b :: t).getD 0 0).toNat = b.toNat := rfl
      rw [k0] at hN
      by_cases hd : (Lib.decodeL (b :: t)).1 = 65533 ∧ (Lib.decodeL (b :: t)).2 = 1
      · have ht : M.tok (b :: t) = ([], 1) := by simp [M.tok, hb, hd]
        rw [ht, hd.1, hd.2]
        exact ⟨rfl, 65533, ev_mono (fun k => words_letter.mono _ _ k) letter_err1, fun h => absurd rfl h⟩
      · have ht : M.tok (b :: t) = ((b :: t).take (Lib.decodeL (b :: t)).2, (Lib.decodeL (b :: t)).2) := by simp only [M.tok]; rw [if_neg hb, if_neg hd]
        have hw := Lib.decodeL_width (b :: t)
        have hne' : (M.tok (b :: t)).1 ≠ [] := by
          rw [ht]; intro h; have := congrArg List.length h; rw [List.length_take] at this; simp at this; omega
        have hv : (Lib.decodeL (b :: t)).1 < 55296 ∨ (57343 < (Lib.decodeL (b :: t)).1 ∧ (Lib.decodeL (b :: t)).1 ≤ 1114111) := by
          rw [hN]; exact Lib.decodeN_valid _ _ _ _ _ hb256
        have hle := Lib.decodeL_rune (b :: t)
        have hbig : 128 ≤ (Lib.decodeL (b :: t)).1 ∧ ((Lib.decodeL (b :: t)).1 = 65533 → (Lib.decodeL (b :: t)).2 = 3) := by
          rw [hN] at hd ⊢
          rcases Lib.decodeN_shape (b :: t).length b.toNat ((b :: t).getD 1 0).toNat ((b :: t).getD 2 0).toNat ((b :: t).getD 3 0).toNat with ⟨c, e⟩ | ⟨c1, c2, c3, cv, e⟩ | ⟨c1, c2, c3, c4, cv, cs, e⟩ | ⟨c1, c2, c3, c4, c5, cv, cw, e⟩ | e
          · omega
          · rw [e]; exact ⟨by simp only; omega, by simp only; omega⟩
          · rw [e]; exact ⟨by simp only; omega, fun _ => rfl⟩
          · rw [e]; exact ⟨by simp only; omega, by simp only; omega⟩
          · rw [e] at hd; exact absurd ⟨rfl, rfl⟩ hd
        have henc : (Utf8.encode ((Lib.decodeL (b :: t)).1 : Int)).data.toList = (M.tok (b :: t)).1 := by
          rw [M.utf8_encode_eq hle (by omega), Lib.encode_decode (b :: t) (by simp) hd, ht]
        refine ⟨by rw [ht], ((Lib.decodeL (b :: t)).1 : Int), ?_, fun _ => henc⟩
        rw [show decide ((M.tok (b :: t)).1 ≠ []) = true from decide_eq_true hne']
        by_cases h3 : (Lib.decodeL (b :: t)).1 = 65533
        · rw [h3, hbig.2 h3]
          exact ev_mono (fun k => words_letter.mono _ _ k) letter_err3
        · exact ev_mono (fun k => words_letter.mono _ _ k) (letter_big (by omega) (by omega))

def s34 (w : M.Wd) : S34 := ⟨⟨w.text.toArray⟩, (w.st : Int), (w.en : Int)⟩
theorem rd34_last (L : List S34) (a : S34) : rd_T34 (L ++ [a]) (L.length : Int) = a := by
  unfold rd_T34
  rw [Int.toNat_natCast, List.getD_eq_getElem?_getD, List.getElem?_append_right (Nat.le_refl _), Nat.sub_self]
  rfl
theorem set34_last (L : List S34) (a b : S34) : (L ++ [a]).set L.length b = L ++ [b] := by simp
theorem last64 (L : List S34) (a : S34) (h : L.length ≤ 8388608) : wrap64 (((L ++ [a]).length : Int) - 1) = (L.length : Int) := by
  rw [List.length_append, List.length_singleton, M.w64 (by omega) (by omega)]; omega
theorem app_eq (a t : List UInt8) (e : ByteArray) (h : e.data.toList = t) : (⟨a.toArray⟩ : ByteArray) ++ e = ⟨(a ++ t).toArray⟩ := by
  apply ByteArray.ext
  rw [ByteArray.data_append]
  apply Array.toList_inj.1
  simp [h]
theorem toksF_cons (f : Nat) (l : List UInt8) (h : l ≠ []) : M.toksF (f + 1) l = M.tok l :: M.toksF f (l.drop (M.tok l).2) := by
  cases l with
  | nil => exact absurd rfl h
  | cons b t => rfl
theorem words_loop (s : ByteArray) (hs : s.size ≤ 8388608) : ∀ (f i : Nat) (done : List M.Wd) (cur : Option M.Wd), s.size - i ≤ f → i ≤ s.size → done.length + cur.toList.length ≤ i → (∀ c, cur = some c → c.text.length ≤ i) →
    Ev (fun k => words_Words.l0 k s ((done ++ cur.toList).map s34) cur.isSome (i : Int)) ((done ++ M.gw (M.toksF f (s.data.toList.drop i)) i cur).map s34) := by
  intro f
  induction f with
  | zero =>
    intro i done cur hf hi hd hc
    exact ev_some (fun k => by simp only [words_Words.l0]; rw [if_neg (by omega)]; simp [M.toksF, M.gw])
  | succ f ih =>
    intro i done cur hf hi hd hc
    by_cases hlt : i < s.size
    · have hsz := Lib.size_eq s
      have hne : s.data.toList.drop i ≠ [] := by
        intro h; have := congrArg List.length h; rw [List.length_drop] at this; simp at this; omega
      obtain ⟨hn, r, ⟨K, hK⟩, henc⟩ := letter_ev _ hne
      have hdec := dec_at s i hlt
      have hpos := M.tok_pos (s.data.toList.drop i)
      have hle := M.tok_le _ hne
      have htl := M.tok_len (s.data.toList.drop i)
      have h4 := M.tok_le4 (s.data.toList.drop i)
      rw [List.length_drop, ← hsz] at hle
      rw [toksF_cons f _ hne, List.drop_drop]
      generalize M.tok (s.data.toList.drop i) = tk at *
      obtain ⟨tx, n⟩ := tk
      simp only at hn hpos hle htl h4 henc hK ⊢
      have e64 : wrap64 ((i : Int) + (n : Int)) = ((i + n : Nat) : Int) := by rw [M.w64 (by omega) (by omega)]; omega
      have hlen : ((done ++ cur.toList).map s34).length ≤ i := by simp; omega
      by_cases htx : tx = []
      · have hb : decide (tx ≠ []) = false := by simp [htx]
        rw [hb] at hK
        obtain ⟨K', hK'⟩ := ih (i + n) (done ++ cur.toList) none (by omega) (by omega) (by simp; omega) (by simp)
        refine ⟨K + K' + 1, fun k hk => ?_⟩
        obtain ⟨k, rfl⟩ : ∃ j, k = j + 1 := ⟨k - 1, by omega⟩
        have h2 := hK' k (by omega)
        simp only [words_Words.l0]
        rw [if_pos (by omega), if_pos (by omega), if_pos (by omega)]
        simp only [utf8_DecodeRuneInString.f, Option.bind_some, Int.toNat_natCast]
        rw [hdec, hK k (by omega), Option.bind_some, if_neg (by simp), hn, e64]
        simp only [Option.toList_none, List.append_nil, Option.isSome_none] at h2
        simp only [M.gw]
        rw [if_pos htx, h2, List.append_assoc]
      · have hb : decide (tx ≠ []) = true := by simp [htx]
        have henc := henc htx
        have htl := htl htx
        rw [hb] at hK
        have hes : (Utf8.encode r).size = n := by rw [Lib.size_eq, henc, htl]
        cases cur with
        | none =>
          obtain ⟨K', hK'⟩ := ih (i + n) done (some ⟨tx, i, i + n⟩) (by omega) (by omega) (by simp at hd ⊢; omega) (by intro c hc; cases hc; simp only; omega)
          refine ⟨K + K' + 1, fun k hk => ?_⟩
          obtain ⟨k, rfl⟩ : ∃ j, k = j + 1 := ⟨k - 1, by omega⟩
          have h2 := hK' k (by omega)
          simp only [words_Words.l0]
          rw [if_pos (by omega), if_pos (by omega), if_pos (by omega)]
          simp only [utf8_DecodeRuneInString.f, Option.bind_some, Int.toNat_natCast]
          rw [hdec, hK k (by omega), Option.bind_some, if_pos rfl, if_neg (by simp), if_pos (by omega)]
          simp only [Option.toList_none, List.append_nil] at hlen ⊢
          simp only [last64 _ _ (show ((done.map s34)).length ≤ 8388608 by omega)]
          rw [if_pos (by omega), if_pos (by simp; omega)]
          simp only [rd34_last, set34_last, Int.toNat_natCast, Option.bind_some]
          rw [if_pos (by rw [hes]; show 0 + n ≤ 9223372036854775807; omega)]
          have ea := app_eq [] tx _ henc
          simp only [List.nil_append] at ea
          rw [hn, e64, show ((⟨#[]⟩ : ByteArray) ++ Utf8.encode r) = ⟨tx.toArray⟩ from ea]
          simp only [Option.toList_some, List.map_append, List.map_cons, List.map_nil, Option.isSome_some] at h2
          simp only [M.gw]
          rw [if_neg htx]
          simpa [s34] using h2
        | some c =>
          have hct := hc c rfl
          simp only [Option.toList_some, List.length_singleton] at hd
          by_cases h32 : c.text.length + n > 32
          · obtain ⟨K', hK'⟩ := ih (i + n) (done ++ [c]) (some ⟨tx, i, i + n⟩) (by omega) (by omega) (by simp; omega) (by intro c hc; cases hc; simp only; omega)
            refine ⟨K + K' + 1, fun k hk => ?_⟩
            obtain ⟨k, rfl⟩ : ∃ j, k = j + 1 := ⟨k - 1, by omega⟩
            have h2 := hK' k (by omega)
            simp only [words_Words.l0]
            rw [if_pos (by omega), if_pos (by omega), if_pos (by omega)]
            simp only [utf8_DecodeRuneInString.f, Option.bind_some, Int.toNat_natCast]
            rw [hdec, hK k (by omega), Option.bind_some, if_pos rfl, if_pos (by simp)]
            simp only [Option.toList_some, List.map_append, List.map_cons, List.map_nil] at hlen ⊢
            have hl1 : (done.map s34).length ≤ 8388608 := by simp at hlen ⊢; omega
            have hl2 : (done.map s34 ++ [s34 c]).length ≤ 8388608 := by simp at hlen ⊢; omega
            simp only [last64 _ _ hl1]
            rw [if_pos (by omega), if_pos (by simp; omega)]
            simp only [rd34_last]
            rw [if_pos (by
              show wrap64 (((⟨c.text.toArray⟩ : ByteArray).size : Int) + _) > 32
              rw [hn, show (⟨c.text.toArray⟩ : ByteArray).size = c.text.length from by simp [ByteArray.size], M.w64 (by omega) (by omega)]; omega), if_pos (by omega)]
            simp only [last64 _ _ hl2]
            rw [if_pos (by omega), if_pos (by simp; try omega)]
            simp only [rd34_last, set34_last, Int.toNat_natCast, Option.bind_some]
            rw [if_pos (by rw [hes]; show 0 + n ≤ 9223372036854775807; omega)]
            have ea := app_eq [] tx _ henc
            simp only [List.nil_append] at ea
            rw [hn, e64, show ((⟨#[]⟩ : ByteArray) ++ Utf8.encode r) = ⟨tx.toArray⟩ from ea]
            simp only [Option.toList_some, List.map_append, List.map_cons, List.map_nil, Option.isSome_some] at h2
            simp only [M.gw]
            rw [if_neg htx, if_pos h32]
            simpa [s34] using h2
          · obtain ⟨K', hK'⟩ := ih (i + n) done (some ⟨c.text ++ tx, c.st, i + n⟩) (by omega) (by omega) (by simp; omega) (by intro c hc; cases hc; simp only [List.length_append]; omega)
            refine ⟨K + K' + 1, fun k hk => ?_⟩
            obtain ⟨k, rfl⟩ : ∃ j, k = j + 1 := ⟨k - 1, by omega⟩
            have h2 := hK' k (by omega)
            simp only [words_Words.l0]
            rw [if_pos (by omega), if_pos (by omega), if_pos (by omega)]
            simp only [utf8_DecodeRuneInString.f, Option.bind_some, Int.toNat_natCast]
            rw [hdec, hK k (by omega), Option.bind_some, if_pos rfl, if_pos (by simp)]
            simp only [Option.toList_some, List.map_append, List.map_cons, List.map_nil] at hlen ⊢
            have hl1 : (done.map s34).length ≤ 8388608 := by simp at hlen ⊢; omega
            simp only [last64 _ _ hl1]
            rw [if_pos (by omega), if_pos (by simp; omega)]
            simp only [rd34_last]
            have hcs : (s34 c).f0.size = c.text.length := by simp [s34, ByteArray.size]
            rw [if_neg (by rw [hn, hcs, M.w64 (by omega) (by omega)]; omega), if_pos (by rw [hes, hcs]; omega)]
            simp only [rd34_last, set34_last, Int.toNat_natCast, Option.bind_some]
            have ea := app_eq c.text tx _ henc
            rw [hn, e64, show ((s34 c).f0 ++ Utf8.encode r) = ⟨(c.text ++ tx).toArray⟩ from ea]
            simp only [Option.toList_some, List.map_append, List.map_cons, List.map_nil, Option.isSome_some] at h2
            simp only [M.gw]
            rw [if_neg htx, if_neg h32]
            simpa [s34] using h2
    · obtain rfl : i = s.size := by omega
      have he : s.data.toList.drop s.size = [] := by rw [Lib.size_eq]; simp
      rw [he]
      exact ev_some (fun k => by simp only [words_Words.l0]; rw [if_neg (by omega)]; simp [M.toksF, M.gw])
theorem words_ev (s : ByteArray) (hs : s.size ≤ 8388608) : Ev (fun k => words_Words.f k s) ((M.wds s.data.toList).map s34) := by
  have h := words_loop s hs s.size 0 [] none (by omega) (by omega) (by simp) (by simp)
  refine Ev.congr (f := fun k => words_Words.l0 k s [] false 0) (fun k => rfl) ?_
  simpa [M.wds, M.toks, ← Lib.size_eq] using h

theorem awake_ev : Ev (fun k => fascinelaw05_awake.f k) true := ev_mono (fun k => fascinelaw05_awake.mono k) (k := 60) (by decide +kernel)

theorem toList_mk (l : List UInt8) : (⟨l.toArray⟩ : ByteArray).toList = l := by rw [Lib.toList_data]
theorem size_mk (l : List UInt8) : (⟨l.toArray⟩ : ByteArray).size = l.length := by simp [ByteArray.size]
theorem app_mk (a t : List UInt8) : (⟨a.toArray⟩ : ByteArray) ++ ⟨t.toArray⟩ = ⟨(a ++ t).toArray⟩ := app_eq a t _ rfl

theorem rd34_nat {l : List M.Wd} {j : Nat} (h : j < l.length) : rd_T34 (l.map s34) (j : Int) = s34 l[j] := by
  unfold rd_T34
  rw [Int.toNat_natCast, List.getD_eq_getElem?_getD, List.getElem?_eq_getElem (by simpa using h)]
  simp
theorem pair_text (v w : List UInt8) : ((⟨v.toArray⟩ : ByteArray) ++ (⟨#[61]⟩ : ByteArray)) ++ ⟨w.toArray⟩ = ⟨(v ++ 61 :: w).toArray⟩ := by
  rw [show (⟨#[61]⟩ : ByteArray) = ⟨[61].toArray⟩ from rfl, app_mk, app_mk, List.append_assoc]; rfl

theorem less_iff : ∀ (a b : List UInt8), Op.bytesLess a b = true ↔ a < b
  | [], [] => by simp [Op.bytesLess]
  | [], _ :: _ => by simp [Op.bytesLess]
  | _ :: _, [] => by simp [Op.bytesLess]
  | x :: a, y :: b => by
    simp only [Op.bytesLess, List.cons_lt_cons_iff]
    have ih := less_iff a b
    by_cases h : x < y
    · simp [h]
    · by_cases h2 : x = y
      · subst h2; simp [ih]
      · simp [h, h2]
theorem rdB_nat {l : List ByteArray} {j : Nat} (h : j < l.length) : rdOf ByteArray.empty l (j : Int) = l[j] := by
  unfold rdOf
  rw [Int.toNat_natCast, List.getD_eq_getElem?_getD, List.getElem?_eq_getElem h]
  rfl
theorem chrs_toList (x : ByteArray) : x.toList = chrs x := by rw [Lib.toList_data]; rfl

theorem wp1 (i : Nat) (h : i ≤ 33554432) : wrap64 ((i : Int) + 1) = ((i + 1 : Nat) : Int) := by rw [M.w64 (by omega) (by omega)]; omega
theorem wm1 (i : Nat) (h0 : 1 ≤ i) (h : i ≤ 33554432) : wrap64 ((i : Int) - 1) = ((i - 1 : Nat) : Int) := by rw [M.w64 (by omega) (by omega)]; omega

def pv (W : List M.Wd) (i : Nat) : Option M.Wd := if i = 0 then none else W[i - 1]?
theorem bt_getD (s : ByteArray) (j : Nat) (h : j < s.size) : bt s (j : Int) = ((s.data.toList.getD j 0).toNat : Int) := by
  have e := Lib.data_getElem? s j h
  unfold bt
  simp only [Int.toNat_natCast, h, dif_pos]
  rw [List.getD_eq_getElem?_getD, e]
  rfl
theorem bt_eq (s : ByteArray) (j : Nat) (h : j < s.size) : bt s (j : Int) = 61 ↔ s.data.toList.getD j 0 = 61 := by
  rw [bt_getD s j h]
  constructor
  · intro e; exact UInt8.toNat_inj.1 (by simpa using (by omega : (s.data.toList.getD j 0).toNat = 61))
  · intro e; rw [e]; rfl
theorem terms_loop (s : ByteArray) (hs : s.size ≤ 8388608) (W : List M.Wd) (hW : W.length ≤ 8388608) (hin : ∀ w ∈ W, w.st ≤ s.size ∧ w.en ≤ s.size ∧ w.text.length ≤ 32) : ∀ (d i : Nat) (out : List ByteArray), W.length - i = d → i ≤ W.length → out.length + 2 * d ≤ 33554432 →
    Ev (fun k => words_Terms.l0 k s out (W.map s34) (W.map s34) (W.length : Int) (i : Int)) (M.uniq (out ++ (M.tms s.data.toList (pv W i) (W.drop i)).map unchrs)) := by
  intro d
  induction d with
  | zero =>
    intro i out hd hi ho
    have hdr : W.drop i = [] := by rw [List.drop_eq_nil_iff]; omega
    rw [hdr]
    refine ev_some (fun k => ?_)
    simp only [words_Terms.l0, slices_Sort_string_string.f, slices_Compact_string_string.f]
    rw [if_neg (by omega), if_pos (by omega)]
    simp [M.tms, M.uniq]
  | succ d ih =>
    intro i out hd hi ho
    have hlt : i < W.length := by omega
    have hdr : W.drop i = W[i] :: W.drop (i + 1) := List.drop_eq_getElem_cons hlt
    have hw := hin W[i] (List.getElem_mem hlt)
    have hpv : pv W (i + 1) = some W[i] := by simp [pv, hlt]
    have f0 : (s34 W[i]).f0 = unchrs W[i].text := rfl
    have f1 : (s34 W[i]).f1 = (W[i].st : Int) := rfl
    have lenm : ((W.map s34).length : Int) = (W.length : Int) := by simp
    -- without a pair
    have plain : Ev (fun k => words_Terms.l0 k s (out ++ [unchrs W[i].text]) (W.map s34) (W.map s34) (W.length : Int) (wrap64 ((i : Int) + 1))) (M.uniq (out ++ (W[i].text :: M.tms s.data.toList (some W[i]) (W.drop (i + 1))).map unchrs)) := by
      have h2 := ih (i + 1) (out ++ [unchrs W[i].text]) (by omega) (by omega) (by simp; omega)
      rw [hpv] at h2
      rw [wp1 i (by omega)]
      simpa using h2
    by_cases hi0 : i = 0
    · subst hi0
      refine Ev.step (fun k => ?_) (g := fun k => words_Terms.l0 k s out (W.map s34) (W.map s34) (W.length : Int) ((0 : Nat) : Int)) (f := fun k => words_Terms.l0 k s (out ++ [unchrs W[0].text]) (W.map s34) (W.map s34) (W.length : Int) (wrap64 (((0 : Nat) : Int) + 1))) ?_
      · simp only [words_Terms.l0]
        rw [if_pos (by omega), if_pos (by omega), if_pos (by rw [lenm]; omega), if_pos (by omega)]
        simp only [Option.bind_some]
        rw [if_neg (by omega), rd34_nat hlt, f0]
      · rw [hdr]
        simpa [M.tms, pv] using plain
    · have hp1 : i - 1 < W.length := by omega
      have hv := hin W[i - 1] (List.getElem_mem hp1)
      have hpv0 : pv W i = some W[i - 1] := by simp [pv, hi0, hp1]
      have g0 : (s34 W[i - 1]).f0 = unchrs W[i - 1].text := rfl
      have g2 : (s34 W[i - 1]).f2 = (W[i - 1].en : Int) := rfl
      by_cases hc : W[i - 1].en + 1 = W[i].st ∧ s.data.toList.getD (W[i].st - 1) 0 = 61
      · have est : wrap64 ((W[i].st : Int) - 1) = ((W[i].st - 1 : Nat) : Int) := by rw [M.w64 (by omega) (by omega)]; omega
        have hbt := (bt_eq s (W[i].st - 1) (by omega)).2 hc.2
        have h2 := ih (i + 1) (out ++ [unchrs W[i].text] ++ [unchrs (W[i - 1].text ++ 61 :: W[i].text)]) (by omega) (by omega) (by simp; omega)
        rw [hpv] at h2
        refine Ev.step (fun k => ?_) (f := fun k => words_Terms.l0 k s (out ++ [unchrs W[i].text] ++ [unchrs (W[i - 1].text ++ 61 :: W[i].text)]) (W.map s34) (W.map s34) (W.length : Int) ((i + 1 : Nat) : Int)) ?_
        · simp only [words_Terms.l0]
          rw [if_pos (by omega), if_pos (by omega), if_pos (by rw [lenm]; omega), if_pos (by omega)]
          simp only [Option.bind_some]
          rw [if_pos (by omega), wm1 i (by omega) (by omega), if_pos (by omega), if_pos (by rw [lenm]; omega), rd34_nat hlt, rd34_nat hp1, f0, f1, g0, g2, wp1 W[i - 1].en (by omega), if_pos (by omega), wm1 W[i].st (by omega) (by omega), if_pos (by omega), if_pos (by omega), if_pos hbt,
            if_pos (by show (⟨W[i - 1].text.toArray⟩ : ByteArray).size + 1 ≤ _; rw [size_mk]; omega), if_pos (by show (⟨W[i - 1].text.toArray⟩ : ByteArray).size + 1 + (⟨W[i].text.toArray⟩ : ByteArray).size ≤ _; rw [size_mk, size_mk]; omega), if_pos (by simp; omega), wp1 i (by omega)]
          rw [show (unchrs W[i - 1].text ++ (⟨#[61]⟩ : ByteArray)) ++ unchrs W[i].text = unchrs (W[i - 1].text ++ 61 :: W[i].text) from pair_text _ _]
        · rw [hdr, hpv0]
          simp only [M.tms]
          rw [if_pos hc]
          simpa using h2
      · refine Ev.step (fun k => ?_) (f := fun k => words_Terms.l0 k s (out ++ [unchrs W[i].text]) (W.map s34) (W.map s34) (W.length : Int) (wrap64 ((i : Int) + 1))) ?_
        · simp only [words_Terms.l0]
          rw [if_pos (by omega), if_pos (by omega), if_pos (by rw [lenm]; omega), if_pos (by omega)]
          simp only [Option.bind_some]
          rw [if_pos (by omega), wm1 i (by omega) (by omega), if_pos (by omega), if_pos (by rw [lenm]; omega), rd34_nat hlt, rd34_nat hp1, f0, f1, g0, g2, wp1 W[i - 1].en (by omega)]
          by_cases h1 : W[i - 1].en + 1 = W[i].st
          · have est : wrap64 ((W[i].st : Int) - 1) = ((W[i].st - 1 : Nat) : Int) := by rw [M.w64 (by omega) (by omega)]; omega
            rw [if_pos (by omega), wm1 W[i].st (by omega) (by omega), if_pos (by omega), if_pos (by omega), if_neg (fun h => hc ⟨h1, (bt_eq s (W[i].st - 1) (by omega)).1 h⟩)]
          · rw [if_neg (by omega)]
        · rw [hdr, hpv0]
          simp only [M.tms]
          rw [if_neg hc, List.nil_append]
          exact plain
theorem terms_ev (s : ByteArray) (hs : s.size ≤ 8388608) : Ev (fun k => words_Terms.f k s) (M.terms s.data.toList) := by
  have hsz := Lib.size_eq s
  have hc := M.wds_count s.data.toList
  refine Ev.congr (fun k => rfl) (Ev.bind (words_ev s hs) ?_)
  have h := terms_loop s hs (M.wds s.data.toList) (by omega) (fun w hw => ⟨by have := (M.wds_in _ w hw).1; omega, by have := (M.wds_in _ w hw).2; omega, M.wds_len _ w hw⟩) _ 0 [] rfl (by omega) (by simp; omega)
  simpa [M.terms, pv] using h

theorem nodup_len' : ∀ {A C : List ByteArray}, A.Nodup → (∀ x ∈ A, x ∈ C) → A.length ≤ C.length
  | [], C, _, _ => by simp
  | x :: r, C, hA, h => by
    obtain ⟨a, b, rfl⟩ := List.append_of_mem (h x List.mem_cons_self)
    have h1 := List.nodup_cons.1 hA
    have := nodup_len' (C := a ++ b) h1.2 (fun y hy => by
      have hne : y ≠ x := fun e => h1.1 (e ▸ hy)
      have := h y (List.mem_cons_of_mem _ hy)
      simp only [List.mem_append, List.mem_cons] at this ⊢
      rcases this with h | h | h
      · exact .inl h
      · exact absurd h hne
      · exact .inr h)
    simp only [List.length_cons, List.length_append] at this ⊢
    omega
theorem terms_len (s : List UInt8) : (M.terms s).length ≤ 2 * s.length := by
  have h1 := (M.uniq_ok ((M.tms s none (M.wds s)).map unchrs))
  have hn := M.Rise.nodup h1.1
  have hle : (M.terms s).length ≤ ((M.tms s none (M.wds s)).map unchrs).length := nodup_len' hn (fun x hx => (h1.2 x).1 hx)
  have key : ∀ (W : List M.Wd) (p : Option M.Wd), (M.tms s p W).length ≤ 2 * W.length := by
    intro W
    induction W with
    | nil => intro p; simp [M.tms]
    | cons w r ih =>
      intro p
      have := ih (some w)
      simp only [M.tms, List.length_cons, List.length_append]
      cases p with
      | none => simp only [List.length_nil]; omega
      | some v => simp only; split <;> simp only [List.length_cons, List.length_nil] <;> omega
  have hk := key (M.wds s) none
  have hc := M.wds_count s
  rw [List.length_map] at hle
  omega

theorem flip_all : ∀ (back : Bool) (n : Fin 256), (n.val < 128 → (fascinelaw05_turned.tb back (UInt8.ofNat n.val)).toNat < 128 ∧ M.low (fascinelaw05_turned.tb back (UInt8.ofNat n.val)) = M.low (UInt8.ofNat n.val)) ∧ (128 ≤ n.val → fascinelaw05_turned.tb back (UInt8.ofNat n.val) = UInt8.ofNat n.val) ∧ (fascinelaw05_turned.tb back (UInt8.ofNat n.val) = 61 ↔ UInt8.ofNat n.val = 61) := by decide +kernel
theorem flip_tb (back : Bool) : M.Flip (fascinelaw05_turned.tb back) := by
  have key := fun b : UInt8 => flip_all back ⟨b.toNat, b.toNat_lt⟩
  simp only [UInt8.ofNat_toNat] at key
  exact ⟨fun b hb => (key b).1 hb, fun b hb => (key b).2.1 hb, fun b => (key b).2.2⟩
theorem turned_terms (s : ByteArray) (hs : s.size ≤ 1048576) (back : Bool) : ∃ t, fascinelaw05_turned.f s back = some t ∧ Ev (fun k => words_Terms.f k t) (M.terms s.data.toList) := by
  refine ⟨_, if_pos (by omega), ?_⟩
  have h := terms_ev (⟨(s.data.toList.map (fascinelaw05_turned.tb back)).toArray⟩ : ByteArray) (by rw [size_mk, List.length_map, ← Lib.size_eq]; omega)
  rw [show (⟨(s.data.toList.map (fascinelaw05_turned.tb back)).toArray⟩ : ByteArray).data.toList = s.data.toList.map (fascinelaw05_turned.tb back) from rfl, M.terms_map _ (flip_tb back)] at h
  exact h
theorem case_loop (l : List ByteArray) (hl : l.length ≤ 33554432) : ∀ (d i : Nat), l.length - i = d → i ≤ l.length → Ev (fun k => fascinelaw05_WordsCase.l0 k l l l (i : Int)) true := by
  intro d
  induction d with
  | zero =>
    intro i hd hi
    exact ev_some (fun k => by simp only [fascinelaw05_WordsCase.l0]; rw [if_neg (by omega)])
  | succ d ih =>
    intro i hd hi
    refine Ev.step (fun k => ?_) (ih (i + 1) (by omega) (by omega))
    simp only [fascinelaw05_WordsCase.l0]
    rw [if_pos (by omega), if_pos (by omega), if_pos (by omega), if_pos trivial, wp1 i (by omega)]
    rw [if_pos (show (i : Int) < (l.length : Int) by omega), if_pos trivial]
theorem WordsCase : WordsCase_PureU := by
  intro s hs
  have hsz := Lib.size_eq s
  have hlen := terms_len s.data.toList
  refine Ev.rounds ?_
  refine Ev.congr (fun k => rfl) (Ev.bind awake_ev ?_)
  obtain ⟨t0, e0, K0, h0⟩ := turned_terms s hs false
  obtain ⟨t1, e1, K1, h1⟩ := turned_terms s hs true
  obtain ⟨K2, h2⟩ := terms_ev s (by omega)
  obtain ⟨K3, h3⟩ := case_loop (M.terms s.data.toList) (by omega) _ 0 rfl (by omega)
  dsimp only at h0 h1 h2 h3
  refine ⟨K0 + K1 + K2 + K3 + 1, fun k hk => ?_⟩
  obtain ⟨k, rfl⟩ : ∃ j, k = j + 1 := ⟨k - 1, by omega⟩
  dsimp only
  rw [if_pos rfl, e0, Option.bind_some, h0 (k + 1) (by omega), Option.bind_some, e1, Option.bind_some, h1 (k + 1) (by omega), Option.bind_some, h2 (k + 1) (by omega), Option.bind_some, if_pos rfl]
  simp only [fascinelaw05_WordsCase.j0, bne_self_eq_false, Bool.false_eq_true, if_false]
  exact h3 k (by omega)

end Go.Proofs.YtpkjfpapjcmhdaaDoor.Pure
