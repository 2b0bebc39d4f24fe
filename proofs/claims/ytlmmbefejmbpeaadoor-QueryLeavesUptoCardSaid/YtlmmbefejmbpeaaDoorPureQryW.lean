/- On the printed functions of Qry0: what each of them answers, in plain words. -/
import Derived.Test.YtlmmbefejmbpeaaDoorPQry0x
import Derived.Test.YtlmmbefejmbpeaaDoorMArith
import Derived.Test.YtlmmbefejmbpeaaDoorMWords
namespace Go.Proofs.YtlmmbefejmbpeaaDoor.Pure
open Go.RowKit Go.Proofs.YtlmmbefejmbpeaaDoor.G Go.Proofs.YtlmmbefejmbpeaaDoor.PQry0 Go.Proofs.YtlmmbefejmbpeaaDoorW.PrintWords Go.Proofs.YtlmmbefejmbpeaaDoorW.PrintLast Go.Proofs.YtlmmbefejmbpeaaDoorW.PrintMore Go.Proofs.YtlmmbefejmbpeaaDoor.M
set_option linter.unusedVariables false
set_option linter.unusedSimpArgs false

theorem ev_some {α : Type} {g : Nat → Option α} {r : α} (h : ∀ k, g (k + 1) = some r) : Ev g r := Ev.step (f := fun _ => some r) h (Ev.now r)
theorem ev_mono {α : Type} {g : Nat → Option α} {r : α} (hg : ∀ k, LeO (g k) (g (k + 1))) {k : Nat} (h : g k = some r) : Ev g r := Ev.of hg h
theorem dec_at (s : ByteArray) (i : Nat) (h : i < s.size) : Lib.decodeGo (s.extract i s.size) = Lib.decodeL (s.data.toList.drop i) := by
  have e : (s.extract i s.size).data.toList = s.data.toList.drop i := by
    rw [Lib.extract_data, List.take_of_length_le (by rw [List.length_drop, ← Lib.size_eq]; exact Nat.le_refl _)]
  have e2 : s.extract i s.size = ⟨(s.data.toList.drop i).toArray⟩ := by
    rw [← e]
  have hz : (s.extract i s.size).size ≠ 0 := by
    rw [Lib.size_eq, e, List.length_drop, ← Lib.size_eq]; omega
  unfold Lib.decodeGo
  rw [if_neg hz, e2]
  rfl
def lowR (b : Nat) : Int := if 65 ≤ b ∧ b ≤ 90 then (b : Int) + 32 else (b : Int)
theorem letter_low : ∀ b : Fin 128, words_letter.f 1 (b.val : Int) 1 = some (lowR b.val, decide (M.low (UInt8.ofNat b.val) ≠ [])) := by decide +kernel
theorem enc_low : ∀ b : Fin 128, M.low (UInt8.ofNat b.val) ≠ [] → (Utf8.encode (lowR b.val)).data.toList = M.low (UInt8.ofNat b.val) := by decide +kernel
theorem letter_err1 : words_letter.f 1 65533 1 = some (65533, false) := by decide +kernel
theorem letter_err3 : words_letter.f 1 65533 3 = some (65533, true) := by decide +kernel
theorem letter_big {R n : Int} (h0 : 128 ≤ R) (h1 : R ≠ 65533) : words_letter.f 1 R n = some (R, true) := by
  unfold words_letter.f
  rw [if_pos (by omega)]
  simp only [words_letter.j0]
  rw [if_neg (by simp; omega), if_pos (by omega), if_neg (by omega), if_pos (by omega), if_neg (by omega), if_pos (by omega), if_neg h1]
/-- The program's letter at the first character of a text. -/
theorem letter_ev (l : List UInt8) (hne : l ≠ []) : (Lib.decodeL l).2 = (M.tok l).2 ∧ ∃ r : Int, Ev (fun k => words_letter.f k ((Lib.decodeL l).1 : Int) ((Lib.decodeL l).2 : Int)) (r, decide ((M.tok l).1 ≠ [])) ∧ ((M.tok l).1 ≠ [] → (Utf8.encode r).data.toList = (M.tok l).1) := by
  match l, hne with
  | b :: t, _ =>
    have hb256 := b.toNat_lt
    by_cases hb : b.toNat < 128
    · have hd := Lib.decodeL_ascii b t hb
      have ht : M.tok (b :: t) = (M.low b, 1) := by simp [M.tok, hb]
      rw [hd, ht]
      have hl := letter_low ⟨b.toNat, hb⟩
      have he := enc_low ⟨b.toNat, hb⟩
      simp only [UInt8.ofNat_toNat] at hl he
      exact ⟨rfl, lowR b.toNat, ev_mono (fun k => words_letter.mono _ _ k) hl, he⟩
    · have hN := Lib.decodeL_N (b :: t)
      have k0 : ((b :: t).getD 0 0).toNat = b.toNat := rfl
      rw [k0] at hN
      by_cases hd : (Lib.decodeL (b :: t)).1 = 65533 ∧ (Lib.decodeL (b :: t)).2 = 1
      · have ht : M.tok (b :: t) = ([], 1) := by simp [M.tok, hb, hd]
        rw [ht, hd.1, hd.2]
        exact ⟨rfl, 65533, ev_mono (fun k => words_letter.mono _ _ k) letter_err1, fun h => absurd rfl h⟩
      · have ht : M.tok (b :: t) = ((b :: t).take (Lib.decodeL (b :: t)).2, (Lib.decodeL (b :: t)).2) := by simp only [M.tok]; rw [if_neg hb, if_neg hd]
        have hw := Lib.decodeL_width (b :: t)
        have hne' : (M.tok (b :: t)).1 ≠ [] := by
          rw [ht]; intro h; have := congrArg List.length h; rw [List.length_take] at this; simp at this; omega
        have hv : (Lib.decodeL (b :: t)).1 < 55296 ∨ (57343 < (Lib.decodeL (b :: t)).1 ∧ (Lib.decodeL (b :: t)).1 ≤ 1114111) := by
          rw [hN]; exact Lib.decodeN_valid _ _ _ _ _ hb256
        have hle := Lib.decodeL_rune (b :: t)
        have hbig : 128 ≤ (Lib.decodeL (b :: t)).1 ∧ ((Lib.decodeL (b :: t)).1 = 65533 → (Lib.decodeL (b :: t)).2 = 3) := by
          rw [hN] at hd ⊢
          rcases Lib.decodeN_shape (b :: t).length b.toNat ((b :: t).getD 1 0).toNat ((b :: t).getD 2 0).toNat ((b :: t).getD 3 0).toNat with ⟨c, e⟩ | ⟨c1, c2, c3, cv, e⟩ | ⟨c1, c2, c3, c4, cv, cs, e⟩ | ⟨c1, c2, c3, c4, c5, cv, cw, e⟩ | e
          · omega
          · rw [e]; exact ⟨by simp only; omega, by simp only; omega⟩
          · rw [e]; exact ⟨by simp only; omega, fun _ => rfl⟩
          · rw [e]; exact ⟨by simp only; omega, by simp only; omega⟩
          · rw [e] at hd; exact absurd ⟨rfl, rfl⟩ hd
        have henc : (Utf8.encode ((Lib.decodeL (b :: t)).1 : Int)).data.toList = (M.tok (b :: t)).1 := by
          rw [M.utf8_encode_eq hle (by omega), Lib.encode_decode (b :: t) (by simp) hd, ht]
        refine ⟨by rw [ht], ((Lib.decodeL (b :: t)).1 : Int), ?_, fun _ => henc⟩
        rw [show decide ((M.tok (b :: t)).1 ≠ []) = true from decide_eq_true hne']
        by_cases h3 : (Lib.decodeL (b :: t)).1 = 65533
        · rw [h3, hbig.2 h3]
          exact ev_mono (fun k => words_letter.mono _ _ k) letter_err3
        · exact ev_mono (fun k => words_letter.mono _ _ k) (letter_big (by omega) (by omega))

def s107 (w : M.Wd) : S107 := ⟨⟨w.text.toArray⟩, (w.st : Int), (w.en : Int)⟩
theorem rd107_last (L : List S107) (a : S107) : rd_T107 (L ++ [a]) (L.length : Int) = a := by
  unfold rd_T107
  rw [Int.toNat_natCast, List.getD_eq_getElem?_getD, List.getElem?_append_right (Nat.le_refl _), Nat.sub_self]
  rfl
theorem set34_last (L : List S107) (a b : S107) : (L ++ [a]).set L.length b = L ++ [b] := by simp
theorem last64 (L : List S107) (a : S107) (h : L.length ≤ 8388608) : wrap64 (((L ++ [a]).length : Int) - 1) = (L.length : Int) := by
  rw [List.length_append, List.length_singleton, M.w64 (by omega) (by omega)]; omega
theorem app_eq (a t : List UInt8) (e : ByteArray) (h : e.data.toList = t) : (⟨a.toArray⟩ : ByteArray) ++ e = ⟨(a ++ t).toArray⟩ := by
  apply ByteArray.ext
  rw [ByteArray.data_append]
  apply Array.toList_inj.1
  simp [h]
theorem toksF_cons (f : Nat) (l : List UInt8) (h : l ≠ []) : M.toksF (f + 1) l = M.tok l :: M.toksF f (l.drop (M.tok l).2) := by
  cases l with
  | nil => exact absurd rfl h
  | cons b t => rfl
theorem words_loop (s : ByteArray) (hs : s.size ≤ 8388608) : ∀ (f i : Nat) (done : List M.Wd) (cur : Option M.Wd), s.size - i ≤ f → i ≤ s.size → done.length + cur.toList.length ≤ i → (∀ c, cur = some c → c.text.length ≤ i) →
    Ev (fun k => words_Words.l0 k s ((done ++ cur.toList).map s107) cur.isSome (i : Int)) ((done ++ M.gw (M.toksF f (s.data.toList.drop i)) i cur).map s107) := by
  intro f
  induction f with
  | zero =>
    intro i done cur hf hi hd hc
    exact ev_some (fun k => by simp only [words_Words.l0]; rw [if_neg (by omega)]; simp [M.toksF, M.gw])
  | succ f ih =>
    intro i done cur hf hi hd hc
    by_cases hlt : i < s.size
    · have hsz := Lib.size_eq s
      have hne : s.data.toList.drop i ≠ [] := by
        intro h; have := congrArg List.length h; rw [List.length_drop] at this; simp at this; omega
      obtain ⟨hn, r, ⟨K, hK⟩, henc⟩ := letter_ev _ hne
      have hdec := dec_at s i hlt
      have hpos := M.tok_pos (s.data.toList.drop i)
      have hle := M.tok_le _ hne
      have htl := M.tok_len (s.data.toList.drop i)
      have h4 := M.tok_le4 (s.data.toList.drop i)
      rw [List.length_drop, ← hsz] at hle
      rw [toksF_cons f _ hne, List.drop_drop]
      generalize M.tok (s.data.toList.drop i) = tk at *
      obtain ⟨tx, n⟩ := tk
      simp only at hn hpos hle htl h4 henc hK ⊢
      have e64 : wrap64 ((i : Int) + (n : Int)) = ((i + n : Nat) : Int) := by rw [M.w64 (by omega) (by omega)]; omega
      have hlen : ((done ++ cur.toList).map s107).length ≤ i := by simp; omega
      by_cases htx : tx = []
      · have hb : decide (tx ≠ []) = false := by simp [htx]
        rw [hb] at hK
        obtain ⟨K', hK'⟩ := ih (i + n) (done ++ cur.toList) none (by omega) (by omega) (by simp; omega) (by simp)
        refine ⟨K + K' + 1, fun k hk => ?_⟩
        obtain ⟨k, rfl⟩ : ∃ j, k = j + 1 := ⟨k - 1, by omega⟩
        have h2 := hK' k (by omega)
        simp only [words_Words.l0]
        rw [if_pos (by omega), if_pos (by omega), if_pos (by omega)]
        simp only [utf8_DecodeRuneInString.f, Option.bind_some, Int.toNat_natCast]
        rw [hdec, hK k (by omega), Option.bind_some, if_neg (by simp), hn, e64]
        simp only [Option.toList_none, List.append_nil, Option.isSome_none] at h2
        simp only [M.gw]
        rw [if_pos htx, h2, List.append_assoc]
      · have hb : decide (tx ≠ []) = true := by simp [htx]
        have henc := henc htx
        have htl := htl htx
        rw [hb] at hK
        have hes : (Utf8.encode r).size = n := by rw [Lib.size_eq, henc, htl]
        cases cur with
        | none =>
          obtain ⟨K', hK'⟩ := ih (i + n) done (some ⟨tx, i, i + n⟩) (by omega) (by omega) (by simp at hd ⊢; omega) (by intro c hc; cases hc; simp only; omega)
          refine ⟨K + K' + 1, fun k hk => ?_⟩
          obtain ⟨k, rfl⟩ : ∃ j, k = j + 1 := ⟨k - 1, by omega⟩
          have h2 := hK' k (by omega)
          simp only [words_Words.l0]
          rw [if_pos (by omega), if_pos (by omega), if_pos (by omega)]
          simp only [utf8_DecodeRuneInString.f, Option.bind_some, Int.toNat_natCast]
          rw [hdec, hK k (by omega), Option.bind_some, if_pos rfl, if_neg (by simp), if_pos (by omega)]
          simp only [Option.toList_none, List.append_nil] at hlen ⊢
          simp only [last64 _ _ (show ((done.map s107)).length ≤ 8388608 by omega)]
          rw [if_pos (by omega), if_pos (by simp; omega)]
          simp only [rd107_last, set34_last, Int.toNat_natCast, Option.bind_some]
          rw [if_pos (by rw [hes]; show 0 + n ≤ 9223372036854775807; omega)]
          have ea := app_eq [] tx _ henc
          simp only [List.nil_append] at ea
          rw [hn, e64, show ((⟨#[]⟩ : ByteArray) ++ Utf8.encode r) = ⟨tx.toArray⟩ from ea]
          simp only [Option.toList_some, List.map_append, List.map_cons, List.map_nil, Option.isSome_some] at h2
          simp only [M.gw]
          rw [if_neg htx]
          simpa [s107] using h2
        | some c =>
          have hct := hc c rfl
          simp only [Option.toList_some, List.length_singleton] at hd
          by_cases h32 : c.text.length + n > 32
          · obtain ⟨K', hK'⟩ := ih (i + n) (done ++ [c]) (some ⟨tx, i, i + n⟩) (by omega) (by omega) (by simp; omega) (by intro c hc; cases hc; simp only; omega)
            refine ⟨K + K' + 1, fun k hk => ?_⟩
            obtain ⟨k, rfl⟩ : ∃ j, k = j + 1 := ⟨k - 1, by omega⟩
            have h2 := hK' k (by omega)
            simp only [words_Words.l0]
            rw [if_pos (by omega), if_pos (by omega), if_pos (by omega)]
            simp only [utf8_DecodeRuneInString.f, Option.bind_some, Int.toNat_natCast]
            rw [hdec, hK k (by omega), Option.bind_some, if_pos rfl, if_pos (by simp)]
            simp only [Option.toList_some, List.map_append, List.map_cons, List.map_nil] at hlen ⊢
            have hl1 : (done.map s107).length ≤ 8388608 := by simp at hlen ⊢; omega
            have hl2 : (done.map s107 ++ [s107 c]).length ≤ 8388608 := by simp at hlen ⊢; omega
            simp only [last64 _ _ hl1]
            rw [if_pos (by omega), if_pos (by simp; omega)]
            simp only [rd107_last]
            rw [if_pos (by
              show wrap64 (((⟨c.text.toArray⟩ : ByteArray).size : Int) + _) > 32
              rw [hn, show (⟨c.text.toArray⟩ : ByteArray).size = c.text.length from by simp [ByteArray.size], M.w64 (by omega) (by omega)]; omega), if_pos (by omega)]
            simp only [last64 _ _ hl2]
            rw [if_pos (by omega), if_pos (by simp; try omega)]
            simp only [rd107_last, set34_last, Int.toNat_natCast, Option.bind_some]
            rw [if_pos (by rw [hes]; show 0 + n ≤ 9223372036854775807; omega)]
            have ea := app_eq [] tx _ henc
            simp only [List.nil_append] at ea
            rw [hn, e64, show ((⟨#[]⟩ : ByteArray) ++ Utf8.encode r) = ⟨tx.toArray⟩ from ea]
            simp only [Option.toList_some, List.map_append, List.map_cons, List.map_nil, Option.isSome_some] at h2
            simp only [M.gw]
            rw [if_neg htx, if_pos h32]
            simpa [s107] using h2
          · obtain ⟨K', hK'⟩ := ih (i + n) done (some ⟨c.text ++ tx, c.st, i + n⟩) (by omega) (by omega) (by simp; omega) (by intro c hc; cases hc; simp only [List.length_append]; omega)
            refine ⟨K + K' + 1, fun k hk => ?_⟩
            obtain ⟨k, rfl⟩ : ∃ j, k = j + 1 := ⟨k - 1, by omega⟩
            have h2 := hK' k (by omega)
            simp only [words_Words.l0]
            rw [if_pos (by omega), if_pos (by omega), if_pos (by omega)]
            simp only [utf8_DecodeRuneInString.f, Option.bind_some, Int.toNat_natCast]
            rw [hdec, hK k (by omega), Option.bind_some, if_pos rfl, if_pos (by simp)]
            simp only [Option.toList_some, List.map_append, List.map_cons, List.map_nil] at hlen ⊢
            have hl1 : (done.map s107).length ≤ 8388608 := by simp at hlen ⊢; omega
            simp only [last64 _ _ hl1]
            rw [if_pos (by omega), if_pos (by simp; omega)]
            simp only [rd107_last]
            have hcs : (s107 c).f0.size = c.text.length := by simp [s107, ByteArray.size]
            rw [if_neg (by rw [hn, hcs, M.w64 (by omega) (by omega)]; omega), if_pos (by rw [hes, hcs]; omega)]
            simp only [rd107_last, set34_last, Int.toNat_natCast, Option.bind_some]
            have ea := app_eq c.text tx _ henc
            rw [hn, e64, show ((s107 c).f0 ++ Utf8.encode r) = ⟨(c.text ++ tx).toArray⟩ from ea]
            simp only [Option.toList_some, List.map_append, List.map_cons, List.map_nil, Option.isSome_some] at h2
            simp only [M.gw]
            rw [if_neg htx, if_neg h32]
            simpa [s107] using h2
    · obtain rfl : i = s.size := by omega
      have he : s.data.toList.drop s.size = [] := by rw [Lib.size_eq]; simp
      rw [he]
      exact ev_some (fun k => by simp only [words_Words.l0]; rw [if_neg (by omega)]; simp [M.toksF, M.gw])
theorem words_ev (s : ByteArray) (hs : s.size ≤ 8388608) : Ev (fun k => words_Words.f k s) ((M.wds s.data.toList).map s107) := by
  have h := words_loop s hs s.size 0 [] none (by omega) (by omega) (by simp) (by simp)
  refine Ev.congr (f := fun k => words_Words.l0 k s [] false 0) (fun k => rfl) ?_
  simpa [M.wds, M.toks, ← Lib.size_eq] using h

theorem toList_mk (l : List UInt8) : (⟨l.toArray⟩ : ByteArray).toList = l := by rw [Lib.toList_data]
theorem size_mk (l : List UInt8) : (⟨l.toArray⟩ : ByteArray).size = l.length := by simp [ByteArray.size]
theorem app_mk (a t : List UInt8) : (⟨a.toArray⟩ : ByteArray) ++ ⟨t.toArray⟩ = ⟨(a ++ t).toArray⟩ := app_eq a t _ rfl

theorem rd107_nat {l : List M.Wd} {j : Nat} (h : j < l.length) : rd_T107 (l.map s107) (j : Int) = s107 l[j] := by
  unfold rd_T107
  rw [Int.toNat_natCast, List.getD_eq_getElem?_getD, List.getElem?_eq_getElem (by simpa using h)]
  simp
theorem pair_text (v w : List UInt8) : ((⟨v.toArray⟩ : ByteArray) ++ (⟨#[61]⟩ : ByteArray)) ++ ⟨w.toArray⟩ = ⟨(v ++ 61 :: w).toArray⟩ := by
  rw [show (⟨#[61]⟩ : ByteArray) = ⟨[61].toArray⟩ from rfl, app_mk, app_mk, List.append_assoc]; rfl

theorem One_ev (s : ByteArray) (hs : s.size ≤ 8388608) : Ev (fun k => words_One.f k s) (M.oneV (M.wds s.data.toList) s.data.toList) := by
  refine Ev.congr (fun k => rfl) (Ev.bind (words_ev s hs) ?_)
  refine ⟨0, fun k _ => ?_⟩
  dsimp only
  match hw : M.wds s.data.toList with
  | [] => rfl
  | [w] =>
    have h0 := rd107_nat (l := [w]) (j := 0) (by simp)
    rw [show ((0 : Nat) : Int) = 0 from rfl] at h0
    rw [if_pos (by simp), if_pos (by simp), h0]
    simp [M.oneV, s107, toList_mk, Lib.toList_data]
  | a :: b :: c =>
    rw [if_neg (by simp; omega)]
    rfl
theorem Pair_ev (s : ByteArray) (hs : s.size ≤ 8388608) : Ev (fun k => words_Pair.f k s) (M.pairV (M.wds s.data.toList) s.data.toList) := by
  refine Ev.congr (fun k => rfl) (Ev.bind (words_ev s hs) ?_)
  refine ⟨0, fun k _ => ?_⟩
  dsimp only
  have hlen := M.wds_len s.data.toList
  match hw : M.wds s.data.toList with
  | [] => rfl
  | [w] => rfl
  | [v, w] =>
    rw [hw] at hlen
    have l0 := hlen v (by simp)
    have l1 := hlen w (by simp)
    have h0 := rd107_nat (l := [v, w]) (j := 0) (by simp)
    have h1 := rd107_nat (l := [v, w]) (j := 1) (by simp)
    rw [show ((0 : Nat) : Int) = 0 from rfl] at h0
    rw [show ((1 : Nat) : Int) = 1 from rfl] at h1
    have z0 : (s107 v).f0 = ⟨v.text.toArray⟩ := rfl
    have z1 : (s107 w).f0 = ⟨w.text.toArray⟩ := rfl
    simp only [List.getElem_cons_zero, List.getElem_cons_succ] at h0 h1
    rw [if_pos (by simp), if_pos (by simp), h0, z0, if_pos (by rw [size_mk]; omega), if_pos (by simp), h1, z1, if_pos (by rw [size_mk, size_mk]; omega), pair_text, toList_mk, Lib.toList_data]
    rfl
  | a :: b :: c :: d =>
    rw [if_neg (by simp; omega)]
    rfl

end Go.Proofs.YtlmmbefejmbpeaaDoor.Pure
