/- On the printed functions of QueryLeaves: what each of them answers, in plain words. -/
import Derived.Test.YtlmmbefejmbpeaaDoorPQueryLeavesx1
import Derived.Test.YtlmmbefejmbpeaaDoorPureQryW
namespace Go.Proofs.YtlmmbefejmbpeaaDoor.Pure
open Go.RowKit Go.Proofs.YtlmmbefejmbpeaaDoor.G Go.Proofs.YtlmmbefejmbpeaaDoor.PQueryLeaves Go.Proofs.YtlmmbefejmbpeaaDoorW.PrintWords Go.Proofs.YtlmmbefejmbpeaaDoorW.PrintLast Go.Proofs.YtlmmbefejmbpeaaDoorW.PrintMore Go.Proofs.YtlmmbefejmbpeaaDoor.M Go.Proofs.YtlmmbefejmbpeaaDoor.PQry0
set_option linter.unusedVariables false
set_option linter.unusedSimpArgs false

theorem low_if : ∀ b : Fin 128, (if ((b.val : Nat) : Int) ≥ 65 then fascineref05_letter.j0 2 (b.val : Int) (decide (((b.val : Nat) : Int) ≤ 90)) else fascineref05_letter.j0 2 (b.val : Int) false) = some (⟨(M.low (UInt8.ofNat b.val)).toArray⟩, 1) := by decide +kernel
theorem bt_drop (s : ByteArray) (i : Nat) (b : UInt8) (t : List UInt8) (h : s.data.toList.drop i = b :: t) (hi : i < s.size) : bt s (i : Int) = (b.toNat : Int) := by
  have e := List.getElem?_drop (xs := s.data.toList) (i := i) (j := 0)
  rw [h, Nat.add_zero] at e
  have e2 := Lib.data_getElem? s i hi
  rw [← e] at e2
  have e3 : b = s[i] := Option.some.inj e2
  unfold bt
  simp only [Int.toNat_natCast, hi, dif_pos]
  rw [e3]
theorem dec_big (b : UInt8) (t : List UInt8) (hb : ¬ b.toNat < 128) (hd : ¬ ((Lib.decodeL (b :: t)).1 = 65533 ∧ (Lib.decodeL (b :: t)).2 = 1)) (h : (Lib.decodeL (b :: t)).1 = 65533) : (Lib.decodeL (b :: t)).2 = 3 := by
  have hN := Lib.decodeL_N (b :: t)
  have k0 : ((b :: t).getD 0 0).toNat = b.toNat := rfl
  have hb256 := b.toNat_lt
  rw [k0] at hN
  rw [hN] at hd h ⊢
  rcases Lib.decodeN_shape (b :: t).length b.toNat ((b :: t).getD 1 0).toNat ((b :: t).getD 2 0).toNat ((b :: t).getD 3 0).toNat with ⟨c, e⟩ | ⟨c1, c2, c3, cv, e⟩ | ⟨c1, c2, c3, c4, cv, cs, e⟩ | ⟨c1, c2, c3, c4, c5, cv, cw, e⟩ | e
  · omega
  · rw [e] at h; simp only at h; omega
  · rw [e]
  · rw [e] at h; simp only at h; omega
  · rw [e] at hd; exact absurd ⟨rfl, rfl⟩ hd
theorem ext_take (s : ByteArray) (i n : Nat) : s.extract i (i + n) = ⟨((s.data.toList.drop i).take n).toArray⟩ := by
  have e : (s.extract i (i + n)).data.toList = (s.data.toList.drop i).take n := by
    rw [Lib.extract_data, show i + n - i = n by omega]
  rw [← e]
theorem refletter_ev (s : ByteArray) (hs : s.size ≤ 8388608) (i : Nat) (hi : i < s.size) : Ev (fun k => fascineref05_letter.f k s (i : Int)) (⟨(M.tok (s.data.toList.drop i)).1.toArray⟩, ((M.tok (s.data.toList.drop i)).2 : Int)) := by
  have hsz := Lib.size_eq s
  have hne : s.data.toList.drop i ≠ [] := by
    intro h; have := congrArg List.length h; rw [List.length_drop] at this; simp at this; omega
  refine ev_mono (fun k => fascineref05_letter.mono _ _ k) (k := 2) ?_
  have hdec := dec_at s i hi
  have hle := Lib.decodeL_le _ hne
  have hw := Lib.decodeL_width (s.data.toList.drop i)
  rw [List.length_drop, ← hsz] at hle
  have hx := ext_take s i (Lib.decodeL (s.data.toList.drop i)).2
  cases hl : s.data.toList.drop i with
  | nil => exact absurd hl hne
  | cons b t =>
    have hbt := bt_drop s i b t hl hi
    rw [hl] at hdec hle hw hx
    unfold fascineref05_letter.f
    rw [if_pos (by omega), if_pos (by omega), hbt]
    by_cases hb : b.toNat < 128
    · rw [if_pos (by omega)]
      have h2 := low_if ⟨b.toNat, hb⟩
      simp only [UInt8.ofNat_toNat] at h2
      rw [h2]
      simp [M.tok, hb]
    · rw [if_neg (by omega), if_pos (by omega)]
      simp only [utf8_DecodeRuneInString.f, Option.bind_some, Int.toNat_natCast, hdec]
      by_cases hd : (Lib.decodeL (b :: t)).1 = 65533 ∧ (Lib.decodeL (b :: t)).2 = 1
      · rw [hd.1, hd.2, if_pos (by decide), if_pos (by decide)]
        simp [M.tok, hb, hd]
      · have ht : M.tok (b :: t) = ((b :: t).take (Lib.decodeL (b :: t)).2, (Lib.decodeL (b :: t)).2) := by simp only [M.tok]; rw [if_neg hb, if_neg hd]
        have e64 : wrap64 ((i : Int) + ((Lib.decodeL (b :: t)).2 : Int)) = ((i + (Lib.decodeL (b :: t)).2 : Nat) : Int) := by rw [M.w64 (by omega) (by omega)]; omega
        have fin : (if (i : Int) ≤ (wrap64 ((i : Int) + ((Lib.decodeL (b :: t)).2 : Int))) then (if (wrap64 ((i : Int) + ((Lib.decodeL (b :: t)).2 : Int))) ≤ (s.size : Int) then (some (s.extract i ((wrap64 ((i : Int) + ((Lib.decodeL (b :: t)).2 : Int))) : Int).toNat, ((Lib.decodeL (b :: t)).2 : Int))) else (none)) else (none)) = some ((⟨(M.tok (b :: t)).1.toArray⟩ : ByteArray), ((M.tok (b :: t)).2 : Int)) := by
          rw [e64, if_pos (by omega), if_pos (by omega), Int.toNat_natCast, hx, ht]
        by_cases h3 : (Lib.decodeL (b :: t)).1 = 65533
        · have h33 := dec_big b t hb hd h3
          rw [if_pos (by omega), if_neg (by omega)]
          exact fin
        · rw [if_neg (by omega)]
          exact fin
def s37 (w : M.Wd) : S37 := ⟨⟨w.text.toArray⟩, (w.st : Int), (w.en : Int)⟩
theorem refwords_loop (s : ByteArray) (hs : s.size ≤ 8388608) : ∀ (f : Nat),
    (∀ (i : Nat) (done : List M.Wd), s.size - i ≤ f → i ≤ s.size → done.length ≤ i → Ev (fun k => fascineref05_Words.l0 k s (done.map s37) (i : Int)) ((done ++ M.gw (M.toksF f (s.data.toList.drop i)) i none).map s37)) ∧
    (∀ (i : Nat) (done : List M.Wd) (tx : List UInt8) (st : Nat), s.size - i ≤ f → i ≤ s.size → done.length < i → tx.length ≤ i → Ev (fun k => fascineref05_Words.l1 k s (done.map s37) (i : Int) ⟨tx.toArray⟩ (st : Int) 0) ((done ++ M.gw (M.toksF f (s.data.toList.drop i)) i (some ⟨tx, st, i⟩)).map s37)) := by
  intro f
  have hsz := Lib.size_eq s
  have endA : ∀ (f : Nat) (done : List M.Wd), Ev (fun k => fascineref05_Words.l0 k s (done.map s37) (s.size : Int)) ((done ++ M.gw (M.toksF f (s.data.toList.drop s.size)) s.size none).map s37) := by
    intro f done
    have he : s.data.toList.drop s.size = [] := by rw [Lib.size_eq]; simp
    rw [he]
    exact ev_some (fun k => by simp only [fascineref05_Words.l0]; rw [if_neg (by omega)]; cases f <;> simp [M.toksF, M.gw])
  have endB : ∀ (f : Nat) (done : List M.Wd) (tx : List UInt8) (st : Nat), done.length < s.size → Ev (fun k => fascineref05_Words.l1 k s (done.map s37) (s.size : Int) ⟨tx.toArray⟩ (st : Int) 0) ((done ++ M.gw (M.toksF f (s.data.toList.drop s.size)) s.size (some ⟨tx, st, s.size⟩)).map s37) := by
    intro f done tx st hd
    obtain ⟨K, hK⟩ := endA f (done ++ [⟨tx, st, s.size⟩])
    refine ⟨K + 1, fun k hk => ?_⟩
    obtain ⟨k, rfl⟩ : ∃ j, k = j + 1 := ⟨k - 1, by omega⟩
    have h2 := hK k (by omega)
    have he : s.data.toList.drop s.size = [] := by rw [Lib.size_eq]; simp
    rw [he] at h2 ⊢
    have hg : ∀ cur, M.gw (M.toksF f []) s.size cur = cur.toList := by intro cur; cases f <;> rfl
    rw [hg] at h2 ⊢
    simp only [fascineref05_Words.l1]
    rw [if_neg (by omega), if_pos (by simp; omega)]
    simpa [s37] using h2
  induction f with
  | zero =>
    refine ⟨fun i done hf hi hd => ?_, fun i done tx st hf hi hd ht => ?_⟩
    · obtain rfl : i = s.size := by omega
      exact endA 0 done
    · obtain rfl : i = s.size := by omega
      exact endB 0 done tx st hd
  | succ f ih =>
    have A : ∀ (i : Nat) (done : List M.Wd), s.size - i ≤ f + 1 → i ≤ s.size → done.length ≤ i → Ev (fun k => fascineref05_Words.l0 k s (done.map s37) (i : Int)) ((done ++ M.gw (M.toksF (f + 1) (s.data.toList.drop i)) i none).map s37) := by
      intro i done hf hi hd
      by_cases hlt : i < s.size
      · have hne : s.data.toList.drop i ≠ [] := by
          intro h; have := congrArg List.length h; rw [List.length_drop] at this; simp at this; omega
        obtain ⟨K, hK⟩ := refletter_ev s hs i hlt
        have hpos := M.tok_pos (s.data.toList.drop i)
        have hle := M.tok_le _ hne
        have htl := M.tok_len (s.data.toList.drop i)
        have h4 := M.tok_le4 (s.data.toList.drop i)
        rw [List.length_drop, ← hsz] at hle
        rw [toksF_cons f _ hne, List.drop_drop]
        generalize M.tok (s.data.toList.drop i) = tk at *
        obtain ⟨tx, n⟩ := tk
        simp only at hpos hle htl h4 hK ⊢
        have e64 : wrap64 ((i : Int) + (n : Int)) = ((i + n : Nat) : Int) := by rw [M.w64 (by omega) (by omega)]; omega
        by_cases htx : tx = []
        · obtain ⟨K', hK'⟩ := ih.1 (i + n) done (by omega) (by omega) (by omega)
          refine ⟨K + K' + 1, fun k hk => ?_⟩
          obtain ⟨k, rfl⟩ : ∃ j, k = j + 1 := ⟨k - 1, by omega⟩
          have h2 := hK' k (by omega)
          simp only [fascineref05_Words.l0]
          rw [if_pos (by omega), hK k (by omega), Option.bind_some]
          simp only [toList_mk]
          dsimp only at h2
          rw [if_pos htx, e64, h2]
          simp [M.gw, htx]
        · have htl := htl htx
          obtain ⟨K', hK'⟩ := ih.2 (i + n) done tx i (by omega) (by omega) (by omega) (by omega)
          refine ⟨K + K' + 2, fun k hk => ?_⟩
          obtain ⟨k, rfl⟩ : ∃ j, k = j + 2 := ⟨k - 2, by omega⟩
          have h2 := hK' k (by omega)
          dsimp only at h2
          simp only [fascineref05_Words.l0]
          rw [if_pos (by omega), hK (k + 1) (by omega), Option.bind_some]
          simp only [toList_mk]
          rw [if_neg htx]
          simp only [fascineref05_Words.l1]
          rw [if_pos (by omega), hK k (by omega), Option.bind_some]
          simp only [toList_mk]
          have hz : ((⟨#[]⟩ : ByteArray).size : Int) = 0 := rfl
          rw [if_neg htx, hz, if_neg (by rw [M.w64 (by omega) (by omega)]; omega), if_pos (by rw [size_mk]; show 0 + tx.length ≤ 9223372036854775807; omega), e64, show (⟨#[]⟩ : ByteArray) ++ ⟨tx.toArray⟩ = ⟨tx.toArray⟩ from app_mk [] tx, h2]
          simp [M.gw, htx]
      · obtain rfl : i = s.size := by omega
        exact endA _ done
    refine ⟨A, fun i done tx st hf hi hd ht => ?_⟩
    by_cases hlt : i < s.size
    · have hne : s.data.toList.drop i ≠ [] := by
        intro h; have := congrArg List.length h; rw [List.length_drop] at this; simp at this; omega
      obtain ⟨K, hK⟩ := refletter_ev s hs i hlt
      have hA := A i (done ++ [⟨tx, st, i⟩]) hf hi (by simp; omega)
      have hpos := M.tok_pos (s.data.toList.drop i)
      have hle := M.tok_le _ hne
      have htl := M.tok_len (s.data.toList.drop i)
      have h4 := M.tok_le4 (s.data.toList.drop i)
      rw [List.length_drop, ← hsz] at hle
      rw [toksF_cons f _ hne, List.drop_drop] at hA ⊢
      generalize M.tok (s.data.toList.drop i) = tk at *
      obtain ⟨ty, n⟩ := tk
      simp only at hpos hle htl h4 hK hA ⊢
      have e64 : wrap64 ((i : Int) + (n : Int)) = ((i + n : Nat) : Int) := by rw [M.w64 (by omega) (by omega)]; omega
      by_cases hty : ty = []
      · obtain ⟨K', hK'⟩ := hA
        refine ⟨K + K' + 1, fun k hk => ?_⟩
        obtain ⟨k, rfl⟩ : ∃ j, k = j + 1 := ⟨k - 1, by omega⟩
        have h2 := hK' k (by omega)
        simp only [fascineref05_Words.l1]
        rw [if_pos (by omega), hK k (by omega), Option.bind_some]
        simp only [toList_mk]
        rw [if_pos hty, if_pos (by simp; omega)]
        simpa [M.gw, hty, s37] using h2
      · have htl := htl hty
        by_cases h32 : tx.length + n > 32
        · obtain ⟨K', hK'⟩ := hA
          refine ⟨K + K' + 1, fun k hk => ?_⟩
          obtain ⟨k, rfl⟩ : ∃ j, k = j + 1 := ⟨k - 1, by omega⟩
          have h2 := hK' k (by omega)
          simp only [fascineref05_Words.l1]
          rw [if_pos (by omega), hK k (by omega), Option.bind_some]
          simp only [toList_mk, size_mk]
          rw [if_neg hty, if_pos (by rw [M.w64 (by omega) (by omega)]; omega), if_pos (by simp; omega)]
          simpa [M.gw, hty, s37, h32] using h2
        · obtain ⟨K', hK'⟩ := ih.2 (i + n) done (tx ++ ty) st (by omega) (by omega) (by omega) (by rw [List.length_append]; omega)
          refine ⟨K + K' + 1, fun k hk => ?_⟩
          obtain ⟨k, rfl⟩ : ∃ j, k = j + 1 := ⟨k - 1, by omega⟩
          have h2 := hK' k (by omega)
          dsimp only at h2
          simp only [fascineref05_Words.l1]
          rw [if_pos (by omega), hK k (by omega), Option.bind_some]
          simp only [toList_mk, size_mk]
          rw [if_neg hty, if_neg (by rw [M.w64 (by omega) (by omega)]; omega), if_pos (by omega), e64, app_mk, h2]
          simp [M.gw, hty, h32]
    · obtain rfl : i = s.size := by omega
      exact endB _ done tx st hd
theorem refwords_ev (s : ByteArray) (hs : s.size ≤ 8388608) : Ev (fun k => fascineref05_Words.f k s) ((M.wds s.data.toList).map s37) := by
  have h := (refwords_loop s hs s.size).1 0 [] (by omega) (by omega) (by simp)
  refine Ev.congr (f := fun k => fascineref05_Words.l0 k s [] 0) (fun k => rfl) ?_
  simpa [M.wds, M.toks, ← Lib.size_eq] using h

end Go.Proofs.YtlmmbefejmbpeaaDoor.Pure
