/- The reference's reader: its small functions. -/
import Derived.Test.YtlmmbefejmbpeaaDoorPQry1
import Derived.Test.YtlmmbefejmbpeaaDoorPureLeaf
import Derived.Test.YtlmmbefejmbpeaaDoorPureQryW
namespace Go.Proofs.YtlmmbefejmbpeaaDoor.Pure
open Go.RowKit Go.Proofs.YtlmmbefejmbpeaaDoor.G Go.Proofs.YtlmmbefejmbpeaaDoor.PQry1 Go.Proofs.YtlmmbefejmbpeaaDoorW.PrintWords Go.Proofs.YtlmmbefejmbpeaaDoorW.PrintLast Go.Proofs.YtlmmbefejmbpeaaDoorW.PrintMore Go.Proofs.YtlmmbefejmbpeaaDoor.M Go.Proofs.YtlmmbefejmbpeaaDoor.PQry0
set_option linter.unusedVariables false
set_option linter.unusedSimpArgs false
theorem low_if : ∀ b : Fin 128, (if ((b.val : Nat) : Int) ≥ 65 then fascineref05_letter.j0 2 (b.val : Int) (decide (((b.val : Nat) : Int) ≤ 90)) else fascineref05_letter.j0 2 (b.val : Int) false) = some (⟨(M.low (UInt8.ofNat b.val)).toArray⟩, 1) := by decide +kernel
theorem bt_drop (s : ByteArray) (i : Nat) (b : UInt8) (t : List UInt8) (h : s.data.toList.drop i = b :: t) (hi : i < s.size) : bt s (i : Int) = (b.toNat : Int) := by
  have e := List.getElem?_drop (xs := s.data.toList) (i := i) (j := 0)
  rw [h, Nat.add_zero] at e
  have e2 := Lib.data_getElem? s i hi
  rw [← e] at e2
  have e3 : b = s[i] := Option.some.inj e2
  unfold bt
  simp only [Int.toNat_natCast, hi, dif_pos]
  rw [e3]
theorem dec_big (b : UInt8) (t : List UInt8) (hb : ¬ b.toNat < 128) (hd : ¬ ((Lib.decodeL (b :: t)).1 = 65533 ∧ (Lib.decodeL (b :: t)).2 = 1)) (h : (Lib.decodeL (b :: t)).1 = 65533) : (Lib.decodeL (b :: t)).2 = 3 := by
  have hN := Lib.decodeL_N (b :: t)
  have k0 : ((b :: t).getD 0 0).toNat = b.toNat := rfl
  have hb256 := b.toNat_lt
  rw [k0] at hN
  rw [hN] at hd h ⊢
  rcases Lib.decodeN_shape (b :: t).length b.toNat ((b :: t).getD 1 0).toNat ((b :: t).getD 2 0).toNat ((b :: t).getD 3 0).toNat with ⟨c, e⟩ | ⟨c1, c2, c3, cv, e⟩ | ⟨c1, c2, c3, c4, cv, cs, e⟩ | ⟨c1, c2, c3, c4, c5, cv, cw, e⟩ | e
  · omega
  · rw [e] at h; simp only at h; omega
  · rw [e]
  · rw [e] at h; simp only at h; omega
  · rw [e] at hd; exact absurd ⟨rfl, rfl⟩ hd
theorem ext_take (s : ByteArray) (i n : Nat) : s.extract i (i + n) = ⟨((s.data.toList.drop i).take n).toArray⟩ := by
  have e : (s.extract i (i + n)).data.toList = (s.data.toList.drop i).take n := by
    rw [Lib.extract_data, show i + n - i = n by omega]
  rw [← e]
theorem refletter_ev (s : ByteArray) (hs : s.size ≤ 8388608) (i : Nat) (hi : i < s.size) : Ev (fun k => fascineref05_letter.f k s (i : Int)) (⟨(M.tok (s.data.toList.drop i)).1.toArray⟩, ((M.tok (s.data.toList.drop i)).2 : Int)) := by
  have hsz := Lib.size_eq s
  have hne : s.data.toList.drop i ≠ [] := by
    intro h; have := congrArg List.length h; rw [List.length_drop] at this; simp at this; omega
  refine ev_mono (fun k => fascineref05_letter.mono _ _ k) (k := 2) ?_
  have hdec := dec_at s i hi
  have hle := Lib.decodeL_le _ hne
  have hw := Lib.decodeL_width (s.data.toList.drop i)
  rw [List.length_drop, ← hsz] at hle
  have hx := ext_take s i (Lib.decodeL (s.data.toList.drop i)).2
  cases hl : s.data.toList.drop i with
  | nil => exact absurd hl hne
  | cons b t =>
    have hbt := bt_drop s i b t hl hi
    rw [hl] at hdec hle hw hx
    unfold fascineref05_letter.f
    rw [if_pos (by omega), if_pos (by omega), hbt]
    by_cases hb : b.toNat < 128
    · rw [if_pos (by omega)]
      have h2 := low_if ⟨b.toNat, hb⟩
      simp only [UInt8.ofNat_toNat] at h2
      rw [h2]
      simp [M.tok, hb]
    · rw [if_neg (by omega), if_pos (by omega)]
      simp only [utf8_DecodeRuneInString.f, Option.bind_some, Int.toNat_natCast, hdec]
      by_cases hd : (Lib.decodeL (b :: t)).1 = 65533 ∧ (Lib.decodeL (b :: t)).2 = 1
      · rw [hd.1, hd.2, if_pos (by decide), if_pos (by decide)]
        simp [M.tok, hb, hd]
      · have ht : M.tok (b :: t) = ((b :: t).take (Lib.decodeL (b :: t)).2, (Lib.decodeL (b :: t)).2) := by simp only [M.tok]; rw [if_neg hb, if_neg hd]
        have e64 : wrap64 ((i : Int) + ((Lib.decodeL (b :: t)).2 : Int)) = ((i + (Lib.decodeL (b :: t)).2 : Nat) : Int) := by rw [M.w64 (by omega) (by omega)]; omega
        have fin : (if (i : Int) ≤ (wrap64 ((i : Int) + ((Lib.decodeL (b :: t)).2 : Int))) then (if (wrap64 ((i : Int) + ((Lib.decodeL (b :: t)).2 : Int))) ≤ (s.size : Int) then (some (s.extract i ((wrap64 ((i : Int) + ((Lib.decodeL (b :: t)).2 : Int))) : Int).toNat, ((Lib.decodeL (b :: t)).2 : Int))) else (none)) else (none)) = some ((⟨(M.tok (b :: t)).1.toArray⟩ : ByteArray), ((M.tok (b :: t)).2 : Int)) := by
          rw [e64, if_pos (by omega), if_pos (by omega), Int.toNat_natCast, hx, ht]
        by_cases h3 : (Lib.decodeL (b :: t)).1 = 65533
        · have h33 := dec_big b t hb hd h3
          rw [if_pos (by omega), if_neg (by omega)]
          exact fin
        · rw [if_neg (by omega)]
          exact fin
def s37 (w : M.Wd) : S37 := ⟨⟨w.text.toArray⟩, (w.st : Int), (w.en : Int)⟩
theorem refwords_loop (s : ByteArray) (hs : s.size ≤ 8388608) : ∀ (f : Nat),
    (∀ (i : Nat) (done : List M.Wd), s.size - i ≤ f → i ≤ s.size → done.length ≤ i → Ev (fun k => fascineref05_Words.l0 k s (done.map s37) (i : Int)) ((done ++ M.gw (M.toksF f (s.data.toList.drop i)) i none).map s37)) ∧
    (∀ (i : Nat) (done : List M.Wd) (tx : List UInt8) (st : Nat), s.size - i ≤ f → i ≤ s.size → done.length < i → tx.length ≤ i → Ev (fun k => fascineref05_Words.l1 k s (done.map s37) (i : Int) ⟨tx.toArray⟩ (st : Int) 0) ((done ++ M.gw (M.toksF f (s.data.toList.drop i)) i (some ⟨tx, st, i⟩)).map s37)) := by
  intro f
  have hsz := Lib.size_eq s
  have endA : ∀ (f : Nat) (done : List M.Wd), Ev (fun k => fascineref05_Words.l0 k s (done.map s37) (s.size : Int)) ((done ++ M.gw (M.toksF f (s.data.toList.drop s.size)) s.size none).map s37) := by
    intro f done
    have he : s.data.toList.drop s.size = [] := by rw [Lib.size_eq]; simp
    rw [he]
    exact ev_some (fun k => by simp only [fascineref05_Words.l0]; rw [if_neg (by omega)]; cases f <;> simp [M.toksF, M.gw])
  have endB : ∀ (f : Nat) (done : List M.Wd) (tx : List UInt8) (st : Nat), done.length < s.size → Ev (fun k => fascineref05_Words.l1 k s (done.map s37) (s.size : Int) ⟨tx.toArray⟩ (st : Int) 0) ((done ++ M.gw (M.toksF f (s.data.toList.drop s.size)) s.size (some ⟨tx, st, s.size⟩)).map s37) := by
    intro f done tx st hd
    obtain ⟨K, hK⟩ := endA f (done ++ [⟨tx, st, s.size⟩])
    refine ⟨K + 1, fun k hk => ?_⟩
    obtain ⟨k, rfl⟩ : ∃ j, k = j + 1 := ⟨k - 1, by omega⟩
    have h2 := hK k (by omega)
    have he : s.data.toList.drop s.size = [] := by rw [Lib.size_eq]; simp
    rw [he] at h2 ⊢
    have hg : ∀ cur, M.gw (M.toksF f []) s.size cur = cur.toList := by intro cur; cases f <;> rfl
    rw [hg] at h2 ⊢
    simp only [fascineref05_Words.l1]
    rw [if_neg (by omega), if_pos (by simp; omega)]
    simpa [s37] using h2
  induction f with
  | zero =>
    refine ⟨fun i done hf hi hd => ?_, fun i done tx st hf hi hd ht => ?_⟩
    · obtain rfl : i = s.size := by omega
      exact endA 0 done
    · obtain rfl : i = s.size := by omega
      exact endB 0 done tx st hd
  | succ f ih =>
    have A : ∀ (i : Nat) (done : List M.Wd), s.size - i ≤ f + 1 → i ≤ s.size → done.length ≤ i → Ev (fun k => fascineref05_Words.l0 k s (done.map s37) (i : Int)) ((done ++ M.gw (M.toksF (f + 1) (s.data.toList.drop i)) i none).map s37) := by
      intro i done hf hi hd
      by_cases hlt : i < s.size
      · have hne : s.data.toList.drop i ≠ [] := by
          intro h; have := congrArg List.length h; rw [List.length_drop] at this; simp at this; omega
        obtain ⟨K, hK⟩ := refletter_ev s hs i hlt
        have hpos := M.tok_pos (s.data.toList.drop i)
        have hle := M.tok_le _ hne
        have htl := M.tok_len (s.data.toList.drop i)
        have h4 := M.tok_le4 (s.data.toList.drop i)
        rw [List.length_drop, ← hsz] at hle
        rw [toksF_cons f _ hne, List.drop_drop]
        generalize M.tok (s.data.toList.drop i) = tk at *
        obtain ⟨tx, n⟩ := tk
        simp only at hpos hle htl h4 hK ⊢
        have e64 : wrap64 ((i : Int) + (n : Int)) = ((i + n : Nat) : Int) := by rw [M.w64 (by omega) (by omega)]; omega
        by_cases htx : tx = []
        · obtain ⟨K', hK'⟩ := ih.1 (i + n) done (by omega) (by omega) (by omega)
          refine ⟨K + K' + 1, fun k hk => ?_⟩
          obtain ⟨k, rfl⟩ : ∃ j, k = j + 1 := ⟨k - 1, by omega⟩
          have h2 := hK' k (by omega)
          simp only [fascineref05_Words.l0]
          rw [if_pos (by omega), hK k (by omega), Option.bind_some]
          simp only [toList_mk]
          dsimp only at h2
          rw [if_pos htx, e64, h2]
          simp [M.gw, htx]
        · have htl := htl htx
          obtain ⟨K', hK'⟩ := ih.2 (i + n) done tx i (by omega) (by omega) (by omega) (by omega)
          refine ⟨K + K' + 2, fun k hk => ?_⟩
          obtain ⟨k, rfl⟩ : ∃ j, k = j + 2 := ⟨k - 2, by omega⟩
          have h2 := hK' k (by omega)
          dsimp only at h2
          simp only [fascineref05_Words.l0]
          rw [if_pos (by omega), hK (k + 1) (by omega), Option.bind_some]
          simp only [toList_mk]
          rw [if_neg htx]
          simp only [fascineref05_Words.l1]
          rw [if_pos (by omega), hK k (by omega), Option.bind_some]
          simp only [toList_mk]
          have hz : ((⟨#[]⟩ : ByteArray).size : Int) = 0 := rfl
          rw [if_neg htx, hz, if_neg (by rw [M.w64 (by omega) (by omega)]; omega), if_pos (by rw [size_mk]; show 0 + tx.length ≤ 9223372036854775807; omega), e64, show (⟨#[]⟩ : ByteArray) ++ ⟨tx.toArray⟩ = ⟨tx.toArray⟩ from app_mk [] tx, h2]
          simp [M.gw, htx]
      · obtain rfl : i = s.size := by omega
        exact endA _ done
    refine ⟨A, fun i done tx st hf hi hd ht => ?_⟩
    by_cases hlt : i < s.size
    · have hne : s.data.toList.drop i ≠ [] := by
        intro h; have := congrArg List.length h; rw [List.length_drop] at this; simp at this; omega
      obtain ⟨K, hK⟩ := refletter_ev s hs i hlt
      have hA := A i (done ++ [⟨tx, st, i⟩]) hf hi (by simp; omega)
      have hpos := M.tok_pos (s.data.toList.drop i)
      have hle := M.tok_le _ hne
      have htl := M.tok_len (s.data.toList.drop i)
      have h4 := M.tok_le4 (s.data.toList.drop i)
      rw [List.length_drop, ← hsz] at hle
      rw [toksF_cons f _ hne, List.drop_drop] at hA ⊢
      generalize M.tok (s.data.toList.drop i) = tk at *
      obtain ⟨ty, n⟩ := tk
      simp only at hpos hle htl h4 hK hA ⊢
      have e64 : wrap64 ((i : Int) + (n : Int)) = ((i + n : Nat) : Int) := by rw [M.w64 (by omega) (by omega)]; omega
      by_cases hty : ty = []
      · obtain ⟨K', hK'⟩ := hA
        refine ⟨K + K' + 1, fun k hk => ?_⟩
        obtain ⟨k, rfl⟩ : ∃ j, k = j + 1 := ⟨k - 1, by omega⟩
        have h2 := hK' k (by omega)
        simp only [fascineref05_Words.l1]
        rw [if_pos (by omega), hK k (by omega), Option.bind_some]
        simp only [toList_mk]
        rw [if_pos hty, if_pos (by simp; omega)]
        simpa [M.gw, hty, s37] using h2
      · have htl := htl hty
        by_cases h32 : tx.length + n > 32
        · obtain ⟨K', hK'⟩ := hA
          refine ⟨K + K' + 1, fun k hk => ?_⟩
          obtain ⟨k, rfl⟩ : ∃ j, k = j + 1 := ⟨k - 1, by omega⟩
          have h2 := hK' k (by omega)
          simp only [fascineref05_Words.l1]
          rw [if_pos (by omega), hK k (by omega), Option.bind_some]
          simp only [toList_mk, size_mk]
          rw [if_neg hty, if_pos (by rw [M.w64 (by omega) (by omega)]; omega), if_pos (by simp; omega)]
          simpa [M.gw, hty, s37, h32] using h2
        · obtain ⟨K', hK'⟩ := ih.2 (i + n) done (tx ++ ty) st (by omega) (by omega) (by omega) (by rw [List.length_append]; omega)
          refine ⟨K + K' + 1, fun k hk => ?_⟩
          obtain ⟨k, rfl⟩ : ∃ j, k = j + 1 := ⟨k - 1, by omega⟩
          have h2 := hK' k (by omega)
          dsimp only at h2
          simp only [fascineref05_Words.l1]
          rw [if_pos (by omega), hK k (by omega), Option.bind_some]
          simp only [toList_mk, size_mk]
          rw [if_neg hty, if_neg (by rw [M.w64 (by omega) (by omega)]; omega), if_pos (by omega), e64, app_mk, h2]
          simp [M.gw, hty, h32]
    · obtain rfl : i = s.size := by omega
      exact endB _ done tx st hd
theorem refwords_ev (s : ByteArray) (hs : s.size ≤ 8388608) : Ev (fun k => fascineref05_Words.f k s) ((M.wds s.data.toList).map s37) := by
  have h := (refwords_loop s hs s.size).1 0 [] (by omega) (by omega) (by simp)
  refine Ev.congr (f := fun k => fascineref05_Words.l0 k s [] 0) (fun k => rfl) ?_
  simpa [M.wds, M.toks, ← Lib.size_eq] using h

theorem rd37_nat {l : List M.Wd} {j : Nat} (h : j < l.length) : rd_T37 (l.map s37) (j : Int) = s37 l[j] := by
  unfold rd_T37
  rw [Int.toNat_natCast, List.getD_eq_getElem?_getD, List.getElem?_eq_getElem (by simpa using h)]
  simp
theorem refOne_ev (s : ByteArray) (hs : s.size ≤ 8388608) : Ev (fun k => fascineref05_One.f k s) (M.oneV (M.wds s.data.toList) s.data.toList) := by
  refine Ev.congr (fun k => rfl) (Ev.bind (refwords_ev s hs) ?_)
  refine ⟨0, fun k _ => ?_⟩
  dsimp only
  match hw : M.wds s.data.toList with
  | [] => rfl
  | [w] =>
    have h0 := rd37_nat (l := [w]) (j := 0) (by simp)
    rw [show ((0 : Nat) : Int) = 0 from rfl] at h0
    rw [if_pos (by simp), if_pos (by simp), h0]
    simp [M.oneV, s37, toList_mk, Lib.toList_data]
  | a :: b :: c =>
    rw [if_neg (by simp; omega)]
    rfl
theorem refPair_ev (s : ByteArray) (hs : s.size ≤ 8388608) : Ev (fun k => fascineref05_Pair.f k s) (M.pairV (M.wds s.data.toList) s.data.toList) := by
  refine Ev.congr (fun k => rfl) (Ev.bind (refwords_ev s hs) ?_)
  refine ⟨0, fun k _ => ?_⟩
  dsimp only
  have hlen := M.wds_len s.data.toList
  match hw : M.wds s.data.toList with
  | [] => rfl
  | [w] => rfl
  | [v, w] =>
    rw [hw] at hlen
    have l0 := hlen v (by simp)
    have l1 := hlen w (by simp)
    have h0 := rd37_nat (l := [v, w]) (j := 0) (by simp)
    have h1 := rd37_nat (l := [v, w]) (j := 1) (by simp)
    rw [show ((0 : Nat) : Int) = 0 from rfl] at h0
    rw [show ((1 : Nat) : Int) = 1 from rfl] at h1
    have z0 : (s37 v).f0 = ⟨v.text.toArray⟩ := rfl
    have z1 : (s37 w).f0 = ⟨w.text.toArray⟩ := rfl
    simp only [List.getElem_cons_zero, List.getElem_cons_succ] at h0 h1
    rw [if_pos (by simp), if_pos (by simp), h0, z0, if_pos (by rw [size_mk]; omega), if_pos (by simp), h1, z1, if_pos (by rw [size_mk, size_mk]; omega), pair_text, toList_mk, Lib.toList_data]
    rfl
  | a :: b :: c :: d =>
    rw [if_neg (by simp; omega)]
    rfl

end Go.Proofs.YtlmmbefejmbpeaaDoor.Pure
namespace Go.Proofs.YtlmmbefejmbpeaaDoor.Ref
open Go.RowKit Go.Proofs.Qp Go.Proofs.YtlmmbefejmbpeaaDoorW.PrintWords Go.Proofs.YtlmmbefejmbpeaaDoor.PQry1 Go.Proofs.YtlmmbefejmbpeaaDoor Go.Proofs.YtlmmbefejmbpeaaDoor.PQry0 Go.Proofs.YtlmmbefejmbpeaaDoor.M
set_option linter.unusedVariables false
theorem bt_nat (s : ByteArray) {i : Nat} (h : i < s.size) : bt s (i : Int) = (s[i].toNat : Int) := by
  unfold bt
  simp [h]
theorem u8i (c d : UInt8) : (c.toNat : Int) = (d.toNat : Int) ↔ c = d := ⟨fun e => UInt8.toNat_inj.1 (by omega), fun e => by rw [e]⟩
theorem blank_ev (s : ByteArray) (hs : s.size ≤ 1000000) (o e p : Int) : ∀ (m i : Nat), s.size - i ≤ m → i ≤ 2000000 → ∀ k ≥ m + 1, fascineref06_Reader_blank.f k s (i : Int) o e p = some (s, (skip (lt s) i : Int), o, e, p) := by
  intro m
  induction m with
  | zero =>
    intro i hi hb k hk
    obtain ⟨k, rfl⟩ : ∃ j, k = j + 1 := ⟨k - 1, by omega⟩
    have h0 : skip (lt s) i = i := skip_stop fun c hc => by rw [List.getElem?_eq_none (by simp; omega)] at hc; cases hc
    unfold fascineref06_Reader_blank.f
    rw [fascineref06_Reader_blank.l0, if_neg (by omega), h0]
  | succ m ih =>
    intro i hi hb k hk
    obtain ⟨k, rfl⟩ : ∃ j, k = j + 1 := ⟨k - 1, by omega⟩
    unfold fascineref06_Reader_blank.f
    rw [fascineref06_Reader_blank.l0]
    by_cases hlt : i < s.size
    · have hby := byte_eq s hlt
      rw [if_pos (by omega), if_pos (by omega), bt_nat s hlt]
      by_cases h32 : s[i] = 32
      · rw [if_pos (by rw [h32]; rfl), show wrap64 ((i : Int) + 1) = ((i + 1 : Nat) : Int) from by unfold wrap64; omega]
        rw [skip_at (by rw [hby, h32])]
        exact ih (i + 1) (by omega) (by omega) k (by omega)
      · rw [if_neg (fun e2 => h32 ((u8i s[i] 32).1 e2))]
        rw [skip_stop fun c hc => by rw [hby] at hc; cases hc; exact h32]
    · have h0 : skip (lt s) i = i := skip_stop fun c hc => by rw [List.getElem?_eq_none (by simp; omega)] at hc; cases hc
      rw [if_neg (by omega), h0]
theorem end_ev (s : ByteArray) (hs : s.size ≤ 1000000) (i0 o e p : Int) : ∀ (m i : Nat), s.size - i ≤ m → i ≤ 2000000 → ∀ k ≥ m + 1, fascineref06_Reader_end.l0 k (i : Int) s i0 o e p = some ((wend (lt s) i : Int), s, i0, o, e, p) := by
  intro m
  induction m with
  | zero =>
    intro i hi hb k hk
    obtain ⟨k, rfl⟩ : ∃ j, k = j + 1 := ⟨k - 1, by omega⟩
    have h0 : wend (lt s) i = i := wend_end (by unfold endB; rw [List.getElem?_eq_none (by simp; omega)])
    rw [fascineref06_Reader_end.l0, if_neg (by omega), h0]
  | succ m ih =>
    intro i hi hb k hk
    obtain ⟨k, rfl⟩ : ∃ j, k = j + 1 := ⟨k - 1, by omega⟩
    rw [fascineref06_Reader_end.l0]
    by_cases hlt : i < s.size
    · have hby := byte_eq s hlt
      have hE : endB (lt s) i = stop s[i] := by unfold endB; rw [hby]
      have hst : stop s[i] = true ↔ s[i].toNat = 32 ∨ s[i].toNat = 40 ∨ s[i].toNat = 41 := by
        unfold stop
        have e1 : (s[i] = 32) ↔ s[i].toNat = 32 := ⟨fun e => by rw [e]; rfl, fun e => UInt8.toNat_inj.1 (by rw [e]; rfl)⟩
        have e2 : (s[i] = 40) ↔ s[i].toNat = 40 := ⟨fun e => by rw [e]; rfl, fun e => UInt8.toNat_inj.1 (by rw [e]; rfl)⟩
        have e3 : (s[i] = 41) ↔ s[i].toNat = 41 := ⟨fun e => by rw [e]; rfl, fun e => UInt8.toNat_inj.1 (by rw [e]; rfl)⟩
        simp only [Bool.or_eq_true, beq_iff_eq, e1, e2, e3, or_assoc]
      rw [if_pos (by omega), if_pos (by omega), bt_nat s hlt]
      cases hs2 : stop s[i] with
      | true =>
        have h3 := hst.1 hs2
        rw [wend_end (hE.trans hs2)]
        by_cases a1 : (s[i].toNat : Int) = 32
        · rw [if_pos a1]
        · rw [if_neg a1]
          by_cases a2 : (s[i].toNat : Int) = 40
          · rw [if_pos a2]
          · rw [if_neg a2, if_pos (by omega)]
      | false =>
        have h3 : ¬ (s[i].toNat = 32 ∨ s[i].toNat = 40 ∨ s[i].toNat = 41) := fun x => by rw [hst.2 x] at hs2; cases hs2
        rw [if_neg (by omega), if_neg (by omega), if_neg (by omega), show wrap64 ((i : Int) + 1) = ((i + 1 : Nat) : Int) from by unfold wrap64; omega]
        rw [← wend_go (hE.trans hs2)]
        exact ih (i + 1) (by omega) (by omega) k (by omega)
    · have h0 : wend (lt s) i = i := wend_end (by unfold endB; rw [List.getElem?_eq_none (by simp; omega)])
      rw [if_neg (by omega), h0]
/-! numbers as they are written -/
def val : Nat → List UInt8 → Nat
  | acc, [] => acc
  | acc, c :: t => val (acc * 10 + (c.toNat - 48)) t
def digs (l : List UInt8) : Prop := ∀ c ∈ l, 48 ≤ c.toNat ∧ c.toNat ≤ 57
theorem val_app (acc : Nat) (a b : List UInt8) : val acc (a ++ b) = val (val acc a) b := by
  induction a generalizing acc with
  | nil => rfl
  | cons c t ih => exact ih _
theorem val_lt (l : List UInt8) : ∀ (acc n : Nat), digs l → acc < 10 ^ n → val acc l < 10 ^ (n + l.length) := by
  induction l with
  | nil => intro acc n _ h; exact h
  | cons c t ih =>
    intro acc n hd h
    have hc := hd c (by simp)
    have e : 10 ^ (n + 1) = 10 ^ n * 10 := Nat.pow_succ ..
    have h2 : acc * 10 + (c.toNat - 48) < 10 ^ (n + 1) := by
      rw [e]
      generalize 10 ^ n = P at h ⊢
      omega
    have h3 := ih (acc * 10 + (c.toNat - 48)) (n + 1) (fun x hx => hd x (by simp [hx])) h2
    rw [List.length_cons, show n + (t.length + 1) = n + 1 + t.length from by omega]
    exact h3
theorem val_dec : ∀ u : Nat, val 0 (Lib.decDigits u) = u := by
  intro u
  induction u using Nat.strongRecOn with
  | ind u ih =>
    rw [Lib.decDigits]
    by_cases h : u < 10
    · rw [dif_pos h]
      show 0 * 10 + ((UInt8.ofNat (48 + u)).toNat - 48) = u
      rw [dig_nat h]; omega
    · rw [dif_neg h, val_app, ih (u / 10) (by omega)]
      show u / 10 * 10 + ((UInt8.ofNat (48 + u % 10)).toNat - 48) = u
      rw [dig_nat (by omega)]; omega
/-- digits without a zero ahead are a number's own -/
theorem dec_val (l : List UInt8) : l ≠ [] → digs l → (l.length = 1 ∨ l.head? ≠ some 48) → Lib.decDigits (val 0 l) = l := by
  intro h0 hd hz
  -- from behind
  have key : ∀ (n : Nat) (l : List UInt8), l.length = n → l ≠ [] → digs l → (l.length = 1 ∨ l.head? ≠ some 48) → Lib.decDigits (val 0 l) = l := by
    intro n
    induction n with
    | zero => intro l hl h0 _ _; exact absurd (List.eq_nil_of_length_eq_zero hl) h0
    | succ n ih =>
      intro l hl h0 hd hz
      rcases List.eq_nil_or_concat l with rfl | ⟨a, c, rfl⟩
      · exact absurd rfl h0
      · rw [List.concat_eq_append] at *
        have hc := hd c (by simp)
        have hcn : UInt8.ofNat (48 + (c.toNat - 48)) = c := by
          apply UInt8.toNat_inj.1
          rw [dig_nat (by omega)]; omega
        cases a with
        | nil =>
          show Lib.decDigits (0 * 10 + (c.toNat - 48)) = [c]
          rw [Lib.decDigits_one (by omega), show 48 + (0 * 10 + (c.toNat - 48)) = 48 + (c.toNat - 48) from by omega, hcn]
        | cons d a =>
          have hda : digs (d :: a) := fun x hx => hd x (by simp at hx ⊢; rcases hx with h | h <;> simp [h])
          have hz2 : (d :: a).head? ≠ some 48 := by
            rcases hz with h | h
            · simp at h
            · simpa using h
          have ih2 := ih (d :: a) (by simp at hl ⊢; omega) (by simp) hda (.inr hz2)
          have hv : val 0 ((d :: a) ++ [c]) = val 0 (d :: a) * 10 + (c.toNat - 48) := by rw [val_app]; rfl
          have hpos : 1 ≤ val 0 (d :: a) := by
            rcases Nat.eq_zero_or_pos (val 0 (d :: a)) with h | h
            · exfalso
              rw [h, Lib.decDigits_one (by omega)] at ih2
              injection ih2 with e1 e2
              apply hz2
              rw [← e1]; rfl
            · exact h
          rw [hv, Lib.decDigits, dif_neg (by omega), show (val 0 (d :: a) * 10 + (c.toNat - 48)) / 10 = val 0 (d :: a) from by omega, show (val 0 (d :: a) * 10 + (c.toNat - 48)) % 10 = c.toNat - 48 from by omega, ih2, hcn]
  exact key l.length l rfl h0 hd hz
end Go.Proofs.YtlmmbefejmbpeaaDoor.Ref
namespace Go.Proofs.YtlmmbefejmbpeaaDoor.Ref
open Go.RowKit Go.Proofs.Qp Go.Proofs.YtlmmbefejmbpeaaDoorW.PrintWords Go.Proofs.YtlmmbefejmbpeaaDoor.PQry1 Go.Proofs.YtlmmbefejmbpeaaDoor Go.Proofs.YtlmmbefejmbpeaaDoor.PQry0 Go.Proofs.YtlmmbefejmbpeaaDoor.M
set_option linter.unusedVariables false
theorem u64w {x : Int} (h0 : 0 ≤ x) (h1 : x < 18446744073709551616) : IntKind.u64.wrap x = x := by
  exact IntWalk.u64_in x ⟨h0, by omega⟩
instance (l : List UInt8) : Decidable (digs l) := inferInstanceAs (Decidable (∀ c ∈ l, 48 ≤ c.toNat ∧ c.toNat ≤ 57))
/-- the end of the number's loop -/
def numE (i : Int) (v : Nat) : Int × Bool := if i = 0 then (wrap64 (v : Int), decide ((v : Int) ≤ 9223372036854775807)) else (if (v : Int) > 9223372036854775808 then (0, false) else (wrap64 ((wrap64 (-(wrap64 (IntKind.u64.wrap ((v : Int) - 1))))) - 1), true))
theorem drop_cons (s : ByteArray) {j : Nat} (h : j < s.size) : (lt s).drop j = s[j] :: (lt s).drop (j + 1) := by
  rw [List.drop_eq_getElem_cons (by simpa using h)]; rfl
theorem num_loop (d : ByteArray) (i : Int) (hs : d.size ≤ 1000000) : ∀ (m j v n : Nat), d.size = j + m → v < 10 ^ n → n + m ≤ 19 → ∀ k ≥ m + 1, fascineref06_Number.l0 k d i (v : Int) (j : Int) = some (if digs ((lt d).drop j) then numE i (val v ((lt d).drop j)) else (0, false)) := by
  intro m
  induction m with
  | zero =>
    intro j v n hj hv hn k hk
    obtain ⟨k, rfl⟩ : ∃ q, k = q + 1 := ⟨k - 1, by omega⟩
    have hnil : (lt d).drop j = [] := List.drop_eq_nil_of_le (by simp; omega)
    have hdn : digs ((lt d).drop j) := by rw [hnil]; intro c hc; cases hc
    have hr : (if digs ((lt d).drop j) then numE i (val v ((lt d).drop j)) else (0, false)) = numE i v := by rw [if_pos hdn, hnil]; rfl
    rw [fascineref06_Number.l0, if_neg (by omega), hr]
    unfold numE
    by_cases hi0 : i = 0
    · rw [if_pos hi0, if_pos hi0]
    · rw [if_neg hi0, if_neg hi0]
      by_cases hv2 : (v : Int) > 9223372036854775808
      · rw [if_pos hv2, if_pos hv2]
      · rw [if_neg hv2, if_neg hv2]
  | succ m ih =>
    intro j v n hj hv hn k hk
    obtain ⟨k, rfl⟩ : ∃ q, k = q + 1 := ⟨k - 1, by omega⟩
    have hlt : j < d.size := by omega
    have hp : (10 : Nat) ^ (n + 1) ≤ 10 ^ 19 := Nat.pow_le_pow_right (by decide) (by omega)
    have hp1 : (10 : Nat) ^ (n + 1) = 10 ^ n * 10 := Nat.pow_succ ..
    have e19 : (10 : Nat) ^ 19 = 10000000000000000000 := by decide
    rw [fascineref06_Number.l0, if_pos (by omega), if_pos (by omega), bt_nat d hlt, drop_cons d hlt]
    by_cases a1 : d[j].toNat < 48
    · rw [if_pos (by omega), if_neg (fun x => by have := x d[j] (by simp); omega)]
    · rw [if_neg (by omega)]
      by_cases a2 : 57 < d[j].toNat
      · rw [if_pos (by omega), if_neg (fun x => by have := x d[j] (by simp); omega)]
      · rw [if_neg (by omega)]
        have hw : (IntKind.u64.wrap ((IntKind.u64.wrap ((v : Int) * 10)) + (((d[j].toNat : Int) - 48) % 256))) = ((v * 10 + (d[j].toNat - 48) : Nat) : Int) := by
          rw [u64w (x := (v : Int) * 10) (by omega) (by omega), u64w (by omega) (by omega)]; omega
        rw [hw, show wrap64 ((j : Int) + 1) = ((j + 1 : Nat) : Int) from by unfold wrap64; omega]
        rw [ih (j + 1) (v * 10 + (d[j].toNat - 48)) (n + 1) (by omega) (by omega) (by omega) k (by omega)]
        have hiff : digs (d[j] :: (lt d).drop (j + 1)) ↔ digs ((lt d).drop (j + 1)) := by
          constructor
          · intro x c hc; exact x c (by simp [hc])
          · intro x c hc
            rcases List.mem_cons.1 hc with rfl | hc
            · omega
            · exact x c hc
        by_cases hd : digs ((lt d).drop (j + 1))
        · rw [if_pos hd, if_pos (hiff.2 hd)]; rfl
        · rw [if_neg hd, if_neg (fun x => hd (hiff.1 x))]
/-- what the reference takes for a number: behind the sign -/
def numT (i : Nat) (t : List UInt8) : Option Int :=
  if t = [] ∨ 19 < t.length then none
  else if t.head? = some 48 ∧ (1 < t.length ∨ i = 1) then none
  else if digs t then (if i = 0 then (if val 0 t ≤ 9223372036854775807 then some (val 0 t : Int) else none) else (if 9223372036854775808 < val 0 t then none else some (-(val 0 t : Int)))) else none
def numF (l : List UInt8) : Option Int := if l.head? = some 45 then numT 1 l.tail else numT 0 l
theorem num_j1 (d : ByteArray) (hs : d.size ≤ 1000000) (i : Nat) (hi : i ≤ 1) (his : i ≤ d.size) : ∃ x, ∀ k ≥ d.size + 5, fascineref06_Number.j1 k d (i : Int) = some (match numT i ((lt d).drop i) with | some n => (n, true) | none => (x, false)) := by
  have hlen : ((lt d).drop i).length = d.size - i := by simp
  by_cases h1 : ((lt d).drop i) = [] ∨ 19 < ((lt d).drop i).length
  · refine ⟨0, fun k hk => ?_⟩
    obtain ⟨k, rfl⟩ : ∃ q, k = q + 2 := ⟨k - 2, by omega⟩
    have hn : numT i ((lt d).drop i) = none := by unfold numT; rw [if_pos h1]
    rw [hn, show k + 2 = (k + 1) + 1 from rfl, fascineref06_Number.j1]
    rcases h1 with h | h
    · have := congrArg List.length h
      rw [hlen] at this
      rw [if_pos (by unfold wrap64; simp at this; omega), fascineref06_Number.j2, if_pos rfl]
    · rw [if_neg (by unfold wrap64; omega), if_pos (by unfold wrap64; omega), fascineref06_Number.j2, if_pos rfl]
  · have hne : (lt d).drop i ≠ [] := fun x => h1 (.inl x)
    have hpos := List.length_pos_iff.2 hne
    have h19 : ((lt d).drop i).length ≤ 19 := by omega
    have hlt : i < d.size := by omega
    have hhd : ((lt d).drop i).head? = some d[i] := by rw [drop_cons d hlt]; rfl
    have e48 : (d[i].toNat : Int) = 48 ↔ d[i] = 48 := u8i d[i] 48
    by_cases h2 : ((lt d).drop i).head? = some 48 ∧ (1 < ((lt d).drop i).length ∨ i = 1)
    · refine ⟨0, fun k hk => ?_⟩
      obtain ⟨k, rfl⟩ : ∃ q, k = q + 2 := ⟨k - 2, by omega⟩
      have hn : numT i ((lt d).drop i) = none := by unfold numT; rw [if_neg h1, if_pos h2]
      have h48 : d[i] = 48 := by have := h2.1; rw [hhd] at this; injection this
      rw [hn, show k + 2 = (k + 1) + 1 from rfl, fascineref06_Number.j1, if_neg (by unfold wrap64; omega), if_neg (by unfold wrap64; omega), if_pos (by omega), if_pos (by omega), bt_nat d hlt, if_pos (e48.2 h48)]
      by_cases h3 : 1 < d.size - i
      · rw [if_pos (by unfold wrap64; omega), fascineref06_Number.j2, if_pos rfl]
      · have hi1 : i = 1 := by rcases h2.2 with h | h; omega; exact h
        rw [if_neg (by unfold wrap64; omega), fascineref06_Number.j2, if_pos (by rw [hi1]; rfl)]
    · have loop : ∀ k ≥ d.size + 3, fascineref06_Number.j2 k d (i : Int) false = some (if digs ((lt d).drop i) then numE (i : Int) (val 0 ((lt d).drop i)) else (0, false)) := by
        intro k hk
        obtain ⟨k, rfl⟩ : ∃ q, k = q + 1 := ⟨k - 1, by omega⟩
        rw [fascineref06_Number.j2, if_neg (by simp)]
        exact num_loop d (i : Int) hs (d.size - i) i 0 0 (by omega) (by decide) (by omega) k (by omega)
      have hj1 : ∀ k ≥ d.size + 5, fascineref06_Number.j1 k d (i : Int) = some (if digs ((lt d).drop i) then numE (i : Int) (val 0 ((lt d).drop i)) else (0, false)) := by
        intro k hk
        obtain ⟨k, rfl⟩ : ∃ q, k = q + 1 := ⟨k - 1, by omega⟩
        rw [fascineref06_Number.j1, if_neg (by unfold wrap64; omega), if_neg (by unfold wrap64; omega), if_pos (by omega), if_pos (by omega), bt_nat d hlt]
        by_cases h48 : d[i] = 48
        · have hn2 : ¬ (1 < ((lt d).drop i).length ∨ i = 1) := fun x => h2 ⟨by rw [hhd, h48], x⟩
          rw [if_pos (e48.2 h48), if_neg (by unfold wrap64; omega), show (((i : Nat) : Int) == 1) = false from by simp; omega]
          exact loop k (by omega)
        · rw [if_neg (fun e => h48 (e48.1 e))]
          exact loop k (by omega)
      by_cases hd : digs ((lt d).drop i)
      · refine ⟨(numE (i : Int) (val 0 ((lt d).drop i))).1, fun k hk => ?_⟩
        rw [hj1 k hk, if_pos hd]
        congr 1
        unfold numT
        rw [if_neg h1, if_neg h2, if_pos hd]
        have hvl := val_lt ((lt d).drop i) 0 0 hd (by decide)
        rw [Nat.zero_add] at hvl
        have hp : (10 : Nat) ^ ((lt d).drop i).length ≤ 10 ^ 19 := Nat.pow_le_pow_right (by decide) h19
        have e19 : (10 : Nat) ^ 19 = 10000000000000000000 := by decide
        have hnz : i = 1 → 1 ≤ val 0 ((lt d).drop i) := by
          intro hi1
          rcases Nat.eq_zero_or_pos (val 0 ((lt d).drop i)) with h | h
          · exfalso
            have h48 : ((lt d).drop i).head? ≠ some 48 := fun x => h2 ⟨x, .inr hi1⟩
            have := dec_val _ hne hd (.inr h48)
            rw [h, Lib.decDigits_one (by omega)] at this
            rw [← this] at h48
            exact h48 rfl
          · exact h
        generalize val 0 ((lt d).drop i) = v at *
        unfold numE
        by_cases hi0 : i = 0
        · subst hi0
          rw [if_pos (show ((0 : Nat) : Int) = 0 from rfl), if_pos (show (0 : Nat) = 0 from rfl)]
          by_cases hv : v ≤ 9223372036854775807
          · rw [if_pos hv]
            simp only
            rw [show wrap64 (v : Int) = v from by unfold wrap64; omega, decide_eq_true (by omega)]
          · rw [if_neg hv]
            simp only
            rw [decide_eq_false (by omega)]
        · have hi1 : i = 1 := by omega
          have hv1 := hnz hi1
          rw [if_neg (by omega), if_neg hi0]
          by_cases hv : 9223372036854775808 < v
          · rw [if_pos (by omega), if_pos hv]
          · rw [if_neg (by omega), if_neg hv]
            simp only
            rw [u64w (x := (v : Int) - 1) (by omega) (by omega)]
            congr 1
            unfold wrap64
            omega
      · refine ⟨0, fun k hk => ?_⟩
        rw [hj1 k hk, if_neg hd]
        have hn : numT i ((lt d).drop i) = none := by unfold numT; rw [if_neg h1, if_neg h2, if_neg hd]
        rw [hn]
theorem num_ev (d : ByteArray) (hs : d.size ≤ 1000000) : ∃ x, ∀ k ≥ d.size + 6, fascineref06_Number.f k d = some (match numF (lt d) with | some n => (n, true) | none => (x, false)) := by
  by_cases h0 : d.size = 0
  · obtain ⟨x, hx⟩ := num_j1 d hs 0 (by omega) (by omega)
    refine ⟨x, fun k hk => ?_⟩
    obtain ⟨k, rfl⟩ : ∃ q, k = q + 1 := ⟨k - 1, by omega⟩
    have hnil : lt d = [] := List.eq_nil_of_length_eq_zero (by simpa using h0)
    unfold fascineref06_Number.f
    rw [if_neg (by omega), fascineref06_Number.j0, if_neg (by simp)]
    have := hx k (by omega)
    have e : ((0 : Nat) : Int) = 0 := rfl
    rw [e] at this
    rw [this]
    unfold numF
    rw [hnil, if_neg (by simp)]
    rfl
  · have hlt : 0 < d.size := by omega
    have hhd : (lt d).head? = some d[0] := by
      have := drop_cons d hlt
      rw [List.drop_zero] at this
      rw [this]; rfl
    have e45 : ((bt d 0) == 45) = decide (d[0] = 45) := by
      have := bt_nat d hlt
      rw [show ((0 : Nat) : Int) = 0 from rfl] at this
      rw [this]
      by_cases h : d[0] = 45
      · rw [h]; rfl
      · rw [decide_eq_false h]
        have : ¬ (d[0].toNat : Int) = 45 := fun e => h ((u8i d[0] 45).1 e)
        simpa using this
    by_cases h45 : d[0] = 45
    · obtain ⟨x, hx⟩ := num_j1 d hs 1 (by omega) (by omega)
      refine ⟨x, fun k hk => ?_⟩
      obtain ⟨k, rfl⟩ : ∃ q, k = q + 1 := ⟨k - 1, by omega⟩
      unfold fascineref06_Number.f
      rw [if_pos (by omega), if_pos (by omega), e45, decide_eq_true h45, fascineref06_Number.j0, if_pos rfl]
      have := hx k (by omega)
      rw [show ((1 : Nat) : Int) = 1 from rfl] at this
      rw [this]
      unfold numF
      rw [hhd, h45, if_pos rfl, ← List.drop_one]
    · obtain ⟨x, hx⟩ := num_j1 d hs 0 (by omega) (by omega)
      refine ⟨x, fun k hk => ?_⟩
      obtain ⟨k, rfl⟩ : ∃ q, k = q + 1 := ⟨k - 1, by omega⟩
      unfold fascineref06_Number.f
      rw [if_pos (by omega), if_pos (by omega), e45, decide_eq_false h45, fascineref06_Number.j0, if_neg (by simp)]
      have := hx k (by omega)
      rw [show ((0 : Nat) : Int) = 0 from rfl] at this
      rw [this]
      unfold numF
      rw [hhd, if_neg (by intro e; injection e with e; exact h45 e), List.drop_zero]
theorem nd_le : ∀ (n u : Nat), u < 10 ^ (n + 1) → Lib.nDigits u ≤ n + 1 := by
  intro n
  induction n with
  | zero => intro u h; rw [Lib.nDigits_small (by simpa using h)]; omega
  | succ n ih =>
    intro u h
    by_cases h10 : u < 10
    · rw [Lib.nDigits_small h10]; omega
    · rw [Lib.nDigits_big h10]
      have := ih (u / 10) (by rw [Nat.pow_succ] at h; omega)
      omega
theorem dec_len (u : Nat) (h : u ≤ 9223372036854775808) : (Lib.decDigits u).length ≤ 19 := by
  rw [Lib.decDigits_length]
  exact nd_le 18 u (by have : (10 : Nat) ^ (18 + 1) = 10000000000000000000 := by decide
                       omega)
theorem dec_head : ∀ u : Nat, 0 < u → (Lib.decDigits u).head? ≠ some 48 := by
  intro u
  induction u using Nat.strongRecOn with
  | ind u ih =>
    intro hu h
    rw [Lib.decDigits] at h
    by_cases h10 : u < 10
    · rw [dif_pos h10] at h
      injection h with h
      have := congrArg UInt8.toNat h
      rw [dig_nat h10] at this
      have e : (48 : UInt8).toNat = 48 := rfl
      omega
    · rw [dif_neg h10, List.head?_append] at h
      obtain ⟨c, t, e⟩ := List.exists_cons_of_ne_nil (dec_ne (u / 10))
      have h2 := ih (u / 10) (by omega) (by omega)
      rw [e] at h h2
      exact h2 h
/-- the reference's numbers are those that are written as they are -/
theorem num_iff (l : List UInt8) (n : Int) : numF l = some n ↔ (Lib.parseIntB 64 l = .ok n ∧ Lib.itoa n = l) := by
  constructor
  · intro h
    have key : Lib.itoa n = l ∧ -9223372036854775808 ≤ n ∧ n ≤ 9223372036854775807 := by
      unfold numF at h
      split at h
      · rename_i h45
        obtain ⟨t, rfl⟩ : ∃ t, l = 45 :: t := by
          cases l with
          | nil => cases h45
          | cons c t => simp at h45; exact ⟨t, by rw [h45]⟩
        rw [List.tail_cons] at h
        unfold numT at h
        split at h
        · cases h
        · rename_i h1
          split at h
          · cases h
          · rename_i h2
            split at h
            · rename_i hd
              rw [if_neg (by omega)] at h
              split at h
              · cases h
              · rename_i hv
                injection h with h
                have hne : t ≠ [] := fun x => h1 (.inl x)
                have h48 : t.head? ≠ some 48 := fun x => h2 ⟨x, .inr rfl⟩
                have hdv := dec_val t hne hd (.inr h48)
                have hv0 : 1 ≤ val 0 t := by
                  rcases Nat.eq_zero_or_pos (val 0 t) with h | h
                  · exfalso
                    rw [h, Lib.decDigits_one (by omega)] at hdv
                    rw [← hdv] at h48
                    exact h48 rfl
                  · exact h
                rw [← h, Lib.itoa_neg _ hv0, hdv]
                exact ⟨rfl, by omega, by omega⟩
            · cases h
      · rename_i h45
        unfold numT at h
        split at h
        · cases h
        · rename_i h1
          split at h
          · cases h
          · rename_i h2
            split at h
            · rename_i hd
              rw [if_pos rfl] at h
              split at h
              · rename_i hv
                injection h with h
                have hne : l ≠ [] := fun x => h1 (.inl x)
                have hz : l.length = 1 ∨ l.head? ≠ some 48 := by
                  by_cases hl : l.length = 1
                  · exact .inl hl
                  · refine .inr fun x => h2 ⟨x, .inl ?_⟩
                    have := List.length_pos_iff.2 hne
                    omega
                rw [← h, Lib.itoa_nonneg, dec_val l hne hd hz]
                exact ⟨rfl, by omega, by omega⟩
              · cases h
            · cases h
    obtain ⟨h1, h2, h3⟩ := key
    exact ⟨by rw [← h1]; exact parse_itoa n h2 h3, h1⟩
  · rintro ⟨hp, rfl⟩
    obtain ⟨b0, b1⟩ := parse_bounds hp
    by_cases hneg : n < 0
    · obtain ⟨u, hu⟩ : ∃ u : Nat, n = -(u : Int) := ⟨(-n).toNat, by omega⟩
      subst hu
      rw [Lib.itoa_neg u (by omega)]
      unfold numF
      rw [if_pos (show (45 :: Lib.decDigits u).head? = some 45 from rfl), List.tail_cons]
      unfold numT
      rw [if_neg (by
        rintro (h | h)
        · exact dec_ne u h
        · have := dec_len u (by omega); omega), if_neg (fun x => dec_head u (by omega) x.1), if_pos (show digs (Lib.decDigits u) from dec_digits u), if_neg (by omega), val_dec, if_neg (by omega)]
    · obtain ⟨u, hu⟩ : ∃ u : Nat, n = (u : Int) := ⟨n.toNat, by omega⟩
      subst hu
      rw [Lib.itoa_nonneg]
      unfold numF
      have h45 : (Lib.decDigits u).head? ≠ some 45 := by
        intro h
        obtain ⟨c, t, e⟩ := List.exists_cons_of_ne_nil (dec_ne u)
        have hc := dec_digits u c (by rw [e]; simp)
        rw [e] at h
        injection h with h
        subst h
        exact absurd hc.1 (by decide)
      rw [if_neg h45]
      unfold numT
      rw [if_neg (by
        rintro (h | h)
        · exact dec_ne u h
        · have := dec_len u (by omega); omega), if_neg (by
        rintro ⟨h, h2⟩
        rcases Nat.eq_zero_or_pos u with rfl | hp0
        · rw [Lib.decDigits_one (by omega)] at h2
          simp at h2
        · exact dec_head u hp0 h), if_pos (show digs (Lib.decDigits u) from dec_digits u), if_pos (show (0 : Nat) = 0 from rfl), val_dec, if_pos (by omega)]
end Go.Proofs.YtlmmbefejmbpeaaDoor.Ref
namespace Go.Proofs.YtlmmbefejmbpeaaDoor.Ref
open Go.RowKit Go.Proofs.Qp Go.Proofs.YtlmmbefejmbpeaaDoorW.PrintWords Go.Proofs.YtlmmbefejmbpeaaDoor.PQry1 Go.Proofs.YtlmmbefejmbpeaaDoor Go.Proofs.YtlmmbefejmbpeaaDoor.PQry0 Go.Proofs.YtlmmbefejmbpeaaDoor.M
set_option linter.unusedVariables false
def leafA (s : ByteArray) (i i2 o p : Int) (w : ByteArray) : Int × ByteArray × Int × List S25 × ByteArray × Int × Int × Int × Int := match leafV w with
  | some q => (q.f0, q.f1, q.f2, q.f3, s, i2, o, 0, p)
  | none => (0, ⟨#[]⟩, 0, [], s, i2, o, 4, i)
theorem fail_zero (s : ByteArray) (i o p a c : Int) : fascineref06_Reader_fail.f s i o 0 p a c = some (s, i, o, c, a) := by
  unfold fascineref06_Reader_fail.f
  rw [if_pos rfl]
theorem ext_lt (w : ByteArray) : lt (w.extract 1 w.size) = (lt w).drop 1 := extract_drop w 1
theorem leaf_ev (s w : ByteArray) (hw : w.size ≤ 1000000) (i o p : Int) : ∃ K, ∀ k ≥ K, fascineref06_Reader_leaf.f k s i o 0 p w = some (leafA s i (wrap64 (i + (w.size : Int))) o p w) := by
  generalize hi2 : wrap64 (i + (w.size : Int)) = i2
  obtain ⟨K1, h1⟩ := Pure.refOne_ev w (by omega)
  obtain ⟨K2, h2⟩ := Pure.refPair_ev w (by omega)
  dsimp only at h1 h2
  obtain ⟨x, hx⟩ := num_ev (w.extract 1 w.size) (by simp; omega)
  have hxs : (w.extract 1 w.size).size = w.size - 1 := by simp
  refine ⟨K1 + K2 + w.size + 20, fun k hk => ?_⟩
  unfold fascineref06_Reader_leaf.f
  rw [hi2]
  by_cases hstar : w = ⟨#[42]⟩
  · have e : w.toList = ([42] : List UInt8) := by rw [hstar, ByteArray.toList_eq]
    have hl : leafV w = some ⟨0, ⟨#[]⟩, 0, []⟩ := by unfold leafV; rw [if_pos hstar]
    rw [if_pos e]
    unfold leafA
    rw [hl]
  · have e : ¬ w.toList = ([42] : List UInt8) := fun e => hstar (toList_inj (by rw [e, ByteArray.toList_eq]))
    rw [if_neg e, h1 k (by omega), Option.bind_some]
    have ho : M.oneV (M.wds w.data.toList) w.data.toList = oneB w := rfl
    rw [ho]
    cases hoB : oneB w with
    | true =>
      have hl : leafV w = some ⟨1, w, 0, []⟩ := by unfold leafV; rw [if_neg hstar, if_pos hoB]
      rw [if_pos rfl]
      unfold leafA
      rw [hl]
    | false =>
      rw [if_neg (by simp), h2 k (by omega), Option.bind_some]
      have hp : M.pairV (M.wds w.data.toList) w.data.toList = pairB w := rfl
      rw [hp]
      cases hpB : pairB w with
      | true =>
        have hl : leafV w = some ⟨2, w, 0, []⟩ := by unfold leafV; rw [if_neg hstar, if_neg (by rw [hoB]; simp), if_pos hpB]
        rw [if_pos rfl]
        unfold leafA
        rw [hl]
      | false =>
        have hl : leafV w = numV w := by unfold leafV; rw [if_neg hstar, if_neg (by rw [hoB]; simp), if_neg (by rw [hpB]; simp)]
        rw [if_neg (by simp)]
        have fin : ∀ k ≥ 1, leafV w = none → fascineref06_Reader_leaf.j0 k w i false s i2 o 0 p = some (leafA s i i2 o p w) := by
          intro k hk hn
          obtain ⟨k, rfl⟩ : ∃ q, k = q + 1 := ⟨k - 1, by omega⟩
          rw [fascineref06_Reader_leaf.j0, if_neg (by simp), fail_zero, Option.bind_some]
          unfold leafA
          rw [hn]
        by_cases hsz : w.size > 1
        · have hlt : 0 < w.size := by omega
          have hb0 := bt_nat w hlt
          rw [show ((0 : Nat) : Int) = 0 from rfl] at hb0
          have h0 : (lt w)[0]? = some w[0] := byte_eq w hlt
          have num : ∀ k ≥ w.size + 10, (w[0] = 62 ∨ w[0] = 60) → fascineref06_Reader_leaf.j0 k w i true s i2 o 0 p = some (leafA s i i2 o p w) := by
            intro k hk hc
            obtain ⟨k, rfl⟩ : ∃ q, k = q + 2 := ⟨k - 2, by omega⟩
            rw [show k + 2 = (k + 1) + 1 from rfl, fascineref06_Reader_leaf.j0, if_pos rfl, if_pos (by omega), hx (k + 1) (by omega), Option.bind_some]
            cases hn : numF (lt (w.extract 1 w.size)) with
            | none =>
              have hv : leafV w = none := by
                rw [hl]
                by_cases hh : ∃ v, Lib.parseIntB 64 (lt (w.extract 1 w.size)) = .ok v
                · obtain ⟨v, hv⟩ := hh
                  refine numV_fmt hv (fun e => ?_)
                  have h5 : Lib.itoa v = lt (w.extract 1 w.size) := by rw [← e]
                  rw [(num_iff _ v).2 ⟨hv, h5⟩] at hn
                  cases hn
                · exact numV_bad (fun v e => hh ⟨v, e⟩)
              simp only
              rw [if_neg (by simp), fascineref06_Reader_leaf.j1, if_neg (by simp), if_neg (by simp), fail_zero, Option.bind_some]
              unfold leafA
              rw [hv]
            | some n =>
              obtain ⟨n1, n2⟩ := (num_iff _ n).1 hn
              have hbe : (⟨(Lib.itoa n).toArray⟩ : ByteArray) = w.extract 1 w.size := by
                rw [n2]
              have hv : leafV w = some ⟨if (lt w)[0]? = some 62 then 6 else 7, ⟨#[]⟩, n, []⟩ := by
                rw [hl]
                exact numV_ok (by rw [h0]; rcases hc with h | h <;> rw [h] <;> simp) n1 hbe
              simp only
              rw [if_pos trivial, if_pos (by omega), fascineref06_Reader_leaf.j1, hb0]
              by_cases h62 : w[0] = 62
              · rw [show (((w[0].toNat : Nat) : Int) == 62) = true from by rw [h62]; rfl, if_pos rfl]
                unfold leafA
                rw [hv, h0, h62]
                simp
              · have : (((w[0].toNat : Nat) : Int) == 62) = false := by
                  have h : ¬ ((w[0].toNat : Nat) : Int) = 62 := fun e => h62 ((u8i w[0] 62).1 e)
                  simpa using h
                rw [this, if_neg (by simp), if_pos rfl]
                unfold leafA
                rw [hv, h0]
                have h6 : ¬ (some w[0] = some (62 : UInt8)) := fun e => h62 (by injection e)
                rw [if_neg h6]
          rw [if_pos (by omega), if_pos (by omega), hb0]
          by_cases h62 : w[0] = 62
          · rw [if_pos (show ((w[0].toNat : Nat) : Int) = 62 from (u8i w[0] 62).2 h62)]
            exact num k (by omega) (.inl h62)
          · rw [if_neg (show ¬ ((w[0].toNat : Nat) : Int) = 62 from fun e => h62 ((u8i w[0] 62).1 e))]
            by_cases h60 : w[0] = 60
            · rw [show (((w[0].toNat : Nat) : Int) == 60) = true from by rw [h60]; rfl]
              exact num k (by omega) (.inr h60)
            · have : (((w[0].toNat : Nat) : Int) == 60) = false := by
                have h : ¬ ((w[0].toNat : Nat) : Int) = 60 := fun e => h60 ((u8i w[0] 60).1 e)
                simpa using h
              rw [this]
              refine fin k (by omega) ?_
              rw [hl]
              exact numV_none (by rw [h0]; intro e; injection e with e; exact h62 e) (by rw [h0]; intro e; injection e with e; exact h60 e)
        · rw [if_neg (by omega)]
          refine fin k (by omega) ?_
          rw [hl]
          apply numV_bad
          have : lt (w.extract 1 w.size) = [] := List.eq_nil_of_length_eq_zero (by rw [ext_lt]; simp; omega)
          rw [this]
          intro v hv
          cases hv
end Go.Proofs.YtlmmbefejmbpeaaDoor.Ref
namespace Go.Proofs.YtlmmbefejmbpeaaDoor.Ref
open Go.RowKit Go.Shelf Go.Proofs.Qp Go.Proofs.YtlmmbefejmbpeaaDoorW.PrintWords Go.Proofs.YtlmmbefejmbpeaaDoorW.PrintLast Go.Proofs.YtlmmbefejmbpeaaDoorW.PrintMore Go.Proofs.YtlmmbefejmbpeaaDoor.PQry1 Go.Proofs.YtlmmbefejmbpeaaDoor Go.Proofs.YtlmmbefejmbpeaaDoor.PQry0 Go.Proofs.YtlmmbefejmbpeaaDoor.G Go.Proofs.YtlmmbefejmbpeaaDoor.M
set_option linter.unusedVariables false
set_option linter.unusedSimpArgs false
/-- the reference's reader: the text, the place, how many are open, the fault, its place -/
def R5 (w : World) (g : Nat) (s : ByteArray) (i o e p : Int) : Prop := w.heap[g]? = some (.cells #[.string s, .int .i64 i, .int .i64 o, .int .i64 e, .int .i64 p] 53 (0, 0))
theorem R5.lt {w : World} {g : Nat} {s : ByteArray} {i o e p : Int} (h : R5 w g s i o e p) : g < w.heap.size := blk_lt h
theorem R5.cells {w : World} {g : Nat} {s : ByteArray} {i o e p : Int} (h : R5 w g s i o e p) : w.cell? ⟨g, 0, none⟩ = some (.string s) ∧ w.cell? ⟨g, 1, none⟩ = some (.int .i64 i) ∧ w.cell? ⟨g, 2, none⟩ = some (.int .i64 o) ∧ w.cell? ⟨g, 3, none⟩ = some (.int .i64 e) ∧ w.cell? ⟨g, 4, none⟩ = some (.int .i64 p) ∧ w.frozen? ⟨g, 1, none⟩ = false ∧ w.frozen? ⟨g, 2, none⟩ = false :=
  ⟨blk_cell h 0, blk_cell h 1, blk_cell h 2, blk_cell h 3, blk_cell h 4, blk_frozen h 1, blk_frozen h 2⟩
theorem R5.old {w w' : World} {g : Nat} {s : ByteArray} {i o e p : Int} (h : R5 w g s i o e p) (hb : Below w.heap.size w w') : R5 w' g s i o e p := (hb.block g h.lt).trans h
theorem R5.drew {w : World} {g : Nat} {s : ByteArray} {i o e p : Int} (h : R5 w g s i o e p) : R5 w.drew g s i o e p := h
theorem R5.setI {w : World} {g : Nat} {s : ByteArray} {i o e p : Int} (h : R5 w g s i o e p) (x : Int) : R5 (w.setCell ⟨g, 1, none⟩ (.int .i64 x)) g s x o e p := blk_put h 1 _ rfl
theorem R5.setO {w : World} {g : Nat} {s : ByteArray} {i o e p : Int} (h : R5 w g s i o e p) (x : Int) : R5 (w.setCell ⟨g, 2, none⟩ (.int .i64 x)) g s i x e p := blk_put h 2 _ rfl
theorem R5.far {w : World} {g : Nat} {s : ByteArray} {i o e p : Int} (h : R5 w g s i o e p) {a : Addr} (ha : a.block ≠ g) (v : Value) : R5 (w.setCell a v) g s i o e p := (Below.heap_setCell w a v g ha.symm).trans h
theorem kp_keep {w0 w w' : World} {g : Nat} (hB : Below w0.heap.size w0 w) (hB' : Below w0.heap.size w0 w') (hk : KeepBut w w' g none) : Kp (fun k => k = g) w w' :=
  ⟨hB'.os.trans hB.os.symm, hB'.tape.trans hB.tape.symm, hB'.output.trans hB.output.symm, hk.1, fun k hlt hs => hk.2 k hlt hs (by simp)⟩
theorem blank5 {w : World} {g : Nat} {s : ByteArray} {i : Nat} {o e p : Int} (h : R5 w g s (i : Int) o e p) (hT : TT g w) (hs : s.size ≤ 1000) (hi : i ≤ 2000) :
    Calls Tryd.prog 21 #[rp g] w fun en w' => en = .returned (.tuple #[]) ∧ R5 w' g s (skip (lt s) i : Int) o e p ∧ Kp (fun k => k = g) w w' := by
  obtain ⟨w0, h0, h1, h2⟩ := hT
  refine (fascineref06_Reader_blank.calls (s.size + 1) g s i o e p _ _ _ _ _ w0 w ⟨h, h0⟩ h2 (blank_ev s (by omega) o e p s.size i (by omega) (by omega) _ (by omega))).mono ?_
  rintro en w' ⟨he, ⟨hr, _⟩, hb, hk⟩
  exact ⟨he, hr, kp_keep h2 hb hk⟩
theorem end5 {w : World} {g : Nat} {s : ByteArray} {i : Nat} {o e p : Int} (h : R5 w g s (i : Int) o e p) (hT : TT g w) (hs : s.size ≤ 1000) (hi : i ≤ 2000) :
    Calls Tryd.prog 42 #[rp g] w fun en w' => en = .returned (.int .i64 (wend (lt s) i : Int)) ∧ R5 w' g s (i : Int) o e p ∧ Kp (fun k => k = g) w w' := by
  obtain ⟨w0, h0, h1, h2⟩ := hT
  refine (fascineref06_Reader_end.calls (s.size + 1) g s i o e p _ _ _ _ _ _ w0 w ⟨h, h0⟩ h2 (end_ev s (by omega) i o e p s.size i (by omega) (by omega) _ (by omega))).mono ?_
  rintro en w' ⟨he, ⟨hr, _⟩, hb, hk⟩
  exact ⟨he, hr, kp_keep h2 hb hk⟩
theorem fail5 {w : World} {g : Nat} {s : ByteArray} {i o e p : Int} (h : R5 w g s i o e p) (hT : TT g w) (a c : Int) :
    Calls Tryd.prog 22 #[rp g, .int .i64 a, .int .i64 c] w fun en w' => en = .returned (.tuple #[]) ∧ R5 w' g s i o (if e = 0 then c else e) (if e = 0 then a else p) ∧ Kp (fun k => k = g) w w' := by
  obtain ⟨w0, h0, h1, h2⟩ := hT
  have hf : fascineref06_Reader_fail.f s i o e p a c = some (s, i, o, (if e = 0 then c else e), (if e = 0 then a else p)) := by
    unfold fascineref06_Reader_fail.f
    split <;> rfl
  refine (fascineref06_Reader_fail.calls g s i o e p a c _ _ _ _ _ w0 w ⟨h, h0⟩ h2 hf).mono ?_
  rintro en w' ⟨he, ⟨hr, _⟩, hb, hk⟩
  exact ⟨he, hr, kp_keep h2 hb hk⟩
theorem M_of_R {w w' : World} {q : S25} {v : Value} (hR : Kd.R k25 25 w' w.heap.size (fun _ => True) v q.f3) : k25.M w' w.heap.size (fun k => w.heap.size ≤ k) q [.int .u8 q.f0, .string q.f1, .int .i64 q.f2, v] :=
  k25_mkM _ _ _ q (Kd.R_mono (Kd.R_bound hR) (fun k hk => hk.2.1))
theorem leaf5 {w : World} {g : Nat} {s : ByteArray} {i : Nat} {o p : Int} (h : R5 w g s (i : Int) o 0 p) (hT : TT g w) (x : ByteArray) (hx : x.size ≤ 1000) (hi : i ≤ 2000) :
    Calls Tryd.prog 50 #[rp g, .string x] w fun en w' => ((∃ (q : S25) (cs : List Value), en = .returned (.agg cs.toArray) ∧ k25.M w' w.heap.size (fun k => w.heap.size ≤ k) q cs ∧ ∀ q', leafV x = some q' → q = q') ∧ R5 w' g s ((i : Int) + (x.size : Int)) o (match leafV x with | some _ => 0 | none => 4) (match leafV x with | some _ => p | none => (i : Int))) ∧ Kp (fun k => k = g) w w' := by
  obtain ⟨w0, h0, h1, h2⟩ := hT
  obtain ⟨K, hK⟩ := leaf_ev s x (by omega) (i : Int) o p
  have hf := hK K (Nat.le_refl _)
  rw [show wrap64 ((i : Int) + (x.size : Int)) = (i : Int) + (x.size : Int) from by unfold wrap64; omega] at hf
  unfold leafA at hf
  cases hl : leafV x with
  | some q =>
    rw [hl] at hf
    refine (fascineref06_Reader_leaf.calls K g s i o 0 p x _ _ _ _ _ _ _ _ _ w0 w h1 ⟨h, h0⟩ h2 hf).mono ?_
    rintro en w' ⟨v, he, hR, ⟨hr, _⟩, hb, hk⟩
    exact ⟨⟨⟨q, _, he, M_of_R hR, fun q' e => by injection e⟩, hr⟩, kp_keep h2 hb hk⟩
  | none =>
    rw [hl] at hf
    refine (fascineref06_Reader_leaf.calls K g s i o 0 p x _ _ _ _ _ _ _ _ _ w0 w h1 ⟨h, h0⟩ h2 hf).mono ?_
    rintro en w' ⟨v, he, hR, ⟨hr, _⟩, hb, hk⟩
    exact ⟨⟨⟨⟨0, ⟨#[]⟩, 0, []⟩, _, he, M_of_R (q := ⟨0, ⟨#[]⟩, 0, []⟩) hR, fun q' e => by cases e⟩, hr⟩, kp_keep h2 hb hk⟩
set_option maxHeartbeats 4000000 in
set_option maxRecDepth 100000 in
theorem word5 {w : World} {g : Nat} {s : ByteArray} {i : Nat} {o e p : Int} (h : R5 w g s (i : Int) o e p) (hT : TT g w) (hs : s.size ≤ 1000) (hi : i ≤ s.size) :
    Calls Tryd.prog 32 #[rp g] w fun en w' => en = .returned (.string ⟨(wordAt (lt s) (skip (lt s) i)).toArray⟩) ∧ R5 w' g s (skip (lt s) i : Int) o e p ∧ Kp (fun k => k = g) w w' := by
  have H := Aside0.mk h
  have HT := Aside0.mk hT
  have hle2 : skip (lt s) i ≤ s.size := by simpa using skip_le (lt s) (i := i) (by simpa using hi)
  have hwe : wend (lt s) (skip (lt s) i) ≤ s.size := by
    have := word_le (lt s) (i := skip (lt s) i) (by simpa using hle2)
    unfold wend; simpa using this
  have hwb : skip (lt s) i ≤ wend (lt s) (skip (lt s) i) := by unfold wend; omega
  have HX := Aside0.mk (extract_word s (skip (lt s) i))
  clear h hT
  generalize hbb : skip (lt s) i = b at *
  have HB0 := Aside0.mk hbb
  generalize hee : wend (lt s) b = f at *
  have HE0 := Aside0.mk hee
  clear hbb hee
  have hb0 : (0 : Int) ≤ (b : Int) := by omega
  have hb1 : (f : Int) ≤ (s.size : Int) := by omega
  have hb2 : (b : Int) ≤ (f : Int) := by omega
  go_enter Tryd.func32, Tryd.ntmps32
  go_wp2_with (first
    | (go_at_call 21; refine (blank5 H.out HT.out hs (by omega)).mono ?_; rintro en w1 ⟨rfl, hR, hK⟩; rw [HB0.out] at hR; have HR := Aside0.mk hR; have HK := Aside0.mk hK; clear hR hK))
  have HS : Aside0 (R5 w1 g s (b : Int) o e p ∧ Kp (fun k => k = g) w w1) := ⟨HR.out, HK.out⟩
  clear HR HK
  go_region_held3 (fun W' => (W'.cell? ⟨g, 0, none⟩ = some (.string s) ∧ W'.cell? ⟨g, 1, none⟩ = some (.int .i64 (b : Int))) ∧ Aside0 (R5 W' g s (b : Int) o e p ∧ Kp (fun k => k = g) w W')) (exact ⟨⟨HS.out.1.cells.1, HS.out.1.cells.2.1⟩, ⟨by first | exact HS.out | exact ⟨HS.out.1.drew, HS.out.2.drew⟩⟩⟩) (first
    | (go_at_call 42; refine (end5 (by first | exact HS.out.1 | exact HS.out.1.drew) (HT.out.kp (by first | exact HS.out.2 | exact HS.out.2.drew)) hs (by omega)).mono ?_; rintro en w2 ⟨rfl, hR, hK⟩; rw [HE0.out]; replace HS := Aside0.mk (show R5 w2 g s (b : Int) o e p ∧ Kp (fun k => k = g) w w2 from ⟨hR, by first | exact HS.out.2.drew.trans hK | exact HS.out.2.trans hK⟩); clear hR hK))
  go_wp2
  go_ret
  refine ⟨?_, HS.out.1, HS.out.2⟩
  rw [← HX.out]
  rfl
end Go.Proofs.YtlmmbefejmbpeaaDoor.Ref
namespace Go.Proofs.YtlmmbefejmbpeaaDoor.Ref
open Go.RowKit Go.Shelf Go.Proofs.Qp Go.Proofs.YtlmmbefejmbpeaaDoorW.PrintWords Go.Proofs.YtlmmbefejmbpeaaDoorW.PrintLast Go.Proofs.YtlmmbefejmbpeaaDoorW.PrintMore Go.Proofs.YtlmmbefejmbpeaaDoor.PQry1 Go.Proofs.YtlmmbefejmbpeaaDoor Go.Proofs.YtlmmbefejmbpeaaDoor.PQry0 Go.Proofs.YtlmmbefejmbpeaaDoor.G Go.Proofs.YtlmmbefejmbpeaaDoor.M
set_option linter.unusedVariables false
set_option linter.unusedSimpArgs false
/-- what a function of the reference's answers: a query, or some query and the fault in the reader -/
def Out5 (g : Nat) (s : ByteArray) (o : Nat) (p0 : Int) (w w' : World) (e : Ending) : Rs S25 → Prop
  | .ok q a o' => (∃ cs : List Value, e = .returned (.agg cs.toArray) ∧ k25.M w' w.heap.size (fun k => w.heap.size ≤ k) q cs) ∧ R5 w' g s (a : Int) (o' : Int) 0 p0 ∧ Kp (fun k => k = g) w w'
  | .bad a c => (∃ (q : S25) (cs : List Value), e = .returned (.agg cs.toArray) ∧ k25.M w' w.heap.size (fun k => w.heap.size ≤ k) q cs) ∧ c ≠ 0 ∧ (∃ (i' : Nat) (o'' : Int), i' ≤ s.size + 40 - o ∧ R5 w' g s (i' : Int) o'' c (a : Int)) ∧ Kp (fun k => k = g) w w'
/-- where such a function stands -/
structure A5 (w : World) (g : Nat) (s : ByteArray) (i o e p : Int) (v : Value) (acc : List S25) (w' : World) : Prop where
  rd : R5 w' g s i o e p
  kp : Kp (fun k => k = g) w w'
  row : k25.R 25 w' w.heap.size (fun k => w.heap.size < k) v acc
  blk : w'.heap[w.heap.size]? = some (.cells Z4 25)
section
variable {w : World} {g : Nat} {s : ByteArray} {i o e p : Int} {v : Value} {acc : List S25} {w' : World}
theorem A5.drew (h : A5 w g s i o e p v acc w') : A5 w g s i o e p v acc w'.drew := ⟨h.rd.drew, h.kp.drew, Kd.R_drew h.row, h.blk⟩
theorem A5.old {w2 : World} (h : A5 w g s i o e p v acc w') (hb : Below w'.heap.size w' w2) : A5 w g s i o e p v acc w2 :=
  ⟨h.rd.old hb, h.kp.trans (Kp.of_below hb), Kd.R_below h.row hb, (hb.block _ (blk_lt h.blk)).trans h.blk⟩
theorem A5.moved {w2 : World} {i' o' e' p' : Int} (hg : g < w.heap.size) (h : A5 w g s i o e p v acc w') (hr : R5 w2 g s i' o' e' p') (hk : Kp (fun k => k = g) w' w2) : A5 w g s i' o' e' p' v acc w2 :=
  ⟨hr, h.kp.trans hk, Kd.R_step h.row (fun k hk2 hlt => hk.block k hlt (by omega)), (hk.block _ (blk_lt h.blk) (by omega)).trans h.blk⟩
theorem A5.setI (hg : g < w.heap.size) (h : A5 w g s i o e p v acc w') (x : Int) : A5 w g s x o e p v acc (w'.setCell ⟨g, 1, none⟩ (.int .i64 x)) :=
  h.moved hg (h.rd.setI x) ((Kp.refl (fun k => k = g) _).setCell (p := ⟨g, 1, none⟩) rfl _)
theorem A5.setO (hg : g < w.heap.size) (h : A5 w g s i o e p v acc w') (x : Int) : A5 w g s i x e p v acc (w'.setCell ⟨g, 2, none⟩ (.int .i64 x)) :=
  h.moved hg (h.rd.setO x) ((Kp.refl (fun k => k = g) _).setCell (p := ⟨g, 2, none⟩) rfl _)
theorem A5.alloc (h : A5 w g s i o e p v acc w') (ob : Obj) : A5 w g s i o e p v acc (w'.alloc ob) := h.old (below_up ob)
theorem A5.grow {w8 : World} (hg : g < w.heap.size) (h : A5 w g s i o e p v acc w') {v1 : Value} {acc1 : List S25}
    (hR : k25.R 25 w8 w.heap.size (fun k => w.heap.size < k) v1 acc1) (hG : w'.grownBy w8 v.ownBlock) : A5 w g s i o e p v1 acc1 w8 := by
  have hne : ∀ k, k ≤ w.heap.size → some k ≠ v.ownBlock := fun k hk e => by have := h.row.1 k e.symm; omega
  refine ⟨(hG.block g h.rd.lt (hne g (by omega))).trans h.rd, ⟨hG.os.trans h.kp.os, hG.tape.trans h.kp.tape, hG.output.trans h.kp.output, Nat.le_trans h.kp.size hG.size, fun k hk hs => ?_⟩, hR, (hG.block _ (blk_lt h.blk) (hne _ (Nat.le_refl _))).trans h.blk⟩
  exact (hG.block k (Nat.lt_of_lt_of_le hk h.kp.size) (hne k (by omega))).trans (h.kp.block k hk hs)
theorem A5.fin {q : S25} {A : Option Addr} {n : Nat} (hg : g < w.heap.size) (h : A5 w g s i o e p v acc w')
    (hM : k25.M w' w.heap.size (fun k => w.heap.size < k) q [.int .u8 q.f0, .string q.f1, .int .i64 q.f2, .slice A q.f3.length n]) (u0 u1 u2 u3 : Value) :
    (∃ cs : List Value, (.returned (.agg #[.int .u8 q.f0, .string q.f1, .int .i64 q.f2, .slice A q.f3.length n]) : Ending) = .returned (.agg cs.toArray) ∧ k25.M ((((w'.setCell ⟨w.heap.size, 0, none⟩ u0).setCell ⟨w.heap.size, 1, none⟩ u1).setCell ⟨w.heap.size, 2, none⟩ u2).setCell ⟨w.heap.size, 3, none⟩ u3) w.heap.size (fun k => w.heap.size ≤ k) q cs) ∧
      R5 ((((w'.setCell ⟨w.heap.size, 0, none⟩ u0).setCell ⟨w.heap.size, 1, none⟩ u1).setCell ⟨w.heap.size, 2, none⟩ u2).setCell ⟨w.heap.size, 3, none⟩ u3) g s i o e p ∧
      Kp (fun k => k = g) w ((((w'.setCell ⟨w.heap.size, 0, none⟩ u0).setCell ⟨w.heap.size, 1, none⟩ u1).setCell ⟨w.heap.size, 2, none⟩ u2).setCell ⟨w.heap.size, 3, none⟩ u3) := by
  have hne : w.heap.size ≠ g := by omega
  have f : ∀ k, w.heap.size < k → k ≠ w.heap.size := fun k hk => by omega
  refine ⟨⟨_, rfl, ?_⟩, (((h.rd.far (a := ⟨_, _, _⟩) hne _).far (a := ⟨_, _, _⟩) hne _).far (a := ⟨_, _, _⟩) hne _).far (a := ⟨_, _, _⟩) hne _, (((h.kp.setNew (p := ⟨_, _, _⟩) (Nat.le_refl _) _).setNew (p := ⟨_, _, _⟩) (Nat.le_refl _) _).setNew (p := ⟨_, _, _⟩) (Nat.le_refl _) _).setNew (p := ⟨_, _, _⟩) (Nat.le_refl _) _⟩
  exact k25.M_mono (fun k hk => by omega) (Kd.M_far (Kd.M_far (Kd.M_far (Kd.M_far hM (p := ⟨_, _, _⟩) f _) (p := ⟨_, _, _⟩) f _) (p := ⟨_, _, _⟩) f _) (p := ⟨_, _, _⟩) f _)
theorem A5.finD {q : S25} {A : Option Addr} {n : Nat} (hg : g < w.heap.size) (h : A5 w g s i o e p v acc w')
    (hM : k25.M w' w.heap.size (fun k => w.heap.size < k) q [.int .u8 q.f0, .string q.f1, .int .i64 q.f2, .slice A q.f3.length n]) (u0 u1 u2 u3 : Value) :
    (∃ cs : List Value, (.returned (.agg #[.int .u8 q.f0, .string q.f1, .int .i64 q.f2, .slice A q.f3.length n]) : Ending) = .returned (.agg cs.toArray) ∧ k25.M ((((w'.setCell ⟨w.heap.size, 0, none⟩ u0).setCell ⟨w.heap.size, 1, none⟩ u1).setCell ⟨w.heap.size, 2, none⟩ u2).setCell ⟨w.heap.size, 3, none⟩ u3).drew w.heap.size (fun k => w.heap.size ≤ k) q cs) ∧
      R5 ((((w'.setCell ⟨w.heap.size, 0, none⟩ u0).setCell ⟨w.heap.size, 1, none⟩ u1).setCell ⟨w.heap.size, 2, none⟩ u2).setCell ⟨w.heap.size, 3, none⟩ u3).drew g s i o e p ∧
      Kp (fun k => k = g) w ((((w'.setCell ⟨w.heap.size, 0, none⟩ u0).setCell ⟨w.heap.size, 1, none⟩ u1).setCell ⟨w.heap.size, 2, none⟩ u2).setCell ⟨w.heap.size, 3, none⟩ u3).drew := by
  obtain ⟨⟨cs, he, hM⟩, hR, hK⟩ := h.fin hg hM u0 u1 u2 u3
  exact ⟨⟨cs, he, by refine k25.M_move ?_ hM; intro k _; rfl⟩, hR, hK.drew⟩
end
theorem word_key {l : List UInt8} {b : Nat} {p : List UInt8} (hp : ∀ c ∈ p, stop c = false) : (wordAt l b = p) ↔ (isB l b p = true ∧ endB l (b + p.length) = true) := by
  unfold wordAt isB endB
  have key : ∀ (p m : List UInt8), (∀ c ∈ p, stop c = false) → ((m.takeWhile fun c => !stop c) = p ↔ (p.isPrefixOf m = true ∧ (match m[p.length]? with | none => true | some c => stop c) = true)) := by
    intro p
    induction p with
    | nil =>
      intro m _
      cases m with
      | nil => simp
      | cons x t =>
        rw [List.takeWhile_cons]
        cases hx : stop x <;> simp [hx]
    | cons c p ih =>
      intro m hc
      have hc0 := hc c (by simp)
      cases m with
      | nil => simp
      | cons x t =>
        rw [List.takeWhile_cons]
        by_cases hxc : c = x
        · subst hxc
          have := ih t (fun y hy => hc y (by simp [hy]))
          simp only [hc0, Bool.not_false, if_true, List.cons.injEq, true_and, List.isPrefixOf, beq_self_eq_true, Bool.true_and, List.length_cons, List.getElem?_cons_succ]
          exact this
        · constructor
          · intro h
            exfalso
            cases hx : stop x with
            | true => rw [hx] at h; simp at h
            | false =>
              rw [hx] at h
              simp at h
              exact hxc h.1.symm
          · rintro ⟨h, _⟩
            exfalso
            simp only [List.isPrefixOf, Bool.and_eq_true, beq_iff_eq] at h
            exact hxc h.1
  rw [key p (l.drop b) hp]
  rw [List.getElem?_drop]
  exact Iff.rfl
/-- a bracket stands there -/
theorem is_one {s : ByteArray} {b : Nat} (h : b < s.size) (c : UInt8) : isB (lt s) b [c] = decide (s[b] = c) := by
  unfold isB
  rw [drop_cons s h]
  simp only [List.isPrefixOf, Bool.and_true]
  by_cases hc : c = s[b]
  · rw [hc]; simp
  · have : ¬ s[b] = c := fun e => hc e.symm
    rw [decide_eq_false this]
    simpa using hc
theorem is_none {s : ByteArray} {b : Nat} (h : s.size ≤ b) (c : UInt8) : isB (lt s) b [c] = false := by
  unfold isB
  rw [List.drop_eq_nil_of_le (by simpa using h)]
  rfl
/-- not, at fuel f, answers as notV -/
def Not5 (g : Nat) (s : ByteArray) (f : Nat) : Prop := ∀ (w : World) (a o : Nat) (p : Int), R5 w g s (a : Int) (o : Int) 0 p → TT g w → a ≤ s.size → o ≤ 16 → s.size < f + a →
  Calls Tryd.prog 41 #[rp g] w fun e w' => Out5 g s o p w w' e (notV (lt s) mkQ lf f a o)
theorem out5_ret {g : Nat} {s : ByteArray} {o : Nat} {p0 : Int} {w w' : World} {e : Ending} {r : Rs S25} (h : Out5 g s o p0 w w' e r) :
    ∃ (q : S25) (cs : List Value), e = .returned (.agg cs.toArray) ∧ k25.M w' w.heap.size (fun k => w.heap.size ≤ k) q cs ∧ Kp (fun k => k = g) w w' ∧
      ((∃ a' o' : Nat, r = .ok q a' o' ∧ R5 w' g s (a' : Int) (o' : Int) 0 p0) ∨ (∃ (pa : Nat) (c : Int) (i' : Nat) (o'' : Int), r = .bad pa c ∧ c ≠ 0 ∧ i' ≤ s.size + 40 - o ∧ R5 w' g s (i' : Int) o'' c (pa : Int))) := by
  cases r with
  | ok q a o' =>
    obtain ⟨⟨cs, he, hM⟩, hR, hK⟩ := h
    exact ⟨q, cs, he, hM, hK, .inl ⟨a, o', rfl, hR⟩⟩
  | bad a c =>
    obtain ⟨⟨q, cs, he, hM⟩, hc, ⟨i', o'', hi, hR⟩, hK⟩ := h
    exact ⟨q, cs, he, hM, hK, .inr ⟨a, c, i', o'', rfl, hc, hi, hR⟩⟩
/-- how much is left to read; nothing behind a fault -/
def mR (s : ByteArray) (g : Nat) (w : World) : Nat := match w.cell? ⟨g, 3, none⟩ with
  | some v => if intOf v = 0 then s.size + 1 - posOf g w else 0
  | none => 0
theorem mR_ok {w : World} {g : Nat} {s : ByteArray} {i : Nat} {o p : Int} (h : R5 w g s (i : Int) o 0 p) : mR s g w = s.size + 1 - i := by
  unfold mR posOf
  rw [h.cells.2.2.2.1, h.cells.2.1]
  simp [intOf]
theorem mR_bad {w : World} {g : Nat} {s : ByteArray} {i o e p : Int} (h : R5 w g s i o e p) (he : e ≠ 0) : mR s g w = 0 := by
  unfold mR
  rw [h.cells.2.2.2.1]
  simp [intOf, he]
end Go.Proofs.YtlmmbefejmbpeaaDoor.Ref
