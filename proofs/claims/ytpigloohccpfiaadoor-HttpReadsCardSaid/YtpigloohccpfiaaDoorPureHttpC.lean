/- On the printed functions of HttpReads: what each of them answers, in plain words. -/
import Derived.Test.YtpigloohccpfiaaDoorPHttpReadsx
import Derived.Test.YtpigloohccpfiaaDoorPureHttpB
namespace Go.Proofs.YtpigloohccpfiaaDoor.Pure
open Go.RowKit Go.Proofs.YtpigloohccpfiaaDoor.G Go.Proofs.YtpigloohccpfiaaDoor.PHttpReads Go.Proofs.YtpigloohccpfiaaDoorW.PrintWords Go.Proofs.YtpigloohccpfiaaDoorW.PrintLast Go.Proofs.YtpigloohccpfiaaDoorW.PrintMore Go.Proofs.YtpigloohccpfiaaDoor.M
set_option linter.unusedVariables false
set_option linter.unusedSimpArgs false

/-! ### the two readers -/
theorem lines_snoc (ls : List Tx) (line : Tx) : ls.map ba ++ [ba line] = (ls ++ [line]).map ba := by simp
theorem no_str (n : Nat) : (eB, eB, eB, false, (0 : Int), (n : Int)) = no n := rfl
theorem cr_le (p : Tx) {l : Tx} (h : crV p = some l) : l.length ≤ p.length := by
  unfold crV at h
  split at h
  · cases h; simp
  · cases h
theorem hread_loop (p : Tx) (hp : p.length ≤ 140737488351232) : ∀ (f : Nat) (ls : List Tx) (at_ : Nat), p.length < f + at_ → at_ ≤ p.length → at_ ≤ 2048 → (∀ s ∈ ls, s.length ≤ 2048) → ls.length ≤ 33 → Ev (fun k => http_Read.l0 k (ba p) (ls.map ba) (at_ : Int)) (rdV p f ls at_) := by
  intro f
  induction f with
  | zero => intro ls at_ h1 h2; omega
  | succ f ih =>
    intro ls at_ h1 h2 h3 hls hn
    unfold rdV
    have hlen : ((ls.map ba).length : Int) = (ls.length : Int) := by rw [List.length_map]
    by_cases hb : ls.length > 32
    · rw [if_pos hb]
      refine ev_some fun k => ?_
      simp only [http_Read.l0]
      rw [if_pos (by omega)]; rfl
    · rw [if_neg hb]
      have hx : (ba p).extract ((at_ : Int)).toNat (ba p).size = ba (p.drop at_) := by rw [Int.toNat_natCast, ba_from]
      have hidx : strings_Index.f (ba (p.drop at_)) (⟨#[10]⟩ : ByteArray) = some (ixI (ix (p.drop at_) 10)) := by
        unfold strings_Index.f
        rw [show (⟨#[10]⟩ : ByteArray).data.toList = [10] from rfl, ba_data]
        simp only
        rw [ix_index]
      have g1 : ¬ ((ls.map ba).length : Int) > 32 := by omega
      have g2 : (at_ : Int) ≤ ((ba p).size : Int) := by rw [ba_size]; omega
      have g0 : (0 : Int) ≤ (at_ : Int) := by omega
      cases hi : ix (p.drop at_) 10 with
      | none =>
        rw [hi] at hidx
        refine ev_some fun k => ?_
        simp only [http_Read.l0]
        rw [if_neg g1, if_pos g0, if_pos g2, hx, hidx, Option.bind_some, if_pos (by simp [ixI])]
        by_cases hz : p.length > 2048
        · rw [if_pos (by rw [ba_size]; omega), if_pos hz]; rfl
        · rw [if_neg (by rw [ba_size]; omega), if_neg hz]; rfl
      | some i =>
        rw [hi] at hidx
        simp only [ixI] at hidx
        have hil := ix_lt _ _ _ hi
        rw [List.length_drop] at hil
        have w1 : Unit → wrap64 ((at_ : Int) + (i : Int)) = ((at_ + i : Nat) : Int) := fun _ => by rw [M.w64 (by omega) (by omega)]; omega
        have w2 : Unit → wrap64 ((i : Int) + 1) = ((i + 1 : Nat) : Int) := fun _ => up1 (by omega)
        have w3 : Unit → wrap64 ((at_ : Int) + ((i + 1 : Nat) : Int)) = ((at_ + i + 1 : Nat) : Int) := fun _ => by rw [M.w64 (by omega) (by omega)]; omega
        have hx2 : (ba p).extract ((at_ : Int)).toNat ((at_ + i : Nat) : Int).toNat = ba ((p.drop at_).take i) := by rw [Int.toNat_natCast, Int.toNat_natCast, ba_ext, show at_ + i - at_ = i by omega]
        have hsl : ((p.drop at_).take i).length = i := by rw [List.length_take, List.length_drop]; omega
        have hsf := suffix_eq ((p.drop at_).take i) (by omega)
        have pre : ∀ k, http_Read.l0 (k + 1) (ba p) (ls.map ba) (at_ : Int) = (match crV ((p.drop at_).take i) with | some m => some (ba m, true) | none => some (ba ((p.drop at_).take i), false)).bind fun bt133 => (if ((at_ + i + 1 : Nat) : Int) > 2048 then (some ((⟨#[]⟩ : ByteArray), (⟨#[]⟩ : ByteArray), (⟨#[]⟩ : ByteArray), false, 0, 431)) else (if bt133.2 = true then (if bt133.1.toList = ([] : List UInt8) then (if ((ls.map ba).length : Int) > 0 then (if 0 < ((ls.map ba).length : Int) then ((http_first.f k (rdOf ByteArray.empty (ls.map ba) 0)).bind fun bt142 => (if bt142.2.2.2.2 = true then (if 1 ≤ ((ls.map ba).length : Int) then ((http_heads.f k bt142.1 bt142.2.1 bt142.2.2.1 bt142.2.2.2.1 ((ls.map ba).drop 1)).bind fun bt152 => (if bt152.2.1 > 0 then (some ((⟨#[]⟩ : ByteArray), (⟨#[]⟩ : ByteArray), (⟨#[]⟩ : ByteArray), false, 0, bt152.2.1)) else (if (wrap64 (((ba p).size : Int) - ((at_ + i + 1 : Nat) : Int))) < bt152.1 then (some ((⟨#[]⟩ : ByteArray), (⟨#[]⟩ : ByteArray), (⟨#[]⟩ : ByteArray), false, 0, 0)) else (if 0 ≤ ((at_ + i + 1 : Nat) : Int) then (if ((at_ + i + 1 : Nat) : Int) ≤ (wrap64 (((at_ + i + 1 : Nat) : Int) + bt152.1)) then (if (wrap64 (((at_ + i + 1 : Nat) : Int) + bt152.1)) ≤ ((ba p).size : Int) then (some (bt152.2.2.1, bt152.2.2.2.1, (ba p).extract (((at_ + i + 1 : Nat) : Int) : Int).toNat ((wrap64 (((at_ + i + 1 : Nat) : Int) + bt152.1)) : Int).toNat, bt152.2.2.2.2.2, wrap64 (((at_ + i + 1 : Nat) : Int) + bt152.1), 0)) else (none)) else (none)) else (none))))) else (none)) else (some ((⟨#[]⟩ : ByteArray), (⟨#[]⟩ : ByteArray), (⟨#[]⟩ : ByteArray), false, 0, 400)))) else (none)) else (if (ls.map ba).length < 8796093022208 then (http_Read.l0 k (ba p) (ls.map ba ++ [bt133.1]) ((at_ + i + 1 : Nat) : Int)) else (none))) else (if (ls.map ba).length < 8796093022208 then (http_Read.l0 k (ba p) (ls.map ba ++ [bt133.1]) ((at_ + i + 1 : Nat) : Int)) else (none))) else (some ((⟨#[]⟩ : ByteArray), (⟨#[]⟩ : ByteArray), (⟨#[]⟩ : ByteArray), false, 0, 400)))) := by
          intro k
          simp only [http_Read.l0]
          rw [if_neg g1, if_pos g0, if_pos g2, hx, hidx, Option.bind_some, if_neg (by omega), w1 (), if_pos (by omega), if_pos (by rw [ba_size]; omega), hx2, hsf, w2 (), w3 ()]
          cases crV ((p.drop at_).take i) <;> rfl
        clear hsf w1 w2 w3 hidx hx hx2
        dsimp only
        by_cases hbig : at_ + i + 1 > 2048
        · rw [if_pos hbig]
          refine ev_some fun k => ?_
          rw [pre]
          cases crV ((p.drop at_).take i) with
          | none => dsimp only; rw [Option.bind_some, if_pos (by omega)]; rfl
          | some m => dsimp only; rw [Option.bind_some, if_pos (by omega)]; rfl
        · rw [if_neg hbig]
          cases hcr : crV ((p.drop at_).take i) with
          | none =>
            rw [hcr] at pre
            dsimp only at pre ⊢
            refine ev_some fun k => ?_
            rw [pre, Option.bind_some, if_neg (by omega), if_neg (by simp)]; rfl
          | some line =>
            rw [hcr] at pre
            dsimp only at pre ⊢
            have hll := cr_le _ hcr
            rw [hsl] at hll
            have go : Ev (fun k => http_Read.l0 k (ba p) ((ls ++ [line]).map ba) ((at_ + i + 1 : Nat) : Int)) (rdV p f (ls ++ [line]) (at_ + i + 1)) := by
              refine ih (ls ++ [line]) (at_ + i + 1) (by omega) (by omega) (by omega) ?_ (by rw [List.length_append, List.length_singleton]; omega)
              intro s hs
              rcases List.mem_append.1 hs with h | h
              · exact hls s h
              · rw [List.mem_singleton.1 h]; omega
            by_cases hl : line = []
            · subst hl
              by_cases hne : ls = []
              · subst hne
                rw [if_neg (fun x => x.2 rfl)]
                refine Ev.step (fun k => ?_) go
                rw [pre, Option.bind_some, if_neg (by omega)]
                dsimp only
                rw [if_pos rfl, if_pos (ba_list []), if_neg (by simp), if_pos (by simp), lines_snoc]
              · rw [if_pos ⟨rfl, hne⟩]
                obtain ⟨l0, lr, rfl⟩ : ∃ a r, ls = a :: r := by
                  cases ls with
                  | nil => exact absurd rfl hne
                  | cons a r => exact ⟨a, r, rfl⟩
                unfold finV
                rw [List.headD_cons, List.drop_succ_cons, List.drop_zero]
                have hlp : ((l0 :: lr).map ba).length = lr.length + 1 := by simp
                obtain ⟨K1, f1⟩ := hfirst_ev l0 (hls l0 (by simp))
                have e0 : rdOf ByteArray.empty ((l0 :: lr).map ba) 0 = ba l0 := rfl
                dsimp only at f1
                cases hfv : firstV l0 with
                | none =>
                  rw [hfv] at f1
                  refine ⟨K1 + 1, fun k hk => ?_⟩
                  obtain ⟨k, rfl⟩ : ∃ j, k = j + 1 := ⟨k - 1, by omega⟩
                  show http_Read.l0 (k + 1) _ _ _ = _
                  rw [pre, Option.bind_some, if_neg (by omega)]
                  dsimp only
                  rw [if_pos rfl, if_pos (ba_list []), if_pos (by rw [hlp]; omega), if_pos (by rw [hlp]; omega), e0, f1 _ (by omega), Option.bind_some, if_neg (by simp [firstR])]; rfl
                | some mq =>
                  obtain ⟨m, q⟩ := mq
                  rw [hfv] at f1
                  obtain ⟨K2, f2⟩ := heads_ev lr (fun s hs => hls s (by simp [hs])) (by simp at hn; omega) (ba m) (ba q) eB false
                  have hle := hd_le lr 0 0 0 false
                  dsimp only at f2 ⊢
                  generalize hd lr 0 0 0 false = r at *
                  obtain ⟨r1, r2, r3⟩ := r
                  dsimp only at hle
                  have hA : at_ + i + 1 ≤ p.length := by omega
                  clear go ih
                  generalize at_ + i + 1 = A at *
                  have w4 : Unit → wrap64 (((ba p).size : Int) - ((A : Nat) : Int)) = ((p.length - (A) : Nat) : Int) := fun _ => by rw [ba_size, M.w64 (by omega) (by omega)]; omega
                  have w5 : Unit → wrap64 (((A : Nat) : Int) + (r1 : Int)) = ((A + r1 : Nat) : Int) := fun _ => by rw [M.w64 (by omega) (by omega)]; omega
                  refine ⟨K1 + K2 + 1, fun k hk => ?_⟩
                  obtain ⟨k, rfl⟩ : ∃ j, k = j + 1 := ⟨k - 1, by omega⟩
                  show http_Read.l0 (k + 1) _ _ _ = _
                  rw [pre, Option.bind_some, if_neg (by omega)]
                  dsimp only
                  rw [if_pos rfl, if_pos (ba_list []), if_pos (by rw [hlp]; omega), if_pos (by rw [hlp]; omega), e0, f1 _ (by omega), Option.bind_some]
                  simp only [firstR]
                  rw [if_pos trivial, if_pos (by rw [hlp]; omega), List.map_cons, List.drop_succ_cons, List.drop_zero, f2 _ (by omega), Option.bind_some]
                  simp only [hdR]
                  have w4' := w4 ()
                  have w5' := w5 ()
                  clear pre w4 w5
                  simp only [w4', w5']
                  clear w4' w5'
                  by_cases h20 : r2 > 0
                  · have ef : fin2 p (A) m q (r1, r2, r3) = no r2 := by unfold fin2; rw [if_pos h20]
                    rw [ef, if_pos (by omega)]; rfl
                  · have ef : fin2 p (A) m q (r1, r2, r3) = if p.length - (A) < r1 then no 0 else (ba m, ba q, ba ((p.drop (A)).take r1), r3, ((A + r1 : Nat) : Int), 0) := by unfold fin2; rw [if_neg h20]
                    rw [ef, if_neg (by omega)]
                    by_cases hs : p.length - (A) < r1
                    · rw [if_pos (by omega), if_pos hs]; rfl
                    · rw [if_neg (by omega), if_neg hs, if_pos (by omega), if_pos (by omega), if_pos (by rw [ba_size]; omega), Int.toNat_natCast, Int.toNat_natCast, ba_ext, show A + r1 - (A) = r1 by omega]
            · rw [if_neg (fun x => hl x.1)]
              refine Ev.step (fun k => ?_) go
              rw [pre, Option.bind_some, if_neg (by omega)]
              dsimp only
              rw [if_pos rfl, if_neg (by rw [ba_list]; exact hl), if_pos (by rw [List.length_map]; omega), lines_snoc]
theorem hread_ev (p : Tx) (hp : p.length ≤ 140737488351232) : Ev (fun k => http_Read.f k (ba p)) (readV p) :=
  hread_loop p hp _ [] 0 (by omega) (by omega) (by omega) (by simp) (by simp)

end Go.Proofs.YtpigloohccpfiaaDoor.Pure
