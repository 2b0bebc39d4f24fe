/- On the printed functions of HttpReads: what each of them answers, in plain words. -/
import Derived.Test.YtpigloohccpfiaaDoorPHttpReadsx
import Derived.Test.YtpigloohccpfiaaDoorPureHttpA
namespace Go.Proofs.YtpigloohccpfiaaDoor.Pure
open Go.RowKit Go.Proofs.YtpigloohccpfiaaDoor.G Go.Proofs.YtpigloohccpfiaaDoor.PHttpReads Go.Proofs.YtpigloohccpfiaaDoorW.PrintWords Go.Proofs.YtpigloohccpfiaaDoorW.PrintLast Go.Proofs.YtpigloohccpfiaaDoorW.PrintMore Go.Proofs.YtpigloohccpfiaaDoor.M
set_option linter.unusedVariables false
set_option linter.unusedSimpArgs false

/-! ### the reader of the law -/
theorem hd_le : ∀ (l : List Tx) (n h c : Nat) (cl : Bool), (hd l n h c cl).1 ≤ 8192
  | [], n, h, c, cl => by
    unfold hd
    split
    · split
      · simp
      · simp only; omega
    · simp
  | s :: r, n, h, c, cl => by
    rw [hd_cons]
    cases lineV s with
    | none => simp
    | some a =>
      obtain ⟨nm, v⟩ := a
      dsimp only
      unfold lineR
      split
      · exact hd_le r _ _ _ _
      · split
        · cases lenV v with
          | none => simp
          | some m => exact hd_le r _ _ _ _
        · split
          · simp
          · split
            · exact hd_le r _ _ _ _
            · exact hd_le r _ _ _ _
theorem crV_at (p : Tx) (at_ i : Nat) (h : at_ + i < p.length) : crV ((p.drop at_).take i) = if i = 0 ∨ bt (ba p) ((at_ + i - 1 : Nat) : Int) ≠ 13 then none else some ((p.drop at_).take (i - 1)) := by
  cases i with
  | zero => rw [if_pos (Or.inl rfl), List.take_zero]; rfl
  | succ i =>
    have hl : i < (p.drop at_).length := by rw [List.length_drop]; omega
    have hb := bt_ba p (at_ + i) (by omega)
    rw [show at_ + (i + 1) - 1 = at_ + i by omega, hb]
    have e : (p.drop at_).take (i + 1) = (p.drop at_).take i ++ [p[at_ + i]] := by
      rw [List.take_succ_eq_append_getElem hl, List.getElem_drop]
    rw [e]
    unfold crV
    have e2 : ((p.drop at_).take i ++ [p[at_ + i]]).getLast? = some p[at_ + i] := by simp
    have e3 : ((p.drop at_).take i ++ [p[at_ + i]]).dropLast = (p.drop at_).take i := by simp
    rw [e2, e3, Nat.add_sub_cancel]
    by_cases h13 : p[at_ + i] = 13
    · rw [if_pos (by rw [h13]), if_neg]
      rintro (h | h)
      · exact absurd h (by omega)
      · exact h (by rw [h13]; rfl)
    · rw [if_neg (by simpa using h13), if_pos]
      exact Or.inr (fun e => h13 (UInt8.toNat_inj.1 (by show (p[at_ + i]).toNat = 13; omega)))
theorem rchars (p : ByteArray) (L : List ByteArray) (at_ n h c i w : Int) (v : Tx) (m q e : ByteArray) (cl : Bool) (hv : v.length ≤ 2048) (r : Res)
    (h1 : v.all charOk = true → Ev (fun k => fascineref12_Read.l2 k p L at_ n h c i w (ba v) (v.length : Int) m q e cl) r)
    (h0 : v.all charOk = false → r = no 400) : ∀ (d j : Nat), v.length - j = d → j ≤ v.length → (v.take j).all charOk = true → Ev (fun k => fascineref12_Read.l2 k p L at_ n h c i w (ba v) (j : Int) m q e cl) r := by
  intro d
  induction d with
  | zero =>
    intro j hd hj hp
    obtain rfl : j = v.length := by omega
    rw [List.take_length] at hp
    exact h1 hp
  | succ d ih =>
    intro j hd hj hp
    have hlt : j < v.length := by omega
    have e64 := up1 (i := j) (by omega)
    have hb := charOk_iff v[j]
    by_cases ht : charOk v[j] = true
    · have h2 := ih (j + 1) (by omega) (by omega) (by rw [List.take_succ_eq_append_getElem hlt, List.all_append, hp]; simp [ht])
      refine Ev.step (fun k => ?_) h2
      have := hb.1 ht
      simp only [fascineref12_Read.l2]
      rw [if_pos (by rw [ba_size]; omega), if_pos (by omega), bt_ba v j hlt, e64]
      by_cases h32 : ((v[j].toNat : Nat) : Int) < 32
      · rw [if_pos h32, if_pos (by omega), if_neg (by omega)]
      · rw [if_neg h32, if_neg (by omega)]
    · have hf : v.all charOk = false := by
        apply Bool.eq_false_iff.2
        intro e
        exact ht (List.all_eq_true.1 e _ (List.getElem_mem hlt))
      rw [h0 hf]
      refine ev_some fun k => ?_
      have := mt hb.2 ht
      simp only [fascineref12_Read.l2]
      rw [if_pos (by rw [ba_size]; omega), if_pos (by omega), bt_ba v j hlt, e64]
      by_cases h32 : ((v[j].toNat : Nat) : Int) < 32
      · rw [if_pos h32]
        by_cases h9 : ((v[j].toNat : Nat) : Int) = 9
        · omega
        · rw [if_neg h9]; rfl
      · rw [if_neg h32, if_pos (by omega)]; rfl
theorem rj3_no (k : Nat) (p : ByteArray) (L : List ByteArray) (a b c d e f : Int) (m q z : ByteArray) (cl : Bool) : fascineref12_Read.j3 (k + 1) p L a b c d e f true m q z cl = some (no 400) := by
  simp only [fascineref12_Read.j3]; rw [if_pos trivial]; rfl
theorem fin2_no (p : Tx) (at_ : Nat) (m q : Tx) (s : Nat) (hs : 0 < s) (n : Nat) (cl : Bool) : fin2 p at_ m q (n, s, cl) = no s := by
  unfold fin2; rw [if_pos hs]
theorem rj5_ev (p : Tx) (hp : p.length ≤ 140737488351232) (at_ n : Nat) (hat : at_ ≤ p.length) (m q : Tx) (e : ByteArray) (cl : Bool) (k : Nat) : fascineref12_Read.j5 (k + 1) (ba p) (at_ : Int) (n : Int) false (ba m) (ba q) e cl = some (fin2 p at_ m q (if n > 8192 then (0, 413, cl) else (n, 0, cl))) := by
  simp only [fascineref12_Read.j5]
  rw [if_neg (by simp)]
  by_cases hb : n > 8192
  · rw [if_pos (show (n : Int) > 8192 by omega), if_pos hb, fin2_no _ _ _ _ _ (by omega)]; rfl
  · have hw : wrap64 (((ba p).size : Int) - (at_ : Int)) = ((p.length - at_ : Nat) : Int) := by rw [ba_size, M.w64 (by omega) (by omega)]; omega
    have hw2 : wrap64 ((at_ : Int) + (n : Int)) = ((at_ + n : Nat) : Int) := by rw [M.w64 (by omega) (by omega)]; omega
    rw [if_neg (show ¬ (n : Int) > 8192 by omega), if_neg hb, hw, hw2]
    have ef : fin2 p at_ m q (n, 0, cl) = if p.length - at_ < n then no 0 else (ba m, ba q, ba ((p.drop at_).take n), cl, ((at_ + n : Nat) : Int), 0) := by unfold fin2; rw [if_neg (by simp)]
    rw [ef]
    by_cases hs : p.length - at_ < n
    · rw [if_pos (by omega), if_pos hs]; rfl
    · rw [if_neg (by omega), if_neg hs, if_pos (by omega), if_pos (by omega), if_pos (by rw [ba_size]; omega), Int.toNat_natCast, Int.toNat_natCast, ba_ext, show at_ + n - at_ = n by omega]
theorem rlines_loop (p : Tx) (hp : p.length ≤ 140737488351232) (ls : List Tx) (hls : ∀ s ∈ ls, s.length ≤ 2048) (hn : ls.length ≤ 40) (at_ : Nat) (hat : at_ ≤ p.length) (m q : Tx) (e : ByteArray) : ∀ (d i n h c : Nat) (cl : Bool), ls.length - i = d → i ≤ ls.length → h ≤ i → c ≤ i → Ev (fun k => fascineref12_Read.l1 k (ba p) (ls.map ba) (at_ : Int) (n : Int) (h : Int) (c : Int) (i : Int) (ba m) (ba q) e cl) (fin2 p at_ m q (hd (ls.drop i) n h c cl)) := by
  intro d
  induction d with
  | zero =>
    intro i n h c cl hd' hi hh hc
    rw [List.drop_of_length_le (by omega)]
    refine ⟨2, fun k hk => ?_⟩
    obtain ⟨k, rfl⟩ : ∃ j, k = j + 2 := ⟨k - 2, by omega⟩
    have hno : fascineref12_Read.j5 (k + 1) (ba p) (at_ : Int) (n : Int) true (ba m) (ba q) e cl = some (no 400) := by
      simp only [fascineref12_Read.j5]; rw [if_pos trivial]; rfl
    simp only [fascineref12_Read.l1, hd]
    rw [if_neg (by rw [List.length_map]; omega)]
    by_cases h1 : h = 1
    · subst h1
      rw [if_pos (by omega)]
      by_cases hc1 : c ≤ 1
      · rw [show decide ((c : Int) > 1) = false by simp; omega, rj5_ev p hp at_ n hat, if_pos (show (1 : Nat) = 1 ∧ c ≤ 1 from ⟨rfl, hc1⟩)]
      · rw [show decide ((c : Int) > 1) = true by simp; omega, hno, if_neg (fun x => hc1 x.2), fin2_no _ _ _ _ _ (by omega)]
    · rw [if_neg (by omega), hno, if_neg (fun x => h1 x.1), fin2_no _ _ _ _ _ (by omega)]
  | succ d ih =>
    intro i n h c cl hd' hi hh hc
    have hlt : i < ls.length := by omega
    have e64 : Unit → wrap64 ((i : Int) + 1) = ((i + 1 : Nat) : Int) := fun _ => up1 (by omega)
    have eh : Unit → wrap64 ((h : Int) + 1) = ((h + 1 : Nat) : Int) := fun _ => up1 (by omega)
    have ec : Unit → wrap64 ((c : Int) + 1) = ((c + 1 : Nat) : Int) := fun _ => up1 (by omega)
    rw [List.drop_eq_getElem_cons hlt, hd_cons]
    have hs := hls _ (List.getElem_mem hlt)
    have e1 := rdOf_at ls i hlt
    generalize ls[i] = s at hs e1 ⊢
    obtain ⟨K1, h1⟩ := find_ev s (by omega) 58 58 rfl
    have hlen : ((ls.map ba).length : Int) = (ls.length : Int) := by rw [List.length_map]
    dsimp only at h1
    have ih1 : ∀ (n h c : Nat) (cl : Bool), h ≤ i + 1 → c ≤ i + 1 → Ev (fun k => fascineref12_Read.l1 k (ba p) (ls.map ba) (at_ : Int) (n : Int) (h : Int) (c : Int) ((i + 1 : Nat) : Int) (ba m) (ba q) e cl) (fin2 p at_ m q (hd (ls.drop (i + 1)) n h c cl)) := fun n h c cl a b => ih (i + 1) n h c cl (by omega) (by omega) a b
    have i0 : (0 : Int) ≤ (i : Int) := by omega
    have i1 : (i : Int) < ((ls.map ba).length : Int) := by omega
    have hh1 : h ≤ i + 1 := by omega
    have hc1 : c ≤ i + 1 := by omega
    have hh2 : h + 1 ≤ i + 1 := by omega
    have hc2 : c + 1 ≤ i + 1 := by omega
    clear ih hd' hi hn hp hat hlt hlen hls hh hc
    unfold lineV
    cases hk : ix s 58 with
    | none =>
      rw [hk] at h1
      refine ⟨K1 + 2, fun k hk => ?_⟩
      obtain ⟨k, rfl⟩ : ∃ j, k = j + 2 := ⟨k - 2, by omega⟩
      simp only [fascineref12_Read.l1]
      rw [if_pos i1, if_pos i0, e1, h1 _ (by omega), Option.bind_some, if_pos (by simp [ixI]), rj3_no]
      show some (no 400) = some (fin2 p at_ m q (0, 400, cl))
      rw [fin2_no _ _ _ _ _ (by omega)]
    | some w =>
      rw [hk] at h1
      simp only [ixI] at h1
      have hwl := ix_lt _ _ _ hk
      have ew : Unit → wrap64 ((w : Int) + 1) = ((w + 1 : Nat) : Int) := fun _ => up1 (Nat.le_trans (Nat.le_of_lt hwl) (Nat.le_trans hs (by decide)))
      have hnl : (s.take w).length ≤ 2048 := by rw [List.length_take]; exact Nat.le_trans (Nat.min_le_right _ _) hs
      have hdl : (s.drop (w + 1)).length ≤ 2048 := by rw [List.length_drop]; exact Nat.le_trans (Nat.sub_le _ _) hs
      have hvl : (trimV (s.drop (w + 1))).length ≤ 2048 := Nat.le_trans (trim_le _) hdl
      obtain ⟨K3, h3⟩ := rtrim_ev (s.drop (w + 1)) (Nat.le_trans hdl (by decide))
      obtain ⟨K2, h2⟩ := name_ev (s.take w) (Nat.le_trans hnl (by decide))
      have hlow := low_eq (s.take w) (Nat.le_trans hnl (by decide))
      have hlv := low_eq (trimV (s.drop (w + 1))) (Nat.le_trans hvl (by decide))
      have ex : (ba s).extract 0 ((w : Nat) : Int).toNat = ba (s.take w) := by rw [Int.toNat_natCast, ba_to]
      have w0 : (0 : Int) ≤ (w : Int) := Int.natCast_nonneg _
      have w0' : ¬ (w : Int) < 0 := Int.not_lt.2 w0
      have w1 : (w : Int) ≤ ((ba s).size : Int) := by rw [ba_size]; exact Int.ofNat_le.2 (Nat.le_of_lt hwl)
      have w2 : (0 : Int) ≤ ((w + 1 : Nat) : Int) := Int.natCast_nonneg _
      have w3 : ((w + 1 : Nat) : Int) ≤ ((ba s).size : Int) := by rw [ba_size]; exact Int.ofNat_le.2 hwl
      have v0 : ¬ ((trimV (s.drop (w + 1))).length : Int) < ((ba (trimV (s.drop (w + 1)))).size : Int) := by rw [ba_size]; exact Int.lt_irrefl _
      clear hs hwl hdl hnl
      dsimp only at h2 h3 ⊢
      generalize s.take w = nm at *
      generalize trimV (s.drop (w + 1)) = v at *
      by_cases ht : tokB nm = true
      · have key : ∀ R : Res, (v.all charOk = true → R = fin2 p at_ m q (lineR s (ls.drop (i + 1)) (nm.map tb) v n h c cl)) → (v.all charOk = false → R = no 400) → Ev (fun k => fascineref12_Read.l2 k (ba p) (ls.map ba) (at_ : Int) (n : Int) (h : Int) (c : Int) (i : Int) (w : Int) (ba v) 0 (ba m) (ba q) e cl) R := by
          intro R hR1 hR0
          refine rchars _ _ _ _ _ _ _ _ v _ _ _ _ hvl R (fun ha => ?_) hR0 _ 0 rfl (by omega) rfl
          rw [hR1 ha]
          unfold lineR
          have pre : ∀ k, fascineref12_Read.l2 (k + 1) (ba p) (ls.map ba) (at_ : Int) (n : Int) (h : Int) (c : Int) (i : Int) (w : Int) (ba v) (v.length : Int) (ba m) (ba q) e cl = (if nm.map tb = hostT then (fascineref12_Read.l1 k (ba p) (ls.map ba) at_ n (h + 1 : Nat) c (i + 1 : Nat) (ba m) (ba q) e cl) else (if nm.map tb = clenT then ((fascineref12_length.f k (ba v)).bind fun t192 => (if t192 < 0 then (some (eB, eB, eB, false, 0, 400)) else (fascineref12_Read.l1 k (ba p) (ls.map ba) at_ t192 h (c + 1 : Nat) (i + 1 : Nat) (ba m) (ba q) e cl))) else (if nm.map tb = tencT then (some (eB, eB, eB, false, 0, 400)) else (if nm.map tb = connT then (if v.map tb = closeT then (fascineref12_Read.l1 k (ba p) (ls.map ba) at_ n h c (i + 1 : Nat) (ba m) (ba q) e true) else (fascineref12_Read.l1 k (ba p) (ls.map ba) at_ n h c (i + 1 : Nat) (ba m) (ba q) e cl)) else (fascineref12_Read.l1 k (ba p) (ls.map ba) at_ n h c (i + 1 : Nat) (ba m) (ba q) e cl))))) := by
            intro k
            simp only [fascineref12_Read.l2]
            rw [if_neg v0, if_pos i0, if_pos i1, if_pos w0, e1, if_pos w1, ex, hlow, Option.bind_some, ba_list, hlv, Option.bind_some, ba_list, e64 (), eh (), ec ()]
          by_cases g1 : nm.map tb = hostT
          · rw [if_pos g1]
            refine Ev.step (fun k => ?_) (ih1 n (h + 1) c cl hh2 hc1)
            rw [pre, if_pos g1]
          · rw [if_neg g1]
            by_cases g2 : nm.map tb = clenT
            · rw [if_pos g2]
              obtain ⟨K4, h4⟩ := rlen_ev v
              dsimp only at h4
              cases hv : lenV v with
              | some a =>
                rw [hv] at h4
                simp only [lenR] at h4
                obtain ⟨K5, h5⟩ := ih1 a h (c + 1) cl hh1 hc2
                dsimp only at h5 ⊢
                refine ⟨K4 + K5 + 1, fun k hk => ?_⟩
                obtain ⟨k, rfl⟩ : ∃ j, k = j + 1 := ⟨k - 1, by omega⟩
                dsimp only
                rw [pre, if_neg g1, if_pos g2, h4 _ (by omega), Option.bind_some, if_neg (by omega)]
                exact h5 k (by omega)
              | none =>
                rw [hv] at h4
                simp only [lenR] at h4
                refine ⟨K4 + 1, fun k hk => ?_⟩
                obtain ⟨k, rfl⟩ : ∃ j, k = j + 1 := ⟨k - 1, by omega⟩
                dsimp only
                rw [pre, if_neg g1, if_pos g2, h4 _ (by omega), Option.bind_some, if_pos (by omega)]
                show some (no 400) = some (fin2 p at_ m q (0, 400, cl))
                rw [fin2_no _ _ _ _ _ (by omega)]
            · rw [if_neg g2]
              by_cases g3 : nm.map tb = tencT
              · rw [if_pos g3, fin2_no _ _ _ _ _ (by omega)]
                exact ev_some fun k => by rw [pre, if_neg g1, if_neg g2, if_pos g3]; rfl
              · rw [if_neg g3]
                by_cases g4 : nm.map tb = connT
                · rw [if_pos g4]
                  by_cases g5 : v.map tb = closeT
                  · rw [decide_eq_true g5, Bool.or_true]
                    refine Ev.step (fun k => ?_) (ih1 n h c true hh1 hc1)
                    rw [pre, if_neg g1, if_neg g2, if_neg g3, if_pos g4, if_pos g5]
                  · rw [decide_eq_false g5, Bool.or_false]
                    refine Ev.step (fun k => ?_) (ih1 n h c cl hh1 hc1)
                    rw [pre, if_neg g1, if_neg g2, if_neg g3, if_pos g4, if_neg g5]
                · rw [if_neg g4]
                  refine Ev.step (fun k => ?_) (ih1 n h c cl hh1 hc1)
                  rw [pre, if_neg g1, if_neg g2, if_neg g3, if_neg g4]
        have fin : ∀ R : Res, (v.all charOk = true → R = fin2 p at_ m q (lineR s (ls.drop (i + 1)) (nm.map tb) v n h c cl)) → (v.all charOk = false → R = no 400) → Ev (fun k => fascineref12_Read.l1 k (ba p) (ls.map ba) (at_ : Int) (n : Int) (h : Int) (c : Int) (i : Int) (ba m) (ba q) e cl) R := by
          intro R hR1 hR0
          obtain ⟨K4, h4⟩ := key R hR1 hR0
          dsimp only at h4
          refine ⟨K1 + K2 + K3 + K4 + 2, fun k hk => ?_⟩
          obtain ⟨k, rfl⟩ : ∃ j, k = j + 2 := ⟨k - 2, by omega⟩
          simp only [fascineref12_Read.l1]
          rw [if_pos i1, if_pos i0, e1, h1 _ (by omega), Option.bind_some, if_neg w0', if_pos w0, if_pos w1, ex, h2 _ (by omega), Option.bind_some, ht]
          simp only [fascineref12_Read.j3]
          rw [if_neg (by simp), if_pos i0, if_pos i1, ew (), if_pos w2, e1, if_pos w3, Int.toNat_natCast, ba_from, h3 _ (by omega), Option.bind_some]
          exact h4 k (by omega)
        by_cases ha : v.all charOk = true
        · rw [if_pos ⟨ht, ha⟩]
          exact fin _ (fun _ => rfl) (fun h => by rw [ha] at h; cases h)
        · rw [if_neg (fun x => ha x.2)]
          exact fin _ (fun h => absurd h ha) (fun _ => fin2_no _ _ _ _ _ (by omega) _ _)
      · rw [if_neg (fun x => ht x.1)]
        refine ⟨K1 + K2 + 2, fun k hk => ?_⟩
        obtain ⟨k, rfl⟩ : ∃ j, k = j + 2 := ⟨k - 2, by omega⟩
        simp only [fascineref12_Read.l1]
        rw [if_pos i1, if_pos i0, e1, h1 _ (by omega), Option.bind_some, if_neg w0', if_pos w0, if_pos w1, ex, h2 _ (by omega), Option.bind_some, Bool.eq_false_iff.2 ht]
        simp only [Bool.not_false]
        rw [rj3_no, fin2_no _ _ _ _ _ (by omega)]

end Go.Proofs.YtpigloohccpfiaaDoor.Pure
