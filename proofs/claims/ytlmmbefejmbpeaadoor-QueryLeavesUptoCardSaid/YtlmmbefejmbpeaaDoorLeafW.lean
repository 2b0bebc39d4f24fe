/- QueryLeaves: the law's own function, walked along its one way. -/
import Derived.Test.YtlmmbefejmbpeaaDoorPQueryLeavesx1
import Derived.Test.YtlmmbefejmbpeaaDoorPureQryV
import Derived.Test.YtlmmbefejmbpeaaDoorPureLeaf
namespace Go.Proofs.YtlmmbefejmbpeaaDoor.Pure
open Go.RowKit Go.Shelf Go.Proofs.Qp Go.Proofs.YtlmmbefejmbpeaaDoorW.PrintWords Go.Proofs.YtlmmbefejmbpeaaDoorW.PrintLast Go.Proofs.YtlmmbefejmbpeaaDoorW.PrintMore Go.Proofs.YtlmmbefejmbpeaaDoor.PQueryLeaves Go.Proofs.YtlmmbefejmbpeaaDoor Go.Proofs.YtlmmbefejmbpeaaDoor.PQry0 Go.Proofs.YtlmmbefejmbpeaaDoor.G Go.Proofs.YtlmmbefejmbpeaaDoor.M
set_option linter.unusedSimpArgs false
set_option linter.unusedVariables false
theorem awakeLeaves : fascinelaw06_awake.f = some true := by kernel_rfl
theorem dig_str : ∀ u : Fin 10, strOfNums [(wrap64 (48 + ((u.val : Nat) : Int))) % 256] = (⟨#[UInt8.ofNat (48 + u.val)]⟩ : ByteArray) := by decide +kernel
theorem ba_app (a b : List UInt8) : (⟨a.toArray⟩ : ByteArray) ++ ⟨b.toArray⟩ = ⟨(a ++ b).toArray⟩ := app_mk a b
theorem ba_size (a : List UInt8) : (⟨a.toArray⟩ : ByteArray).size = a.length := size_mk a
theorem dec_nat : ∀ u : Nat, u < 9223372036854775808 → ∃ K, ∀ k ≥ K, fascineref06_Dec.f k (u : Int) = some ⟨(Lib.decDigits u).toArray⟩ := by
  intro u
  induction u using Nat.strongRecOn with
  | ind u ih =>
    intro hu
    by_cases h : u < 10
    · refine ⟨1, fun k hk => ?_⟩
      obtain ⟨k, rfl⟩ : ∃ j, k = j + 1 := ⟨k - 1, by omega⟩
      rw [fascineref06_Dec.f, if_neg (by omega), if_pos (by omega), Lib.decDigits_one h]
      have := dig_str ⟨u, h⟩
      simp only at this
      rw [this]
    · obtain ⟨K1, h1⟩ := ih (u / 10) (by omega) (by omega)
      obtain ⟨K2, h2⟩ := ih (u % 10) (by omega) (by omega)
      refine ⟨K1 + K2 + 1, fun k hk => ?_⟩
      obtain ⟨k, rfl⟩ : ∃ j, k = j + 1 := ⟨k - 1, by omega⟩
      have e1 : wrap64 (Int.tdiv (u : Int) 10) = ((u / 10 : Nat) : Int) := by
        rw [Int.tdiv_eq_ediv_of_nonneg (by omega)]; unfold wrap64; omega
      have e2 : Int.tmod (u : Int) 10 = ((u % 10 : Nat) : Int) := by
        rw [Int.tmod_eq_emod_of_nonneg (by omega)]; omega
      have l1 : (Lib.decDigits (u / 10)).length ≤ 21 := by
        have := Lib.itoa_length_le ((u / 10 : Nat) : Int) (by omega) (by omega)
        rwa [Lib.itoa_nonneg] at this
      have l2 : (Lib.decDigits (u % 10)).length ≤ 21 := by
        have := Lib.itoa_length_le ((u % 10 : Nat) : Int) (by omega) (by omega)
        rwa [Lib.itoa_nonneg] at this
      rw [fascineref06_Dec.f, if_neg (by omega), if_neg (by omega), e1, e2, h1 k (by omega), Option.bind_some, h2 k (by omega), Option.bind_some, if_pos (by rw [ba_size, ba_size]; omega), ba_app]
      congr 2
      rw [Lib.decDigits_one (i := u % 10) (by omega)]
      conv => rhs; rw [Lib.decDigits, dif_neg h]
theorem dec_min : (⟨#[45, 57, 50, 50, 51, 51, 55, 50, 48, 51, 54, 56, 53, 52, 55, 55, 53, 56, 48, 56]⟩ : ByteArray) = ⟨(Lib.itoa (-9223372036854775808)).toArray⟩ := by
  have : Lib.itoa (-9223372036854775808) = [45, 57, 50, 50, 51, 51, 55, 50, 48, 51, 54, 56, 53, 52, 55, 55, 53, 56, 48, 56] := by
    unfold Lib.itoa
    simp [Lib.decDigits]
  rw [this]
theorem dec_ev (n : Int) (h0 : -9223372036854775808 ≤ n) (h1 : n ≤ 9223372036854775807) : ∃ K, ∀ k ≥ K, fascineref06_Dec.f k n = some ⟨(Lib.itoa n).toArray⟩ := by
  by_cases h : n < 0
  · by_cases hm : n = -9223372036854775808
    · refine ⟨1, fun k hk => ?_⟩
      obtain ⟨k, rfl⟩ : ∃ j, k = j + 1 := ⟨k - 1, by omega⟩
      rw [fascineref06_Dec.f, if_pos h, if_pos hm, hm, dec_min]
    · obtain ⟨u, hu⟩ : ∃ u : Nat, -n = (u : Int) := ⟨(-n).toNat, by omega⟩
      obtain ⟨K, hK⟩ := dec_nat u (by omega)
      refine ⟨K + 1, fun k hk => ?_⟩
      obtain ⟨k, rfl⟩ : ∃ j, k = j + 1 := ⟨k - 1, by omega⟩
      have l1 : (Lib.decDigits u).length ≤ 21 := by
        have := Lib.itoa_length_le (u : Int) (by omega) (by omega)
        rwa [Lib.itoa_nonneg] at this
      have e : wrap64 (-n) = (u : Int) := by rw [hu]; unfold wrap64; omega
      rw [fascineref06_Dec.f, if_pos h, if_neg hm, e, hK k (by omega), Option.bind_some, if_pos (by rw [ba_size]; omega)]
      have e2 : Lib.itoa n = 45 :: Lib.decDigits u := by
        have := Lib.itoa_neg u (by omega)
        rw [← this, ← hu]
        congr 1
        omega
      rw [e2]
      have := ba_app [45] (Lib.decDigits u)
      exact congrArg some this
  · obtain ⟨u, hu⟩ : ∃ u : Nat, n = (u : Int) := ⟨n.toNat, by omega⟩
    subst hu
    rw [Lib.itoa_nonneg]
    exact dec_nat u (by omega)
theorem rd37_nat {l : List Wd} {j : Nat} (h : j < l.length) : rd_T37 (l.map s37) (j : Int) = s37 l[j] := by
  unfold rd_T37
  rw [Int.toNat_natCast, List.getD_eq_getElem?_getD, List.getElem?_map, List.getElem?_eq_getElem h]
  rfl
/-- Parse, where what it answers has no kids -/
theorem parse_flat (x : ByteArray) (q : S25) (hx : parseS x = (q, 0, 0)) (hk : q.f3 = []) (w : World) (hT : G.tabs w) :
    Calls Tryd.prog 9 #[.string x] w fun e w' => (∃ A c, e = .returned (.tuple #[.agg #[.int .u8 q.f0, .string q.f1, .int .i64 q.f2, .slice A 0 c], .int .i64 0, .int .i64 0])) ∧ Below w.heap.size w w' := by
  refine (parse_any_ x w hT).mono ?_
  rintro e w' ⟨⟨cs, rfl, hm⟩, hb⟩
  refine ⟨?_, hb⟩
  rw [hx] at hm ⊢
  obtain ⟨v3, rfl, hR⟩ := k25_openM hm
  obtain ⟨A, c, rfl⟩ := Kd.R_slice hR
  refine ⟨A, c, ?_⟩
  rw [hk]
  rfl
theorem flat_below {w a b : World} (h : Below w.heap.size w a) (hb : Below a.heap.size a b) : Below w.heap.size w b := below_cat h h.size hb
/-- behind the second Parse of a round: what is kept, and the two queries' cells -/
structure CutSt (w wx : World) (L : List Wd) (A5 : Option Addr) (c5 nc : Nat) (A7 : Option Addr) (c7 : Nat) (t : ByteArray) (np : Nat) (A9 : Option Addr) (c9 : Nat) (p : ByteArray) : Prop where
  b : Below w.heap.size w wx
  r : Kd.R k37 37 wx w.heap.size (fun _ => True) (.slice A5 (L.map s37).length c5) (L.map s37)
  q : wx.heap[nc]? = some (.cells #[.int .u8 1, .string t, .int .i64 0, .slice A7 0 c7] 25)
  p : wx.heap[np]? = some (.cells #[.int .u8 2, .string p, .int .i64 0, .slice A9 0 c9] 25)
theorem cutB {w wx : World} {L : List Wd} {A5 : Option Addr} {c5 nc : Nat} {A7 : Option Addr} {c7 : Nat} {t : ByteArray} {A9 : Option Addr} {c9 m : Nat} {p : ByteArray} (hb : Below w.heap.size w wx) (hr : Kd.R k37 37 wx w.heap.size (fun k => k < m) (.slice A5 (L.map s37).length c5) (L.map s37)) (hq : wx.heap[nc]? = some (.cells #[.int .u8 1, .string t, .int .i64 0, .slice A7 0 c7] 25)) :
    CutSt w (wx.alloc (.cells #[.int .u8 2, .string p, .int .i64 0, .slice A9 0 c9] 25)) L A5 c5 nc A7 c7 t wx.heap.size A9 c9 p :=
  ⟨flat_below hb (below_up _), Kd.R_mono (Kd.R_alloc hr _) (fun _ _ => trivial), ((below_up (w := wx) _).block _ (blk_lt hq)).trans hq, M.blk_new _ _⟩
theorem cutA {w wx : World} {L : List Wd} {A5 : Option Addr} {c5 nc : Nat} {A7 : Option Addr} {c7 : Nat} {t : ByteArray} {A9 : Option Addr} {c9 m : Nat} {p : ByteArray} (hb : Below w.heap.size w wx) (hr : Kd.R k37 37 wx w.heap.size (fun k => k < m) (.slice A5 (L.map s37).length c5) (L.map s37)) (hq : wx.heap[nc]? = some (.cells #[.int .u8 1, .string t, .int .i64 0, .slice A7 0 c7] 25))
    (hm : w.heap.size ≤ m) (hnc : nc < m) {v0 v1 v2 v3 : Value} (hp : wx.heap[m]? = some (.cells #[v0, v1, v2, v3] 25)) :
    CutSt w ((((wx.setCell ⟨m, 0, none⟩ (.int .u8 2)).setCell ⟨m, 1, none⟩ (.string p)).setCell ⟨m, 2, none⟩ (.int .i64 0)).setCell ⟨m, 3, none⟩ (.slice A9 0 c9)) L A5 c5 nc A7 c7 t m A9 c9 p := by
  refine ⟨below_set (below_set (below_set (below_set hb hm _) hm _) hm _) hm _, ?_, ?_, blk_put (blk_put (blk_put (blk_put hp 0 _ rfl) 1 _ rfl) 2 _ rfl) 3 _ rfl⟩
  · exact Kd.R_mono (Kd.R_far (Kd.R_far (Kd.R_far (Kd.R_far hr (fun k hk e => by subst e; exact absurd hk (Nat.lt_irrefl _)) _) (fun k hk e => by subst e; exact absurd hk (Nat.lt_irrefl _)) _) (fun k hk e => by subst e; exact absurd hk (Nat.lt_irrefl _)) _) (fun k hk e => by subst e; exact absurd hk (Nat.lt_irrefl _)) _) (fun _ _ => trivial)
  · have hne : m ≠ nc := by omega
    exact blk_other (blk_other (blk_other (blk_other hq hne _) hne _) hne _) hne _
theorem CutSt.drew {w wx : World} {L : List Wd} {A5 : Option Addr} {c5 nc : Nat} {A7 : Option Addr} {c7 : Nat} {t : ByteArray} {np : Nat} {A9 : Option Addr} {c9 : Nat} {p : ByteArray} (h : CutSt w wx L A5 c5 nc A7 c7 t np A9 c9 p) : CutSt w wx.drew L A5 c5 nc A7 c7 t np A9 c9 p :=
  ⟨below_drew h.b, Kd.R_drew h.r, h.q, h.p⟩
set_option maxHeartbeats 4000000 in
set_option maxRecDepth 100000 in
theorem leaves_law (s : ByteArray) (n : Int) (hs : s.size ≤ 8388608) (h0 : -9223372036854775808 ≤ n) (h1 : n ≤ 9223372036854775807) (w : World) (hT : G.tabs w) :
    Calls Tryd.prog 5 #[.string s, .int .i64 n] w fun e w' => e = .returned (.bool true) ∧ Below w.heap.size w w' := by
  obtain ⟨K1, d1⟩ := dec_ev n h0 h1
  obtain ⟨K2, d2⟩ := refwords_ev s hs
  dsimp only at d2
  have D1 := Aside0.mk (d1 K1 (Nat.le_refl _))
  have D2 := Aside0.mk (d2 K2 (Nat.le_refl _))
  have a62 : (⟨#[62]⟩ : ByteArray) ++ (⟨(Lib.itoa n).toArray⟩ : ByteArray) = ⟨(62 :: Lib.itoa n).toArray⟩ := ba_app [62] (Lib.itoa n)
  have a60 : (⟨#[60]⟩ : ByteArray) ++ (⟨(Lib.itoa n).toArray⟩ : ByteArray) = ⟨(60 :: Lib.itoa n).toArray⟩ := ba_app [60] (Lib.itoa n)
  have P1 := Aside0.mk (parse_time 62 (.inl rfl) n h0 h1)
  have P2 := Aside0.mk (parse_time 60 (.inr rfl) n h0 h1)
  rw [← a62] at P1
  rw [← a60] at P2
  have HT := Aside0.mk hT
  have hc := wds_count s.data.toList
  have hcl : s.data.toList.length = s.size := by simp
  have HG := Aside0.mk (wds_good s.data.toList)
  generalize wds s.data.toList = L at *
  have hL : L.length ≤ 8388608 := by omega
  have hIs : ¬ 9223372036854775807 < 1 + (⟨(Lib.itoa n).toArray⟩ : ByteArray).size := by have := Lib.itoa_length_le n h0 h1; rw [ba_size]; omega
  clear d1 d2 a62 a60 hT hc hcl
  generalize hI : (⟨(Lib.itoa n).toArray⟩ : ByteArray) = I at *
  have hu25 := Tryd.underlying25
  have hs25 := Tryd.sizeOf25
  have hz25 := Tryd.zeroValue25
  go_enter Tryd.func5, Tryd.ntmps5
  go_upto_region 4 with (first
    | (go_at_call 8; refine (fascinelaw06_awake.calls true _ HT.out awakeLeaves).mono ?_; rintro e w1 ⟨rfl, hb⟩; have HB := Aside0.mk hb; clear hb)
    | (go_at_call 12; refine (fascineref06_Dec.calls K1 n _ _ D1.out).mono ?_; rintro e w2 ⟨rfl, hb⟩; replace HB := Aside0.mk (flat_below HB.out hb); clear hb)
    | (go_at_call 9; refine (parse_flat _ _ P1.out rfl _ (tabs_below HT.out HB.out)).mono ?_; rintro e w3 ⟨⟨A3, c3, rfl⟩, hb⟩; replace HB := Aside0.mk (flat_below HB.out hb); clear hb))
  replace HB := Aside0.mk (flat_below HB.out (below_up (.cells #[.int .u8 6, .string ⟨#[]⟩, .int .i64 n, .slice A3 0 c3] 25)))
  have HA := Aside0.mk (M.blk_new w3 (.cells #[.int .u8 6, .string ⟨#[]⟩, .int .i64 n, .slice A3 0 c3] 25))
  revert HB HA
  generalize (w3.alloc (.cells #[.int .u8 6, .string ⟨#[]⟩, .int .i64 n, .slice A3 0 c3] 25)) = W3
  generalize w3.heap.size = na
  intro HB HA
  go_upto_region 5 with (first
    | (go_at_call 12; refine (fascineref06_Dec.calls K1 n _ _ D1.out).mono ?_; rintro e w2 ⟨rfl, hb⟩; replace HA := Aside0.mk ((hb.block _ (blk_lt HA.out)).trans HA.out); replace HB := Aside0.mk (flat_below HB.out hb); clear hb)
    | (go_at_call 9; refine (parse_flat _ _ P2.out rfl _ (tabs_below HT.out HB.out)).mono ?_; rintro e w4 ⟨⟨A4, c4, rfl⟩, hb⟩; replace HA := Aside0.mk ((hb.block _ (blk_lt HA.out)).trans HA.out); replace HB := Aside0.mk (flat_below HB.out hb); clear hb))
  replace HB := Aside0.mk (flat_below HB.out (below_up (.cells #[.int .u8 7, .string ⟨#[]⟩, .int .i64 n, .slice A4 0 c4] 25)))
  replace HA := Aside0.mk (((below_up (w := w4) (.cells #[.int .u8 7, .string ⟨#[]⟩, .int .i64 n, .slice A4 0 c4] 25)).block _ (blk_lt HA.out)).trans HA.out)
  have HC := Aside0.mk (M.blk_new w4 (.cells #[.int .u8 7, .string ⟨#[]⟩, .int .i64 n, .slice A4 0 c4] 25))
  revert HB HA HC
  generalize (w4.alloc (.cells #[.int .u8 7, .string ⟨#[]⟩, .int .i64 n, .slice A4 0 c4] 25)) = W4
  generalize w4.heap.size = nb
  intro HB HA HC
  have HN4 := Aside0.mk HB.out.size
  have a0 := blk_cell HA.out 0
  have a2 := blk_cell HA.out 2
  have b0 := blk_cell HC.out 0
  have b2 := blk_cell HC.out 2
  go_upto_region 8 with (first
    | (go_at_call 13; refine (fascineref05_Words.calls K2 s _ _ (tabs_below HT.out HB.out) D2.out).mono ?_; rintro e w5 ⟨v5, rfl, hR, hb⟩; replace HB := Aside0.mk (flat_below HB.out hb); obtain ⟨A5, c5, rfl⟩ := Kd.R_slice hR; have HR := Aside0.mk hR; clear hb hR a0 a2 b0 b2))
  obtain ⟨i9, hi9⟩ : ∃ i9 : Nat, i9 = i9 := ⟨0, rfl⟩
  replace HR := Aside0.mk (Kd.R_lower HR.out (show w.heap.size ≤ W4.heap.size from HN4.out))
  go_upto_region 9 with (fail)
  go_loopw [12] (fun i wq => ∃ j : Nat, i = .int .i64 (j : Int) ∧ j ≤ L.length ∧ Aside0 (Below w.heap.size w wq) ∧ Aside0 (Kd.R k37 37 wq w.heap.size (fun _ => True) (.slice A5 (L.map s37).length c5) (L.map s37))) (fun i _ => L.length - (intOf i).toNat)
  case atStart => exact ⟨0, rfl, Nat.zero_le _, HB, HR⟩
  case round =>
    obtain ⟨j, rfl, hj, HB, HR⟩ := hrel
    have hlen : (L.map s37).length = L.length := by simp
    have hj0 : (0 : Int) ≤ (j : Int) := by omega
    by_cases hlt : j < L.length
    · have h0L : 0 < L.length := by omega
      have gj := HG.out L[j] (List.getElem_mem hlt)
      have g0 := HG.out L[0] (List.getElem_mem h0L)
      have PW := Aside0.mk (parse_word gj)
      have PP := Aside0.mk (parse_pair g0 gj)
      have e1 : rd_T37 (L.map s37) (j : Int) = s37 L[j] := rd37_nat hlt
      have e0 : rd_T37 (L.map s37) 0 = s37 L[0] := rd37_nat (j := 0) h0L
      obtain ⟨ad, rfl, x0, _, _⟩ := at_T37 (Kd.R_reads' HR.out).2.2 (j : Int) hj0 (by simp; omega)
      obtain ⟨ad', e', y0, _, _⟩ := at_T37 (Kd.R_reads' HR.out).2.2 0 (by omega) (by simp; omega)
      cases e'
      rw [e1, Int.toNat_natCast] at x0
      replace x0 : wr.cell? (ad.add (j * 3)) = some (.string ⟨L[j].text.toArray⟩) := x0
      rw [e0, show (0 : Int).toNat * 3 = 0 from rfl, Addr.add_zero'] at y0
      replace y0 : wr.cell? ad = some (.string ⟨L[0].text.toArray⟩) := y0
      have hd : decide ((j : Int) < (L.length : Int)) = true := decide_eq_true (by omega)
      have hd2 : decide (j < L.length) = true := decide_eq_true hlt
      go_upto_region 11 with (fail)
      go_upto_region 12 with (first
        | (go_at_call 9; refine (parse_flat _ _ PW.out rfl _ (tabs_below HT.out HB.out)).mono ?_; rintro e w7 ⟨⟨A7, c7, rfl⟩, hb⟩; replace HR := Aside0.mk (Kd.R_below HR.out hb); replace HB := Aside0.mk (flat_below HB.out hb); clear hb x0 y0))
      replace HR := Aside0.mk (Kd.R_alloc HR.out (.cells #[.int .u8 1, .string ⟨L[j].text.toArray⟩, .int .i64 0, .slice A7 0 c7] 25))
      replace HB := Aside0.mk (flat_below HB.out (below_up (.cells #[.int .u8 1, .string ⟨L[j].text.toArray⟩, .int .i64 0, .slice A7 0 c7] 25)))
      have HC7 := Aside0.mk (M.blk_new w7 (.cells #[.int .u8 1, .string ⟨L[j].text.toArray⟩, .int .i64 0, .slice A7 0 c7] 25))
      revert HR HB HC7
      generalize (w7.alloc (.cells #[.int .u8 1, .string ⟨L[j].text.toArray⟩, .int .i64 0, .slice A7 0 c7] 25)) = W7
      generalize w7.heap.size = nc
      intro HR HB HC7
      have SL : Aside0 (∀ {W' : World}, Kd.R k37 37 W' w.heap.size (fun _ => True) (.slice (some ad) (L.map s37).length c5) (L.map s37) → W'.cell? (ad.add (j * 3)) = some (.string ⟨L[j].text.toArray⟩) ∧ W'.cell? ad = some (.string ⟨L[0].text.toArray⟩)) := ⟨by
        intro W' h
        obtain ⟨ad1, e1', x0, _, _⟩ := at_T37 (Kd.R_reads' h).2.2 (j : Int) hj0 (by simp; omega)
        cases e1'
        obtain ⟨ad2, e2', y0, _, _⟩ := at_T37 (Kd.R_reads' h).2.2 0 (by omega) (by simp; omega)
        cases e2'
        rw [e1, Int.toNat_natCast] at x0
        rw [e0, show (0 : Int).toNat * 3 = 0 from rfl, Addr.add_zero'] at y0
        exact ⟨x0, y0⟩⟩
      obtain ⟨x0, y0⟩ := SL.out HR.out
      have z0 := g0.2.2.2
      have zj := gj.2.2.2
      have zs0 : (⟨L[0].text.toArray⟩ : ByteArray).size = L[0].text.length := ba_size _
      have zsj : (⟨L[j].text.toArray⟩ : ByteArray).size = L[j].text.length := ba_size _
      have hcat : ((⟨L[0].text.toArray⟩ : ByteArray) ++ (⟨#[61]⟩ : ByteArray)) ++ (⟨L[j].text.toArray⟩ : ByteArray) = ⟨(L[0].text ++ 61 :: L[j].text).toArray⟩ := by
        rw [show (⟨#[61]⟩ : ByteArray) = ⟨([61] : List UInt8).toArray⟩ from rfl, ba_app, ba_app]
        simp
      rw [← hcat] at PP
      have hx1 : ¬ 9223372036854775807 < (⟨L[0].text.toArray⟩ : ByteArray).size + 1 := by omega
      have hx2 : ¬ 9223372036854775807 < (⟨L[0].text.toArray⟩ : ByteArray).size + 1 + (⟨L[j].text.toArray⟩ : ByteArray).size := by omega
      have hx3 : (9223372036854775807 < (⟨L[0].text.toArray⟩ : ByteArray).size + 1) = False := eq_false hx1
      have hx4 : (9223372036854775807 < (⟨L[0].text.toArray⟩ : ByteArray).size + 1 + (⟨L[j].text.toArray⟩ : ByteArray).size) = False := eq_false hx2
      clear hcat hx1 hx2
      have x0a : (W7.alloc (.cells #[.int .u8 0, .string ⟨#[]⟩, .int .i64 0, .slice none 0 0] 25)).cell? (ad.add (j * 3)) = some (.string ⟨L[j].text.toArray⟩) := (SL.out (Kd.R_alloc HR.out _)).1
      have y0a : (W7.alloc (.cells #[.int .u8 0, .string ⟨#[]⟩, .int .i64 0, .slice none 0 0] 25)).cell? ad = some (.string ⟨L[0].text.toArray⟩) := (SL.out (Kd.R_alloc HR.out _)).2
      have HMW := Aside0.mk HB.out.size
      have HNC := Aside0.mk (blk_lt HC7.out)
      replace HR := Aside0.mk (Kd.R_mono (ok' := fun k => k < W7.heap.size) (Kd.R_bound HR.out) (fun k hk => hk.2.2.1))
      go_cut [16, 17, 18] from 67 to 124 (fun s16 s17 s18 wx => ∃ (np : Nat) (A9 : Option Addr) (c9 : Nat), s16 = .pointer (some ⟨np, 0, none⟩) ∧ s17 = .int .i64 0 ∧ s18 = .int .i64 0 ∧ Aside0 (CutSt w wx L (some ad) c5 nc A7 c7 ⟨L[j].text.toArray⟩ np A9 c9 (((⟨L[0].text.toArray⟩ : ByteArray) ++ (⟨#[61]⟩ : ByteArray)) ++ (⟨L[j].text.toArray⟩ : ByteArray))))
      case first =>
        go_region_with (first
          | (go_at_call 9; refine (parse_flat _ _ PP.out rfl _ (tabs_below HT.out (below_drew HB.out))).mono ?_; rintro e w9 ⟨⟨A9, c9, rfl⟩, hb⟩; replace HR := Aside0.mk (Kd.R_below (Kd.R_drew HR.out) hb); replace HB := Aside0.mk (flat_below (below_drew HB.out) hb); replace HC7 := Aside0.mk ((hb.block _ (blk_lt HC7.out)).trans HC7.out); clear hb)
          | (go_at_call 9; refine (parse_flat _ _ PP.out rfl _ (tabs_below HT.out (below_drew (flat_below HB.out (below_up _))))).mono ?_; rintro e w9 ⟨⟨A9, c9, rfl⟩, hb⟩; have HC9 := Aside0.mk ((hb.block _ (by simp)).trans (M.blk_new W7 (.cells #[.int .u8 0, .string ⟨#[]⟩, .int .i64 0, .slice none 0 0] 25))); have q0 := blk_cell HC9.out 0; have q1 := blk_cell HC9.out 1; have q2 := blk_cell HC9.out 2; have q3 := blk_cell HC9.out 3; have f0 := blk_frozen HC9.out 0; have f1 := blk_frozen HC9.out 1; have f2 := blk_frozen HC9.out 2; have f3 := blk_frozen HC9.out 3; replace HR := Aside0.mk (Kd.R_below (Kd.R_drew (Kd.R_alloc HR.out _)) hb); replace HC7 := Aside0.mk ((hb.block _ (Nat.lt_of_lt_of_le (blk_lt HC7.out) (by simp))).trans (((below_up (w := W7) (.cells #[.int .u8 0, .string ⟨#[]⟩, .int .i64 0, .slice none 0 0] 25)).block _ (blk_lt HC7.out)).trans HC7.out)); replace HB := Aside0.mk (flat_below (below_drew (flat_below HB.out (below_up _))) hb); clear hb))
        all_goals (go_wp2_with fail; go_meet)
        all_goals first
          | exact ⟨_, _, _, rfl, rfl, rfl, ⟨cutA HB.out HR.out HC7.out HMW.out HNC.out HC9.out⟩⟩
          | exact ⟨_, _, _, rfl, rfl, rfl, ⟨(cutA HB.out HR.out HC7.out HMW.out HNC.out HC9.out).drew⟩⟩
          | exact ⟨_, _, _, rfl, rfl, rfl, ⟨cutB HB.out HR.out HC7.out⟩⟩
          | exact ⟨_, _, _, rfl, rfl, rfl, ⟨(cutB HB.out HR.out HC7.out).drew⟩⟩
      case rest =>
      obtain ⟨np, A9, c9, rfl, rfl, rfl, HX⟩ := hcut
      obtain ⟨w8, hw8⟩ : ∃ w8, w8 = wc := ⟨_, rfl⟩
      subst hw8
      clear x0a y0a hx3 hx4 HR HB HC7
      obtain ⟨x0, y0⟩ := SL.out HX.out.r
      have q0 := blk_cell HX.out.q 0
      have q1 := blk_cell HX.out.q 1
      have p0 := blk_cell HX.out.p 0
      generalize (({ data := L[0].text.toArray } : ByteArray) ++ { data := #[61] } ++ { data := L[j].text.toArray }) = pp at *
      go_upto_region 13 with (fail)
      go_quiet (fail)
      go_wp2
      go_roundw
      case rel => exact ⟨j + 1, by go_num, by omega, ⟨⟨HX.out.b.os, HX.out.b.tape, HX.out.b.output, HX.out.b.size, HX.out.b.block⟩⟩, ⟨HX.out.r⟩⟩
      case measure => simp [intOf]; omega
    · have hd : decide ((j : Int) < (L.length : Int)) = false := decide_eq_false (by omega)
      have hd2 : decide (j < L.length) = false := decide_eq_false (by omega)
      go_wp2
      go_ret
      exact ⟨rfl, HB.out⟩
end Go.Proofs.YtlmmbefejmbpeaaDoor.Pure
