/- On the printed functions of HttpReads: what each of them answers, in plain words. -/
import Derived.Test.YtpigloohccpfiaaDoorPHttpReadsx
import Derived.Test.YtpigloohccpfiaaDoorPureHttpC
namespace Go.Proofs.YtpigloohccpfiaaDoor.Pure
open Go.RowKit Go.Proofs.YtpigloohccpfiaaDoor.G Go.Proofs.YtpigloohccpfiaaDoor.PHttpReads Go.Proofs.YtpigloohccpfiaaDoorW.PrintWords Go.Proofs.YtpigloohccpfiaaDoorW.PrintLast Go.Proofs.YtpigloohccpfiaaDoorW.PrintMore Go.Proofs.YtpigloohccpfiaaDoor.M
set_option linter.unusedVariables false
set_option linter.unusedSimpArgs false

theorem rread_loop (p : Tx) (hp : p.length ≤ 140737488351232) : ∀ (f : Nat) (ls : List Tx) (at_ : Nat), p.length < f + at_ → at_ ≤ p.length → at_ ≤ 2048 → (∀ s ∈ ls, s.length ≤ 2048) → ls.length ≤ 33 → Ev (fun k => fascineref12_Read.l0 k (ba p) (ls.map ba) (at_ : Int)) (rdV p f ls at_) := by
  intro f
  induction f with
  | zero => intro ls at_ h1 h2; omega
  | succ f ih =>
    intro ls at_ h1 h2 h3 hls hn
    unfold rdV
    have hlen : ((ls.map ba).length : Int) = (ls.length : Int) := by rw [List.length_map]
    by_cases hb : ls.length > 32
    · rw [if_pos hb]
      refine ev_some fun k => ?_
      simp only [fascineref12_Read.l0]
      rw [if_pos (by omega)]; rfl
    · rw [if_neg hb]
      have hx : (ba p).extract ((at_ : Int)).toNat (ba p).size = ba (p.drop at_) := by rw [Int.toNat_natCast, ba_from]
      obtain ⟨K0, hidx⟩ := find_ev (p.drop at_) (by rw [List.length_drop]; omega) 10 10 rfl
      dsimp only at hidx
      have g1 : ¬ ((ls.map ba).length : Int) > 32 := by omega
      have g2 : (at_ : Int) ≤ ((ba p).size : Int) := by rw [ba_size]; omega
      have g0 : (0 : Int) ≤ (at_ : Int) := by omega
      cases hi : ix (p.drop at_) 10 with
      | none =>
        rw [hi] at hidx
        refine ⟨K0 + 1, fun k hk => ?_⟩
        obtain ⟨k, rfl⟩ : ∃ j, k = j + 1 := ⟨k - 1, by omega⟩
        simp only [fascineref12_Read.l0]
        rw [if_neg g1, if_pos g0, if_pos g2, hx, hidx _ (by omega), Option.bind_some, if_pos (by simp [ixI])]
        by_cases hz : p.length > 2048
        · rw [if_pos (by rw [ba_size]; omega), if_pos hz]; rfl
        · rw [if_neg (by rw [ba_size]; omega), if_neg hz]; rfl
      | some i =>
        rw [hi] at hidx
        simp only [ixI] at hidx
        have hil := ix_lt _ _ _ hi
        rw [List.length_drop] at hil
        have hcra := crV_at p at_ i (by omega)
        have w1 : Unit → wrap64 ((at_ : Int) + (i : Int)) = ((at_ + i : Nat) : Int) := fun _ => by rw [M.w64 (by omega) (by omega)]; omega
        have w2 : Unit → wrap64 ((i : Int) + 1) = ((i + 1 : Nat) : Int) := fun _ => up1 (by omega)
        have w3 : Unit → wrap64 ((at_ : Int) + ((i + 1 : Nat) : Int)) = ((at_ + i + 1 : Nat) : Int) := fun _ => by rw [M.w64 (by omega) (by omega)]; omega
        have w4 : Unit → wrap64 (((at_ + i : Nat) : Int) + 1) = ((at_ + i + 1 : Nat) : Int) := fun _ => up1 (by omega)
        have w5 : i ≠ 0 → wrap64 (((at_ + i : Nat) : Int) - 1) = ((at_ + i - 1 : Nat) : Int) := fun h => by rw [M.w64 (by omega) (by omega)]; omega
        have hx2 : i ≠ 0 → (ba p).extract ((at_ : Int)).toNat ((at_ + i - 1 : Nat) : Int).toNat = ba ((p.drop at_).take (i - 1)) := fun h => by rw [Int.toNat_natCast, Int.toNat_natCast, ba_ext, show at_ + i - 1 - at_ = i - 1 by omega]
        dsimp only
        by_cases hbig : at_ + i + 1 > 2048
        · rw [if_pos hbig]
          refine ⟨K0 + 1, fun k hk => ?_⟩
          obtain ⟨k, rfl⟩ : ∃ j, k = j + 1 := ⟨k - 1, by omega⟩
          simp only [fascineref12_Read.l0]
          rw [if_neg g1, if_pos g0, if_pos g2, hx, hidx _ (by omega), Option.bind_some, if_neg (by omega), w1 (), w4 (), if_pos (by omega)]; rfl
        · rw [if_neg hbig, hcra]
          have jno : ∀ k, fascineref12_Read.j1 (k + 1) (ba p) (ls.map ba) (at_ : Int) (i : Int) true = some (no 400) := fun k => by
            simp only [fascineref12_Read.j1]; rw [if_pos trivial]; rfl
          by_cases hi0 : i = 0
          · rw [if_pos (Or.inl hi0)]
            refine ⟨K0 + 2, fun k hk => ?_⟩
            obtain ⟨k, rfl⟩ : ∃ j, k = j + 2 := ⟨k - 2, by omega⟩
            simp only [fascineref12_Read.l0]
            rw [if_neg g1, if_pos g0, if_pos g2, hx, hidx _ (by omega), Option.bind_some, if_neg (by omega), w1 (), w4 (), if_neg (by omega), if_pos (by omega), jno]
          · by_cases hr : bt (ba p) ((at_ + i - 1 : Nat) : Int) = 13
            · rw [if_neg (fun x => x.elim hi0 (fun y => y hr))]
              -- the line is whole
              have main : ∀ R : Res, Ev (fun k => fascineref12_Read.j1 k (ba p) (ls.map ba) (at_ : Int) (i : Int) false) R → Ev (fun k => fascineref12_Read.l0 k (ba p) (ls.map ba) (at_ : Int)) R := by
                intro R ⟨K, h⟩
                dsimp only at h
                refine ⟨K0 + K + 1, fun k hk => ?_⟩
                obtain ⟨k, rfl⟩ : ∃ j, k = j + 1 := ⟨k - 1, by omega⟩
                simp only [fascineref12_Read.l0]
                rw [if_neg g1, if_pos g0, if_pos g2, hx, hidx _ (by omega), Option.bind_some, if_neg (by omega), w1 (), w4 (), if_neg (by omega), if_neg (by omega), w5 hi0, if_pos (by omega), if_pos (by rw [ba_size]; omega), hr]
                exact h k (by omega)
              apply main
              have hsl : ((p.drop at_).take (i - 1)).length ≤ 2048 := by rw [List.length_take]; omega
              have pre : ∀ k, fascineref12_Read.j1 (k + 1) (ba p) (ls.map ba) (at_ : Int) (i : Int) false = (if (p.drop at_).take (i - 1) = [] then (if ((ls.map ba).length : Int) > 0 then (if 0 < ((ls.map ba).length : Int) then ((fascineref12_first.f k (rdOf ByteArray.empty (ls.map ba) 0)).bind fun bt178 => (if bt178.2.2.2.2 = true then (fascineref12_Read.l1 k (ba p) (ls.map ba) ((at_ + i + 1 : Nat) : Int) 0 0 0 1 bt178.1 bt178.2.1 bt178.2.2.1 bt178.2.2.2.1) else (some (eB, eB, eB, false, 0, 400)))) else (none)) else (if (ls.map ba).length < 8796093022208 then (fascineref12_Read.l0 k (ba p) (ls.map ba ++ [ba ((p.drop at_).take (i - 1))]) ((at_ + i + 1 : Nat) : Int)) else (none))) else (if (ls.map ba).length < 8796093022208 then (fascineref12_Read.l0 k (ba p) (ls.map ba ++ [ba ((p.drop at_).take (i - 1))]) ((at_ + i + 1 : Nat) : Int)) else (none))) := by
                intro k
                simp only [fascineref12_Read.j1]
                rw [if_neg (by simp), if_pos g0, w1 (), w5 hi0, if_pos (by omega), if_pos (by rw [ba_size]; omega), hx2 hi0, ba_list, w2 (), w3 ()]
              generalize (p.drop at_).take (i - 1) = line at *
              have go : Ev (fun k => fascineref12_Read.l0 k (ba p) ((ls ++ [line]).map ba) ((at_ + i + 1 : Nat) : Int)) (rdV p f (ls ++ [line]) (at_ + i + 1)) := by
                refine ih (ls ++ [line]) (at_ + i + 1) (by omega) (by omega) (by omega) ?_ (by rw [List.length_append, List.length_singleton]; omega)
                intro s hs
                rcases List.mem_append.1 hs with h | h
                · exact hls s h
                · rw [List.mem_singleton.1 h]; omega
              dsimp only
              by_cases hl : line = []
              · by_cases hne : ls = []
                · subst hne
                  rw [if_neg (fun x => x.2 rfl)]
                  refine Ev.step (fun k => ?_) go
                  rw [pre, if_pos hl, if_neg (by simp), if_pos (by simp), lines_snoc]
                · rw [if_pos ⟨hl, hne⟩]
                  obtain ⟨l0, lr, rfl⟩ : ∃ a r, ls = a :: r := by
                    cases ls with
                    | nil => exact absurd rfl hne
                    | cons a r => exact ⟨a, r, rfl⟩
                  unfold finV
                  rw [List.headD_cons]
                  have hlp : ((l0 :: lr).map ba).length = lr.length + 1 := by simp
                  obtain ⟨K1, f1⟩ := rfirst_ev l0 (Nat.le_trans (hls l0 (by simp)) (by decide))
                  have e0 : rdOf ByteArray.empty ((l0 :: lr).map ba) 0 = ba l0 := rfl
                  dsimp only at f1
                  cases hfv : firstV l0 with
                  | none =>
                    rw [hfv] at f1
                    refine ⟨K1 + 1, fun k hk => ?_⟩
                    obtain ⟨k, rfl⟩ : ∃ j, k = j + 1 := ⟨k - 1, by omega⟩
                    show fascineref12_Read.j1 (k + 1) _ _ _ _ _ = _
                    rw [pre, if_pos hl, if_pos (by rw [hlp]; omega), if_pos (by rw [hlp]; omega), e0, f1 _ (by omega), Option.bind_some, if_neg (by simp [firstR])]; rfl
                  | some mq =>
                    obtain ⟨m, q⟩ := mq
                    rw [hfv] at f1
                    obtain ⟨K2, f2⟩ := rlines_loop p hp (l0 :: lr) hls (by omega) (at_ + i + 1) (by omega) m q eB _ 1 0 0 0 false rfl (by simp) (by omega) (by omega)
                    dsimp only at f2 ⊢
                    refine ⟨K1 + K2 + 1, fun k hk => ?_⟩
                    obtain ⟨k, rfl⟩ : ∃ j, k = j + 1 := ⟨k - 1, by omega⟩
                    show fascineref12_Read.j1 (k + 1) _ _ _ _ _ = _
                    rw [pre, if_pos hl, if_pos (by rw [hlp]; omega), if_pos (by rw [hlp]; omega), e0, f1 _ (by omega), Option.bind_some]
                    simp only [firstR]
                    rw [if_pos trivial]
                    exact f2 k (by omega)
              · rw [if_neg (fun x => hl x.1)]
                refine Ev.step (fun k => ?_) go
                rw [pre, if_neg hl, if_pos (by rw [List.length_map]; omega), lines_snoc]
            · rw [if_pos (Or.inr hr)]
              refine ⟨K0 + 2, fun k hk => ?_⟩
              obtain ⟨k, rfl⟩ : ∃ j, k = j + 2 := ⟨k - 2, by omega⟩
              simp only [fascineref12_Read.l0]
              rw [if_neg g1, if_pos g0, if_pos g2, hx, hidx _ (by omega), Option.bind_some, if_neg (by omega), w1 (), w4 (), if_neg (by omega), if_neg (by omega), w5 hi0, if_pos (by omega), if_pos (by rw [ba_size]; omega), show (bt (ba p) ((at_ + i - 1 : Nat) : Int) != 13) = true by simpa using hr, jno]
theorem rread_ev (p : Tx) (hp : p.length ≤ 140737488351232) : Ev (fun k => fascineref12_Read.f k (ba p)) (readV p) :=
  rread_loop p hp _ [] 0 (by omega) (by omega) (by omega) (by simp) (by simp)

def reqT : Tx := [71, 69, 84, 32, 47, 116, 97, 98, 108, 101, 32, 72, 84, 84, 80, 47, 49, 46, 49, 13, 10, 72, 111, 115, 116, 58, 32, 120, 13, 10, 13, 10]
theorem awake_ev : Ev (fun k => fascinelaw12_awake.f k) true := by
  obtain ⟨K, h⟩ := hread_ev reqT (by decide)
  refine ⟨K, fun k hk => ?_⟩
  have h1 := h k hk
  dsimp only at h1 ⊢
  have e : readV reqT = (ba [71, 69, 84], ba [47, 116, 97, 98, 108, 101], ba [], false, 32, 0) := by decide +kernel
  rw [e] at h1
  simp only [fascinelaw12_awake.f]
  rw [show (⟨#[71, 69, 84, 32, 47, 116, 97, 98, 108, 101, 32, 72, 84, 84, 80, 47, 49, 46, 49, 13, 10, 72, 111, 115, 116, 58, 32, 120, 13, 10, 13, 10]⟩ : ByteArray) = ba reqT from rfl, h1, Option.bind_some]
  dsimp only
  rw [if_pos rfl, if_pos rfl, if_pos (ba_list _), ba_list]
  rfl

theorem HttpReads : fascinelaw12_HttpReads.Pure := by
  intro s hs
  have hp : s.data.toList.length ≤ 140737488351232 := by rw [← Lib.size_eq]; exact hs
  refine Ev.rounds ?_
  obtain ⟨K0, h0⟩ := awake_ev
  obtain ⟨K1, h1⟩ := hread_ev s.data.toList hp
  obtain ⟨K2, h2⟩ := rread_ev s.data.toList hp
  dsimp only at h0 h1 h2
  rw [ba_of] at h1 h2
  refine ⟨K0 + K1 + K2, fun k hk => ?_⟩
  simp only [fascinelaw12_HttpReads.f]
  rw [h0 _ (by omega), Option.bind_some, if_pos rfl, h1 _ (by omega), Option.bind_some, h2 _ (by omega), Option.bind_some]
  simp

end Go.Proofs.YtpigloohccpfiaaDoor.Pure
