/- The law of pages: the walk. -/
import Derived.Test.YtaediecdpgndjaaPagesB
namespace Go.Proofs.Ytaediecdpgndjaa.M
open Go.RowKit Go.Proofs.YtaediecdpgndjaaW.PrintWords Go.Proofs.YtaediecdpgndjaaW.PrintLast Go.Proofs.YtaediecdpgndjaaW.PrintMore Go.Proofs.Ytaediecdpgndjaa.PMergePages Go.Proofs.Ytaediecdpgndjaa.Pure
set_option linter.unusedVariables false
set_option linter.unusedSimpArgs false
def PPost (w : World) (e : Ending) (w' : World) : Prop := e = .returned (.bool true) ∧ Below w.heap.size w w'
set_option maxHeartbeats 8000000 in
set_option maxRecDepth 100000 in
theorem pages_any {w : World} {A : Option Addr} {c : Nat} {l : List (List PMergePages.S31)} {lim : Int} (hr : Kd.C (Kd.slice 31 PMergePages.k31) w A l.length l) (hc : l.length ≤ c) (h0 : 0 ≤ lim) (h1 : lim ≤ 255) :
    Calls Try.prog 6 #[.slice A l.length c, .int .u8 lim] w (PPost w) := by
  have HR := Aside0.mk hr
  have HC := Aside0.mk hc
  clear hr hc
  have HB := Aside0.mk (Below.refl w.heap.size w)
  by_cases hl8 : l.length ≤ 8
  · have hl8' : (l.length : Int) ≤ 8 := by omega
    obtain ⟨n, hn⟩ : ∃ n : Nat, (n : Int) = 1 + lim % 20 := ⟨(1 + lim % 20).toNat, by omega⟩
    have hn20 : n ≤ 20 := by omega
    have hn1 : 1 ≤ n := by omega
    go_enter Try.func6, Try.ntmps6
    go_upto_region 4 with (first | (go_at_call 7; refine (awake_p _).mono ?_; rintro e w1 ⟨rfl, hb⟩; have HB := Aside0.mk (HB.out.trans (hb.mono HB.out.size)); clear hb))
    rw [← hn]
    rename World => w1
    clear hn
    go_wp2
    go_loopw [6, 7] (fun v i wq => ∃ (k : Nat), i = .int .i64 (k : Int) ∧ k ≤ l.length ∧ Aside0 (Kd.R PMergePages.k31 31 wq w.heap.size (fun _ => True) v (sl (l.take k))) ∧ Aside0 (Below w.heap.size w wq) ∧ Aside0 (∀ x ∈ l.take k, x.length ≤ 30 ∧ ordS x = true)) (fun _ i _ => l.length - (intOf i).toNat)
    case atStart => exact ⟨0, rfl, by omega, ⟨Kd.R_nil _ _ _ _ _⟩, HB, ⟨by simp⟩⟩
    case round =>
      clear HB
      obtain ⟨k, rfl, hk, HA, HB, HO⟩ := hrel
      obtain ⟨A6, c6, e6⟩ := Kd.R_slice HA.out
      subst e6
      by_cases hkl : k < l.length
      · obtain ⟨ad, A0, c0, rfl, hx0, hxl, hxC⟩ := at_L3 HR.out (k : Int) (by omega) (by omega)
        have HX0 := Aside0.mk hx0
        replace hx0 := (HB.out.cell (World.block_lt_of_cell? w _ hx0)).trans hx0
        simp only [Int.toNat_natCast] at hx0
        have HXC := Aside0.mk hxC
        have HXL := Aside0.mk hxl
        have EX : Aside0 (rd_L3 l (k : Int) = l[k]) := ⟨lst_at l hkl⟩
        clear hxC hxl
        have hkb0 : (0 : Int) ≤ (k : Int) := by omega
        have hkb1 : (k : Int) < (l.length : Int) := by omega
        generalize rd_L3 l (k : Int) = x at *
        by_cases hx30 : x.length ≤ 30
        · have hx30' : ¬ ((30 : Int) < (x.length : Int)) := by omega
          cases hxo : ordS x with
          | false =>
            have HXO := Aside0.mk hxo
            clear hxo
            go_wp2_with (first | (go_at_call 9; refine (rises_p (Kd.C_below HXC.out HB.out) HXL.out (by omega)).mono ?_; rintro e w2 ⟨rfl, hb⟩; have HB := Aside0.mk (HB.out.trans (hb.mono HB.out.size)); clear hb; rw [HXO.out]))
            go_ret
            exact ⟨rfl, HB.out⟩
          | true =>
            have HXO := Aside0.mk hxo
            clear hxo
            go_upto_region 10 with (first | (go_at_call 9; refine (rises_p (Kd.C_below HXC.out HB.out) HXL.out (by omega)).mono ?_; rintro e w2 ⟨rfl, hb⟩; have HA := Aside0.mk (Kd.R_below HA.out hb); have hx0 := (hb.cell (World.block_lt_of_cell? _ _ hx0)).trans hx0; have HB := Aside0.mk (HB.out.trans (hb.mono HB.out.size)); clear hb; rw [HXO.out]))
            have hfb : (l.take k).flatten.length ≤ k * 30 := by
              have := flat_bound (L := l.take k) (fun y hy => (HO.out y hy).1)
              rw [List.length_take] at this
              have hm : min k l.length = k := by omega
              rw [hm] at this; exact this
            have HFB := Aside0.mk hfb
            clear hfb hx0
            rename World => w3
            go_wp2
            go_loopw [6, 8] (fun v i wq => ∃ (q : Nat), i = .int .i64 (q : Int) ∧ q ≤ x.length ∧ Aside0 (Kd.R PMergePages.k31 31 wq w.heap.size (fun _ => True) v (Mg.srt ltS ((l.take k).flatten ++ x.take q))) ∧ Aside0 (Below w.heap.size w wq)) (fun _ i _ => x.length - (intOf i).toNat)
            case atStart => exact ⟨0, rfl, by omega, ⟨by rw [List.take_zero, List.append_nil]; exact HA.out⟩, HB⟩
            case round =>
              clear HA HB
              obtain ⟨q, rfl, hq, HA, HB⟩ := hrel
              obtain ⟨A6, c6, e6, hc6, hC6⟩ := Kd.R_reads HA.out
              subst e6
              have HC6 := Aside0.mk hC6
              have HL6 := Aside0.mk hc6
              clear hC6 hc6
              have hx0 := (HB.out.cell (World.block_lt_of_cell? w _ HX0.out)).trans HX0.out
              simp only [Int.toNat_natCast] at hx0
              by_cases hql : q < x.length
              · obtain ⟨a2, e2, q0, q1, q2⟩ := at_T31 HXC.out (q : Int) (by omega) (by omega)
                subst e2
                have hqb0 : (0 : Int) ≤ (q : Int) := by omega
                have hqb1 : (q : Int) < (x.length : Int) := by omega
                replace q0 := (HB.out.cell (World.block_lt_of_cell? w _ q0)).trans q0
                replace q1 := (HB.out.cell (World.block_lt_of_cell? w _ q1)).trans q1
                replace q2 := (HB.out.cell (World.block_lt_of_cell? w _ q2)).trans q2
                simp only [Int.toNat_natCast] at q0 q1 q2
                have EQ : Aside0 (rd_T31 x (q : Int) = x[q]) := ⟨rd_at x hql⟩
                generalize rd_T31 x (q : Int) = y at *
                go_wp2_with (first | (go_at_call 10; refine (put_p HC6.out HL6.out (by rw [srtS_len, List.length_append, List.length_take]; have := HFB.out; omega) y).mono ?_; rintro e w4 ⟨v4, rfl, hR4, hb⟩; have HR4 := Aside0.mk (Kd.R_lower hR4 HB.out.size); have HB := Aside0.mk (HB.out.trans (hb.mono HB.out.size)); clear hR4 hb))
                go_roundw
                case rel => exact ⟨q + 1, by go_num, by omega, ⟨by
                  rw [List.take_succ_eq_append_getElem hql, ← List.append_assoc, srt_snoc, ← EQ.out]
                  exact HR4.out⟩, HB⟩
                case measure => simp [intOf]; omega
              · go_wp2
                go_roundw
                case rel => exact ⟨k + 1, by go_num, by omega, ⟨by
                  have hqe : x.take q = x := List.take_of_length_le (by omega)
                  have e2 : sl (l.take (k + 1)) = Mg.srt ltS ((l.take k).flatten ++ x.take q) := by
                    unfold sl
                    rw [List.take_succ_eq_append_getElem hkl, List.flatten_append, ← EX.out, hqe]
                    simp
                  rw [e2]
                  exact HA.out⟩, HB, ⟨fun z hz => by
                  rw [List.take_succ_eq_append_getElem hkl, ← EX.out] at hz
                  rcases List.mem_append.1 hz with h | h
                  · exact HO.out z h
                  · rw [List.mem_singleton.1 h]; exact ⟨hx30, HXO.out⟩⟩⟩
                case measure => simp [intOf]; omega
        · have hx30' : (30 : Int) < (x.length : Int) := by omega
          go_wp2
          go_ret
          exact ⟨rfl, HB.out⟩
      · have hke : k = l.length := by omega
        have hsle : (sl (l.take k)).length = (sl l).length := by rw [hke, List.take_length]
        rw [hsle] at HA
        rw [hsle]
        rw [hke, List.take_length] at HO HA
        clear hsle
        have HO2 := HO
        have hfb := flat_bound (L := l) (fun y hy => (HO2.out y hy).1)
        have hal : (sl l).length ≤ 240 := by rw [srtS_len]; omega
        clear hfb hke
        go_wp2
        clear hk hkl
        rename World => wA
        generalize hall : sl l = all at *
        have HALL := Aside0.mk hall
        clear hall
        go_loopw [9] (fun i wq => ∃ (k : Nat), i = .int .i64 (k : Int) ∧ 1 ≤ k ∧ k ≤ all.length + 1 ∧ Aside0 (∀ j : Nat, 0 < j → j < k → j < all.length → ltS (rd_T31 all ((j : Int) - 1)) (rd_T31 all (j : Int)) = true) ∧ Aside0 (Below wA.heap.size wA wq)) (fun i _ => all.length + 1 - (intOf i).toNat)
        case atStart => exact ⟨1, rfl, by omega, by omega, ⟨fun j h0 hj => by omega⟩, ⟨Below.refl _ _⟩⟩
        case round =>
          obtain ⟨k, rfl, hk1, hk2, HF, HBA⟩ := hrel
          by_cases hkl : k < all.length
          · obtain ⟨m, hm⟩ : ∃ m, k = m + 1 := ⟨k - 1, by omega⟩
            obtain ⟨A7, c7, e7, hc7, hC7⟩ := Kd.R_reads HA.out
            simp only [Value.slice.injEq] at e7
            obtain ⟨rfl, _, rfl⟩ := e7
            obtain ⟨a1, e1, p0, p1, p2⟩ := at_T31 (Kd.C_below hC7 HBA.out) (m : Int) (by omega) (by omega)
            obtain ⟨a2, e2, q0, q1, q2⟩ := at_T31 (Kd.C_below hC7 HBA.out) (k : Int) (by omega) (by omega)
            subst e1
            cases e2
            have EB : Aside0 (rd_T31 all ((k : Int) - 1) = rd_T31 all (m : Int)) := ⟨by congr 1; omega⟩
            simp only [Int.toNat_natCast] at p0 p1 p2 q0 q1 q2
            generalize hy : rd_T31 all (m : Int) = y at *
            generalize hz : rd_T31 all (k : Int) = z at *
            have HY := Aside0.mk hy
            have HZ := Aside0.mk hz
            have hmb0 : (0 : Int) ≤ (m : Int) := by omega
            have hmb1 : (m : Int) < (all.length : Int) := by omega
            have hkb0 : (0 : Int) ≤ (k : Int) := by omega
            have hkb1 : (k : Int) < (all.length : Int) := by omega
            have hw1 : IntKind.i64.wrap ((k : Int) - 1) = (m : Int) := by rw [IntWalk.i64_in _ (by omega)]; omega
            have hs2 : (1 : Int) ≤ (k : Int) := by omega
            have hs4 : (0 : Int) ≤ (k : Int) - 1 := by omega
            have hs5 : (k : Int) - 1 < (all.length : Int) := by omega
            have hs6 : ((k : Int) - 1).toNat = m := by omega
            have hs7 : k - 1 = m := by omega
            clear hy hz hm hC7 hc7
            have HBd : Aside0 (Below wA.heap.size wA wr.drew) := ⟨HBA.out.trans ⟨rfl, rfl, rfl, Nat.le_refl _, fun _ _ => rfl⟩⟩
            have HSX : Aside0 (SixP wr.drew (a1.add (m * 3)) y (a1.add (k * 3)) z) := ⟨⟨p0, p1, p2⟩, ⟨q0, q1, q2⟩⟩
            go_wp2
            go_region_held3 (fun W' => (W'.cell? (a1.add (m * 3)) = some (.string y.f0) ∧ W'.cell? ⟨(a1.add (m * 3)).block, (a1.add (m * 3)).off + 1, none⟩ = some (.int .i64 y.f1) ∧ W'.cell? ⟨(a1.add (m * 3)).block, (a1.add (m * 3)).off + 2, none⟩ = some (.string y.f2)) ∧ (W'.cell? (a1.add (k * 3)) = some (.string z.f0) ∧ W'.cell? ⟨(a1.add (k * 3)).block, (a1.add (k * 3)).off + 1, none⟩ = some (.int .i64 z.f1) ∧ W'.cell? ⟨(a1.add (k * 3)).block, (a1.add (k * 3)).off + 2, none⟩ = some (.string z.f2))) (exact HSX.out) (first
              | (go_at_call 12
                 refine (ahead_p y z _).mono ?_
                 rintro e w3 ⟨rfl, hb⟩
                 have HBd := Aside0.mk (HBd.out.trans (hb.mono HBd.out.size))
                 have HSX := Aside0.mk (HSX.out.below hb)
                 clear hb))
            cases hlt : ltS y z with
            | false =>
              go_wp2
              go_ret
              exact ⟨rfl, HB.out.trans (HBd.out.mono HB.out.size)⟩
            | true =>
              have HLT := Aside0.mk hlt
              clear hlt
              go_wp2
              go_roundw
              case rel => exact ⟨k + 1, by go_num, by omega, by omega, ⟨fun p h0 hp hl => by
                by_cases hpk : p = k
                · rw [hpk, EB.out, HZ.out]; exact HLT.out
                · exact HF.out p h0 (by omega) hl⟩, HBd⟩
              case measure => simp [intOf]; omega
          · have HST : Aside0 (Strict all) := ⟨strict_of fun j h0 hj => HF.out j h0 (by omega) hj⟩
            have HAr := Aside0.mk (Kd.R_below HA.out HBA.out)
            have HBr := Aside0.mk (HB.out.trans (HBA.out.mono HB.out.size))
            have HRW := Aside0.mk (show RestAt w wr (.slice none 0 0) (.slice A l.length c) l from .inl ⟨A, c, rfl, HC.out, HR.out⟩)
            have HPL : Aside0 (PagesLeft w wr wr all (.slice none 0 0) (.slice A l.length c) [] l) := ⟨⟨Kd.R_nil _ _ _ _ _, Below.refl _ _, HRW.out, HALL.out.symm, fun x hx => (HO.out x hx).2, hl8, HBr.out⟩⟩
            rename World => wB
            clear HF HBA HA HB HRW hk2
            go_wp2
            clear hkl
            go_loopw [10, 11] (fun g r wq => ∃ (got : List PMergePages.S31) (rs : List (List PMergePages.S31)), Aside0 (PagesLeft w wB wq all g r got rs)) (fun g _ _ => all.length - lenP g)
            case atStart => exact ⟨[], l, HPL⟩
            case round =>
              clear HPL
              obtain ⟨got, rs, HP⟩ := hrel
              obtain ⟨Ar, cr, er, hcr, hCr⟩ := HP.out.hr.reads HP.out.hb
              subst er
              obtain ⟨Ag, cg, eg⟩ := Kd.R_slice HP.out.hg
              subst eg
              have HCr := Aside0.mk hCr
              have HLr := Aside0.mk hcr
              have hal2 : got.length + (sl rs).length = all.length := by have := congrArg List.length HP.out.he; rw [List.length_append] at this; omega
              have HSR : Aside0 (Strict (sl rs)) := ⟨by have := HST.out; rw [HP.out.he] at this; exact (List.pairwise_append.1 this).2.1⟩
              have HMC : Aside0 (rs.flatten.length ≤ 1000) := ⟨by have : (sl rs).length = rs.flatten.length := srtS_len rs.flatten; omega⟩
              have HN8 : Aside0 (rs.length ≤ 1000) := ⟨by have := HP.out.hn; omega⟩
              clear hCr hcr
              go_upto_region 22 with (first | (go_at_call 8; refine (merge_p HCr.out HLr.out HN8.out HMC.out HP.out.ho n).mono ?_; rintro e w4 ⟨v4, rfl, hR4, hb⟩; have HR4 := Aside0.mk hR4; have HB4 := Aside0.mk hb; clear hR4 hb))
              obtain ⟨A4, c4, e4, hc4, hC4⟩ := Kd.R_reads HR4.out
              subst e4
              have HC4 := Aside0.mk hC4
              have HL4 := Aside0.mk hc4
              have hPl : ((sl rs).take n).length ≤ n := List.length_take_le _ _
              have hPm : ((sl rs).take n).length ≤ (sl rs).length := by rw [List.length_take]; omega
              have HPN := Aside0.mk (Kd.R_new' HR4.out (u := .slice Ag got.length cg) (Kd.R_lt HP.out.hg))
              have HG4 := Aside0.mk (Kd.R_below HP.out.hg HB4.out)
              have HR4r := Aside0.mk (HP.out.hr.below HB4.out)
              have HB4w := Aside0.mk (HP.out.hbb.trans (HB4.out.mono HP.out.hbb.size))
              have HB4v := Aside0.mk (HP.out.hb.trans (HB4.out.mono HP.out.hb.size))
              have hnl : ¬ ((n : Int) < (((sl rs).take n).length : Int)) := by omega
              have hnl2 : ¬ (n < ((sl rs).take n).length) := by omega
              have hob : (got.length + ((sl rs).take n).length) * 40 ≤ 140737488355328 := by omega
              have HOB := Aside0.mk hob
              have HAL2 := Aside0.mk hal2
              have HRR : Aside0 (ReadsRow (PMergePages.k31.K w4) 3 w4 A4 ((sl rs).take n).length ((sl rs).take n)) := ⟨HC4.out⟩
              clear hC4 hc4 hob hal2
              generalize hPP : (sl rs).take n = P at *
              have HPP := Aside0.mk hPP
              clear hPP
              go_upto_region 25 with (first | (at_builtin; refine Kd.R_append_rows PMergePages.k31 (w0 := wB) (Rr := PMergePages.k31.K w4) wB.heap.size rfl (.tmp 101) (.tmp 102) 24 31 (.agg #[(.string ⟨#[]⟩), (.int .i64 0), (.string ⟨#[]⟩)]) 40 rfl Try.underlying24 PMergePages.info31 rfl (by decide) (by omega) (.slice Ag got.length cg) got P A4 P.length c4 (fun _ => True) (fun _ => False) rfl rfl HG4.out HRR.out (fun x cs hk => by rw [PMergePages.k31_open hk]; exact PMergePages.k31_mkM _ _ _ x) (fun _ hk => hk.elim) (fun _ _ => trivial) HB4w.out HB4w.out.size HOB.out ?_; intro v5 w5 ho5 hb5 hg5 hat5; have HR5 := Aside0.mk ho5; have HB5 := Aside0.mk hb5; have HG5 := Aside0.mk hg5; have HAT5 := Aside0.mk hat5; clear ho5 hb5 hg5 hat5))
              have HR5r := Aside0.mk (HR4r.out.after HG5.out HAT5.out)
              have HP5 := Aside0.mk (Kd.R_grown HPN.out HG5.out (fun k hk => hk.2))
              obtain ⟨A5, c5, e5⟩ := Kd.R_slice HR5.out
              rw [List.length_append] at e5
              subst e5
              have HB5v : Aside0 (Below w.heap.size w w5) := ⟨HBr.out.trans (HB5.out.mono HBr.out.size)⟩
              by_cases hmore : n < (sl rs).length
              · obtain ⟨m, hm⟩ : ∃ m, n = m + 1 := ⟨n - 1, by omega⟩
                have hPn : P.length = m + 1 := by rw [← HPP.out, List.length_take]; omega
                have hms : m < (sl rs).length := by omega
                have EL : Aside0 (rd_T31 P (m : Int) = (sl rs)[m]) := ⟨by rw [rd_at P (by omega)]; simp only [← HPP.out, List.getElem_take]⟩
                obtain ⟨_, _, hC9⟩ := Kd.R_reads' HP5.out
                obtain ⟨a1, e1, p0, p1, p2⟩ := at_T31 hC9 (m : Int) (by omega) (by omega)
                subst e1
                simp only [Int.toNat_natCast] at p0 p1 p2
                generalize rd_T31 P (m : Int) = z at *
                have hs2 : (1 : Int) ≤ (P.length : Int) := by omega
                have hs3 : 1 ≤ P.length := by omega
                have hs4 : (0 : Int) ≤ (P.length : Int) - 1 := by omega
                have hs5 : (P.length : Int) - 1 < (P.length : Int) := by omega
                have hs6 : ((P.length : Int) - 1).toNat = m := by omega
                have hs7 : P.length - 1 = m := by omega
                have hs8 : IntKind.i64.wrap ((P.length : Int) - 1) = (m : Int) := by rw [IntWalk.i64_in _ (by omega)]; omega
                have hs9 : ¬ P.length = 0 := by omega
                have HPN2 := Aside0.mk hPn
                have HMM := Aside0.mk hm
                clear hC9 hPn hm
                go_upto_region 27 with (fail)
                have hb6 : Below w5.heap.size w5 (w5.alloc (Obj.cells #[Value.string z.f0, Value.int IntKind.i64 z.f1, Value.string z.f2] 31)) := below_alloc (Below.refl _ _) _
                have HR6 := Aside0.mk (Kd.R_below HR5.out hb6)
                have HR6r := Aside0.mk (HR5r.out.below hb6)
                have HB6 := Aside0.mk (HB5v.out.trans (hb6.mono HB5v.out.size))
                have HB6w := Aside0.mk (HB5.out.trans (hb6.mono HB5.out.size))
                have hbx := heap_alloc_new w5 (Obj.cells #[Value.string z.f0, Value.int IntKind.i64 z.f1, Value.string z.f2] 31)
                clear hb6 p0 p1 p2
                generalize (w5.alloc (Obj.cells #[Value.string z.f0, Value.int IntKind.i64 z.f1, Value.string z.f2] 31)) = w6 at *
                generalize w5.heap.size = bx at *
                have HBX := Aside0.mk hbx
                clear hbx
                go_wp2
                go_loopw [16, 17] (fun v i wq => ∃ (q : Nat), i = .int .i64 (q : Int) ∧ q ≤ rs.length ∧ Aside0 (Kd.R (Kd.slice 31 PMergePages.k31) 24 wq w6.heap.size (fun _ => True) v ((rs.take q).map (List.filter (ltS z)))) ∧ Aside0 (Below w6.heap.size w6 wq)) (fun _ i _ => rs.length - (intOf i).toNat)
                case atStart => exact ⟨0, rfl, by omega, ⟨Kd.R_nil _ _ _ _ _⟩, ⟨Below.refl _ _⟩⟩
                case round =>
                  obtain ⟨q, rfl, hq, HN, HBQ⟩ := hrel
                  obtain ⟨An, cn, en⟩ := Kd.R_slice HN.out
                  rw [List.length_map, List.length_take, Nat.min_eq_left hq] at en
                  subst en
                  have hn8 : rs.length ≤ 8 := HP.out.hn
                  by_cases hql : q < rs.length
                  · obtain ⟨Ar2, cr2, er2, hcr2, hCr2⟩ := HR6r.out.reads HB6.out
                    simp only [Value.slice.injEq] at er2
                    obtain ⟨rfl, _, rfl⟩ := er2
                    obtain ⟨ad, A0, c0, rfl, hx0, hxl, hxC⟩ := at_L3 hCr2 (q : Int) (by omega) (by omega)
                    simp only [Int.toNat_natCast] at hx0
                    have EX : Aside0 (rd_L3 rs (q : Int) = rs[q]) := ⟨lst_at rs hql⟩
                    have hqb0 : (0 : Int) ≤ (q : Int) := by omega
                    have hqb1 : (q : Int) < (rs.length : Int) := by omega
                    have hxs : (rd_L3 rs (q : Int)).length ≤ rs.flatten.length := by
                      rw [EX.out]
                      exact flat_le_p (List.getElem_mem hql)
                    generalize rd_L3 rs (q : Int) = x at *
                    have HXC := Aside0.mk (Kd.C_below hxC HBQ.out)
                    have HXL := Aside0.mk hxl
                    have HS6 : Aside0 (w6.cell? (ad.add q) = some (.slice A0 x.length c0) ∧ w6.cell? ⟨bx, 0, none⟩ = some (.string z.f0) ∧ w6.cell? ⟨bx, 1, none⟩ = some (.int .i64 z.f1)) := ⟨⟨hx0, blk_cell HBX.out 0, blk_cell HBX.out 1⟩⟩
                    replace hx0 := (HBQ.out.cell (World.block_lt_of_cell? w6 _ hx0)).trans hx0
                    have HXS := Aside0.mk hxs
                    have hbx := (HBQ.out.block bx (blk_lt HBX.out)).trans HBX.out
                    have hx1 : wr.cell? ⟨bx, 0, none⟩ = some (.string z.f0) := blk_cell hbx 0
                    have hx2 : wr.cell? ⟨bx, 1, none⟩ = some (.int .i64 z.f1) := blk_cell hbx 1
                    have hob : (((rs.take q).map (List.filter (ltS z))).length + 1) * 24 ≤ 140737488355328 := by rw [List.length_map, List.length_take]; have := HP.out.hn; omega
                    have HOB6 := Aside0.mk hob
                    clear hxC hxl hxs hCr2 hcr2 hbx hob
                    have HBd : Aside0 (Below w6.heap.size w6 wr.drew) := ⟨HBQ.out.trans ⟨rfl, rfl, rfl, Nat.le_refl _, fun _ _ => rfl⟩⟩
                    have HNd : Aside0 (Kd.R (Kd.slice 31 PMergePages.k31) 24 wr.drew w6.heap.size (fun _ => True) (.slice An q cn) ((rs.take q).map (List.filter (ltS z)))) := ⟨Kd.R_drew HN.out⟩
                    have HSX : Aside0 (wr.drew.cell? (ad.add q) = some (.slice A0 x.length c0) ∧ wr.drew.cell? ⟨bx, 0, none⟩ = some (.string z.f0) ∧ wr.drew.cell? ⟨bx, 1, none⟩ = some (.int .i64 z.f1)) := ⟨⟨hx0, hx1, hx2⟩⟩
                    have HBd0 : Aside0 (Below w6.heap.size w6 wr.drew) := HBd
                    have HNL : Aside0 (∀ k, (Value.slice An q cn).ownBlock = some k → k < wr.drew.heap.size) := ⟨Kd.R_lt HNd.out⟩
                    have HXCd : Aside0 (Kd.C PMergePages.k31 wr.drew A0 x.length x) := ⟨Kd.C_drew HXC.out⟩
                    go_wp2
                    go_region_held3 (fun W' => W'.cell? (ad.add q) = some (.slice A0 x.length c0) ∧ W'.cell? ⟨bx, 0, none⟩ = some (.string z.f0) ∧ W'.cell? ⟨bx, 1, none⟩ = some (.int .i64 z.f1)) (first | exact HSX.out | exact three_keep HSX.out (below_alloc (Below.refl _ _) _)) (first
                      | (go_at_call 13
                         refine (behind_p HXCd.out HXL.out (by have := HXS.out; have := HMC.out; omega) z).mono ?_
                         rintro e w8 ⟨v8, rfl, hR8, hb⟩
                         obtain ⟨A8, c8, e8⟩ := Kd.R_slice hR8
                         subst e8
                         have HR8 := Aside0.mk hR8
                         have HNd := Aside0.mk (Kd.R_below HNd.out hb)
                         have HBd := Aside0.mk (HBd.out.trans (hb.mono HBd.out.size))
                         have HSX : Aside0 (w8.cell? (ad.add q) = some (.slice A0 x.length c0) ∧ w8.cell? ⟨bx, 0, none⟩ = some (.string z.f0) ∧ w8.cell? ⟨bx, 1, none⟩ = some (.int .i64 z.f1)) := ⟨⟨(hb.cell (World.block_lt_of_cell? _ _ HSX.out.1)).trans HSX.out.1, (hb.cell (World.block_lt_of_cell? _ _ HSX.out.2.1)).trans HSX.out.2.1, (hb.cell (World.block_lt_of_cell? _ _ HSX.out.2.2)).trans HSX.out.2.2⟩⟩
                         clear hb hR8)
                      | (refine Kd.R_append_step (Kd.slice 31 PMergePages.k31) (w0 := w6) (W := w8) w6.heap.size (by simp [Region.wanted]) (.tmp 123) (.tmp 133) 22 24 (.slice none 0 0) 24 (by rfl) Try.underlying22 (by kernel_rfl) rfl (by decide) (by decide) (.slice An q cn) ((rs.take q).map (List.filter (ltS z))) (x.filter (ltS z)) [.slice A8 (x.filter (ltS z)).length c8] (fun _ => True) (fun k => wr.drew.heap.size ≤ k) (by rfl) (by rfl) ⟨_, rfl, Kd.R_mono (Kd.R_lower (Kd.R_bound HR8.out) (HBd0.out.size)) (fun k hk => hk.2.1)⟩ ?hokp (fun _ _ => trivial) HNd.out HBd.out HBd.out.size HOB6.out ?_; case hokp => exact (fun k hk => ⟨trivial, fun e => by have := HNL.out k e.symm; omega⟩)
                         intro v9 w9 ho9 hb9 hg9 hat9
                         have HN9 := Aside0.mk ho9
                         have HB9 := Aside0.mk hb9
                         have HSX : Aside0 (w9.cell? (ad.add q) = some (.slice A0 x.length c0) ∧ w9.cell? ⟨bx, 0, none⟩ = some (.string z.f0) ∧ w9.cell? ⟨bx, 1, none⟩ = some (.int .i64 z.f1)) := ⟨three_keep HS6.out hb9⟩
                         clear ho9 hb9 hg9 hat9))
                    obtain ⟨Av, cv, ev⟩ := Kd.R_slice HN9.out
                    subst ev
                    go_wp2
                    go_roundw
                    case rel => exact ⟨q + 1, by go_num, by omega, ⟨by
                      rw [List.take_succ_eq_append_getElem hql, List.map_append, ← EX.out]
                      exact HN9.out⟩, HB9⟩
                    case measure => simp [intOf]; omega
                  · have hqe : q = rs.length := by omega
                    have hrt : rs.take q = rs := List.take_of_length_le (by omega)
                    rw [hrt] at HN
                    have HN6 := Aside0.mk HN.out
                    have HBQ6 := Aside0.mk HBQ.out
                    have HG9 := Aside0.mk (Kd.R_below HR6.out HBQ.out)
                    have HB9w := Aside0.mk (HB6.out.trans (HBQ.out.mono HB6.out.size))
                    have HB9b := Aside0.mk (HB6w.out.trans (HBQ.out.mono HB6w.out.size))
                    have HLT := Aside0.mk (Kd.R_lt HR6.out)
                    clear hrt
                    go_wp2
                    go_roundw
                    case rel =>
                      refine ⟨got ++ P, rs.map (List.filter (ltS z)), ⟨⟨HG9.out, HB9b.out, .inr ?_, ?_, fun y hy => ?_, by rw [List.length_map]; exact HP.out.hn, HB9w.out⟩⟩⟩
                      · refine Kd.R_mono (Kd.R_lower (Kd.R_bound HN6.out) HB6.out.size) (fun k hk => ⟨trivial, fun e => ?_⟩)
                        have h1 := HLT.out k e.symm
                        have h2 := hk.2.1
                        omega
                      · have h1 := page_step HSR.out hms
                        rw [EL.out, h1, HP.out.he, ← HPP.out, HMM.out, List.append_assoc, List.take_append_drop]
                      · obtain ⟨x, hx, rfl⟩ := List.mem_map.1 hy
                        exact ordS_filter (HP.out.ho x hx) _
                    case measure => have h1 := HPN2.out; have h2 := HAL2.out; simp only [lenP]; omega
              · have hPe : P = sl rs := by rw [← HPP.out]; exact List.take_of_length_le (by omega)
                have hge : got ++ P = all := by rw [HP.out.he, hPe]
                have hgl : got.length + P.length = all.length := by rw [← hge, List.length_append]
                rw [hgl] at HR5
                rw [hgl]
                rw [hge] at HR5
                obtain ⟨_, hc5, hC5⟩ := Kd.R_reads' HR5.out
                have HC5 := Aside0.mk hC5
                have HL5 := Aside0.mk hc5
                obtain ⟨_, hc6, hC6⟩ := Kd.R_reads' (Kd.R_below HAr.out HB5.out)
                have HC6 := Aside0.mk hC6
                have HL6 := Aside0.mk hc6
                clear hPe hge hgl hC5 hc5 hC6 hc6
                go_wp2_with (first | (go_at_call 11; refine (same_p HC5.out HL5.out HC6.out HL6.out (by omega)).mono ?_; rintro e w6 ⟨rfl, hb⟩; have HB6 := Aside0.mk (HB5v.out.trans (hb.mono HB5v.out.size)); clear hb))
                go_ret
                exact ⟨rfl, HB6.out⟩
  · have hl8' : (8 : Int) < (l.length : Int) := by omega
    go_enter Try.func6, Try.ntmps6
    go_wp2_with (first | (go_at_call 7; refine (awake_p _).mono ?_; rintro e w1 ⟨rfl, hb⟩; have HB := Aside0.mk (HB.out.trans (hb.mono HB.out.size)); clear hb))
    go_ret
    exact ⟨rfl, HB.out⟩
theorem mergePages_law (A : Option Addr) (c : Nat) (l : List (List PMergePages.S31)) (lim : Int) (W : World) (hC : Kd.C (Kd.slice 31 PMergePages.k31) W A l.length l) (hc : l.length ≤ c) {P : Prop} (hb : P) (h2 : (Lit.int .u8 lim).wf = true) :
    Calls Try.prog 6 #[.slice A l.length c, .int .u8 lim] W fun e w' => e = .returned (.bool true) ∧ Below W.heap.size W w' := by
  have h3 : 0 ≤ lim ∧ lim ≤ 255 := by simpa [Lit.wf, IntKind.min, IntKind.max, IntKind.signed, IntKind.bits] using h2
  exact pages_any hC hc h3.1 h3.2
end Go.Proofs.Ytaediecdpgndjaa.M
