/- merge.Merge: the walk. -/
import Derived.Test.YtaediecdpgndjaaMrgO
namespace Go.Proofs.Ytaediecdpgndjaa.M
open Go.RowKit Go.Proofs.Mg Go.Proofs.YtaediecdpgndjaaW.PrintWords Go.Proofs.YtaediecdpgndjaaW.PrintLast Go.Proofs.YtaediecdpgndjaaW.PrintMore Go.Proofs.Ytaediecdpgndjaa.PMrg0
set_option linter.unusedVariables false
set_option linter.unusedSimpArgs false
def MPost (w : World) (l : List (List S31)) (lim : Int) (e : Ending) (w' : World) : Prop :=
  ∃ v, e = .returned (.tuple #[v, .bool (mergeV l lim).2.1, .int .i64 (mergeV l lim).2.2]) ∧ Kd.R k31 31 w' w.heap.size (fun _ => True) v (mergeV l lim).1 ∧ Below w.heap.size w w'
theorem MPost.bad {c : Int} {w w' : World} {l : List (List S31)} {lim : Int} (h : mergeV l lim = ([], false, c)) (hb : Below w.heap.size w w') : MPost w l lim (.returned (.tuple #[.slice none 0 0, .bool false, .int .i64 c])) w' :=
  ⟨_, by rw [h], by rw [h]; exact Kd.R_nil _ _ _ _ _, hb⟩
def lenOf : Value → Nat
  | .slice _ n _ => n
  | _ => 0
def SixAt (w : World) (p : Addr) (y : S31) (q : Addr) (z : S31) : Prop := (w.cell? p = some (.string y.f0) ∧ w.cell? ⟨p.block, p.off + 1, none⟩ = some (.int .i64 y.f1) ∧ w.cell? ⟨p.block, p.off + 2, none⟩ = some (.string y.f2)) ∧ (w.cell? q = some (.string z.f0) ∧ w.cell? ⟨q.block, q.off + 1, none⟩ = some (.int .i64 z.f1) ∧ w.cell? ⟨q.block, q.off + 2, none⟩ = some (.string z.f2))
theorem SixAt.below {w w' : World} {p : Addr} {y : S31} {q : Addr} {z : S31} (h : SixAt w p y q z) (hb : Below w.heap.size w w') : SixAt w' p y q z := by
  have e : ∀ {p : Addr} {v : Value}, w.cell? p = some v → w'.cell? p = some v := fun {p v} hp => (hb.cell (World.block_lt_of_cell? w p hp)).trans hp
  obtain ⟨⟨a, b, c⟩, a', b', c'⟩ := h
  exact ⟨⟨e a, e b, e c⟩, e a', e b', e c'⟩
set_option maxHeartbeats 8000000 in
set_option maxRecDepth 100000 in
theorem merge_any {w : World} {A : Option Addr} {c : Nat} {l : List (List S31)} {lim : Int} (hr : Kd.C (Kd.slice 31 k31) w A l.length l) (hc : l.length ≤ c) (hl : l.length ≤ 1000) (ht : l.flatten.length ≤ 1000000000000) :
    Calls Try.prog 8 #[.slice A l.length c, .int .i64 lim] w (MPost w l lim) := by
  have HR := Aside0.mk hr
  have HC := Aside0.mk hc
  have HT := Aside0.mk ht
  have HS0 := Aside0.mk (HS.start w)
  clear hr hc ht
  by_cases hlim : lim < 0
  · go_enter Try.func8, Try.ntmps8
    go_wp2
    go_ret3
    exact MPost.bad (by unfold mergeV; rw [if_pos hlim]) (Below.refl _ _)
  · go_enter Try.func8, Try.ntmps8
    go_upto_region 4 with (fail)
    generalize (w.alloc (.cells #[] 46)).alloc (.cells #[.slice (some ⟨w.heap.size, 0, none⟩) 0 0] 42) = w1 at *
    generalize w.heap.size + 1 = Q at *
    go_wp2
    go_loopw [19] (fun i wq => ∃ (k n cap G : Nat) (g : Nat → Ln), i = .int .i64 (k : Int) ∧ k ≤ l.length ∧ n ≤ k ∧ Aside0 (HS w wq Q G n cap g) ∧ Aside0 (LinesOf g n (l.take k)) ∧ Aside0 (∀ c, c < n → LnIn w (g c)) ∧ Aside0 (∀ x ∈ l.take k, inOrd x = true)) (fun i _ => l.length - (intOf i).toNat)
    case atStart => exact ⟨0, 0, 0, _, _, rfl, by omega, by omega, HS0, ⟨by simpa using LinesOf.nil _⟩, ⟨fun c hc => by omega⟩, ⟨by simp⟩⟩
    case round =>
      obtain ⟨k, n, cap, G, g, rfl, hk, hn, HH, HL, HI, HO⟩ := hrel
      by_cases hkl : k < l.length
      · obtain ⟨ad, A0, c0, rfl, hx0, hxl, hxC⟩ := at_L3 HR.out (k : Int) (by omega) (by omega)
        replace hx0 := (HH.out.b.cell (World.block_lt_of_cell? w _ hx0)).trans hx0
        simp only [Int.toNat_natCast] at hx0
        have HXC := Aside0.mk hxC
        have HXL := Aside0.mk hxl
        have EX : Aside0 (rd_L3 l (k : Int) = l[k]) := ⟨by unfold rd_L3; simp [hkl]⟩
        clear hxC hxl
        have hkb0 : (0 : Int) ≤ (k : Int) := by omega
        have hkb1 : (k : Int) < (l.length : Int) := by omega
        generalize rd_L3 l (k : Int) = x at *
        rename World => wo
        go_wp2
        go_loopw [26] (fun i wq => ∃ (j : Nat), i = .int .i64 (j : Int) ∧ j ≤ x.length ∧ Aside0 (Below wo.heap.size wo wq) ∧ Aside0 (∀ p : Nat, 0 < p → p < j → lt31 (rd_T31 x (p : Int)) (rd_T31 x ((p : Int) - 1)) = false)) (fun i _ => x.length - (intOf i).toNat)
        case atStart => exact ⟨0, rfl, by omega, ⟨Below.refl _ _⟩, ⟨fun p h0 hp => by omega⟩⟩
        case round =>
          obtain ⟨j, rfl, hj, HB, HF⟩ := hrel
          by_cases hjl : j < x.length
          · have hjb0 : (0 : Int) ≤ (j : Int) := by omega
            have hjb1 : (j : Int) < (x.length : Int) := by omega
            by_cases hj0 : j = 0
            · subst hj0
              go_wp2
              go_region
              go_wp2
              go_roundw
              case rel => exact ⟨1, rfl, by omega, ⟨HB.out.trans ⟨rfl, rfl, rfl, Nat.le_refl _, fun _ _ => rfl⟩⟩, ⟨fun p h0 hp => by omega⟩⟩
              case measure => simp [intOf]; omega
            · obtain ⟨m, hm⟩ : ∃ m, j = m + 1 := ⟨j - 1, by omega⟩
              have HM := Aside0.mk hm
              obtain ⟨a1, e1, p0, p1, p2⟩ := at_T31 HXC.out (m : Int) (by omega) (by omega)
              obtain ⟨a2, e2, q0, q1, q2⟩ := at_T31 HXC.out (j : Int) (by omega) (by omega)
              subst e1
              cases e2
              have hbw := HH.out.b.trans (HB.out.mono HH.out.b.size)
              replace p0 := (hbw.cell (World.block_lt_of_cell? w _ p0)).trans p0
              replace p1 := (hbw.cell (World.block_lt_of_cell? w _ p1)).trans p1
              replace p2 := (hbw.cell (World.block_lt_of_cell? w _ p2)).trans p2
              replace q0 := (hbw.cell (World.block_lt_of_cell? w _ q0)).trans q0
              replace q1 := (hbw.cell (World.block_lt_of_cell? w _ q1)).trans q1
              replace q2 := (hbw.cell (World.block_lt_of_cell? w _ q2)).trans q2
              have EB : Aside0 (rd_T31 x ((j : Int) - 1) = rd_T31 x (m : Int)) := ⟨by congr 1; omega⟩
              simp only [Int.toNat_natCast] at p0 p1 p2 q0 q1 q2
              generalize hy : rd_T31 x (m : Int) = y at *
              generalize hz : rd_T31 x (j : Int) = z at *
              have HY := Aside0.mk hy
              have HZ := Aside0.mk hz
              have hmb0 : (0 : Int) ≤ (m : Int) := by omega
              have hmb1 : (m : Int) < (x.length : Int) := by omega
              have hj1 : (0 : Int) < (j : Int) := by omega
              have hxm := Kd.C_max HXC.out
              have hjd : decide (0 < j) = true := decide_eq_true (by omega)
              have hw1 : IntKind.i64.wrap ((j : Int) - 1) = (m : Int) := by rw [IntWalk.i64_in _ (by omega)]; omega
              have hs1 : (j : Int) - 1 = (m : Int) := by omega
              have hs2 : (1 : Int) ≤ (j : Int) := by omega
              have hs3 : 1 ≤ j := by omega
              have hs4 : (0 : Int) ≤ (j : Int) - 1 := by omega
              have hs5 : (j : Int) - 1 < (x.length : Int) := by omega
              have hs6 : ((j : Int) - 1).toNat = m := by omega
              have hs7 : j - 1 = m := by omega
              clear hy hz hbw hm hj0 hs1
              go_wp2
              have HBd : Aside0 (Below wo.heap.size wo wr.drew) := ⟨HB.out.trans ⟨rfl, rfl, rfl, Nat.le_refl _, fun _ _ => rfl⟩⟩
              have HSX : Aside0 (SixAt wr.drew (a1.add (m * 3)) y (a1.add (j * 3)) z) := ⟨⟨p0, p1, p2⟩, ⟨q0, q1, q2⟩⟩
              go_region_held3 (fun W' => (W'.cell? (a1.add (m * 3)) = some (.string y.f0) ∧ W'.cell? ⟨(a1.add (m * 3)).block, (a1.add (m * 3)).off + 1, none⟩ = some (.int .i64 y.f1) ∧ W'.cell? ⟨(a1.add (m * 3)).block, (a1.add (m * 3)).off + 2, none⟩ = some (.string y.f2)) ∧ (W'.cell? (a1.add (j * 3)) = some (.string z.f0) ∧ W'.cell? ⟨(a1.add (j * 3)).block, (a1.add (j * 3)).off + 1, none⟩ = some (.int .i64 z.f1) ∧ W'.cell? ⟨(a1.add (j * 3)).block, (a1.add (j * 3)).off + 2, none⟩ = some (.string z.f2))) (exact HSX.out) (first
                | (go_at_call 14
                   refine (order_any y z _).mono ?_
                   rintro e w3 ⟨rfl, hb⟩
                   have HBd := Aside0.mk (HBd.out.trans (hb.mono HBd.out.size))
                   have HSX := Aside0.mk (HSX.out.below hb)
                   clear hb))
              have HOV := Aside0.mk (ordV_pos y z)
              generalize ordV y z = o at *
              by_cases ho : o > 0
              · have HLT : Aside0 (lt31 z y = true) := ⟨by rw [← HOV.out]; exact decide_eq_true ho⟩
                go_wp2
                go_ret3
                refine MPost.bad ?_ (HH.out.b.trans (HBd.out.mono HH.out.b.size))
                unfold mergeV
                rw [if_neg (by omega), if_neg]
                intro ha
                have h1 := List.all_eq_true.1 ha x (by rw [EX.out]; exact List.getElem_mem _)
                have h2 := (inOrd_iff x).1 h1 j (by omega) (by omega)
                rw [EB.out, HZ.out, HLT.out] at h2
                cases h2
              · have HLT : Aside0 (lt31 z y = false) := ⟨by rw [← HOV.out]; exact decide_eq_false ho⟩
                go_wp2
                go_roundw
                case rel => exact ⟨j + 1, by go_num, by omega, HBd, ⟨fun p h0 hp => by
                  by_cases hpj : p = j
                  · rw [hpj, EB.out, HZ.out]; exact HLT.out
                  · exact HF.out p h0 (by omega)⟩⟩
                case measure => simp [intOf]; omega
          · have hjx : j = x.length := by omega
            have HIO : Aside0 (inOrd x = true) := ⟨(inOrd_iff x).2 fun p h0 hp => HF.out p h0 (by omega)⟩
            have HH2 := Aside0.mk (HH.out.old HB.out)
            have ETK : Aside0 (l.take (k + 1) = l.take k ++ [x]) := ⟨by rw [EX.out]; exact take_snoc l k hkl⟩
            have HO2 : Aside0 (∀ y ∈ l.take (k + 1), inOrd y = true) := ⟨by
              rw [ETK.out]; intro y hy
              rcases List.mem_append.1 hy with h | h
              · exact HO.out y h
              · rw [List.mem_singleton.1 h]; exact HIO.out⟩
            have HJX := Aside0.mk hjx
            clear hjx hjl
            cases x with
            | nil =>
              obtain rfl : j = 0 := by simpa using hj
              go_wp2
              go_roundw
              case rel => exact ⟨k + 1, n, cap, G, g, by go_num, by omega, by omega, HH2, ⟨by rw [ETK.out]; exact HL.out.skip⟩, HI, HO2⟩
              case measure => simp [intOf]; omega
            | cons y t =>
              obtain ⟨a1, e1, _⟩ := at_T31 HXC.out 0 (by omega) (by simp)
              subst e1
              have HLI : Aside0 (LnIn w ⟨a1, c0, y, t, (k : Int)⟩) := ⟨⟨HXC.out, HXL.out⟩⟩
              have hjl2 : (j : Int) = (t.length : Int) + 1 := by have := HJX.out; simp at this; omega
              go_wp2_with fail
              refine (push_any HH2.out (by omega) HLI.out.doc).mono ?_
              rintro e w3 ⟨rfl, G3, cap3, g3, hh3, hp3, hk3⟩
              have HH3 := Aside0.mk hh3
              have HP3 := Aside0.mk hp3
              clear hh3 hp3 hk3
              go_wp2
              go_roundw
              case rel =>
                refine ⟨k + 1, n + 1, cap3, G3, g3, by go_num, by omega, by omega, HH3, ⟨?_⟩, ⟨?_⟩, HO2⟩
                · rw [ETK.out]
                  exact (HL.out.push (x := ⟨a1, c0, y, t, (k : Int)⟩) (by simp [List.length_take]; omega)).pm HP3.out
                · refine HP3.out.all (P := LnIn w) fun c hc => ?_
                  unfold updN
                  split
                  · exact HLI.out
                  · exact HI.out c (by omega)
              case measure => simp [intOf]; omega
      · have hke : k = l.length := by omega
        rw [hke, List.take_length] at HL HO
        have HAL : Aside0 (l.all inOrd = true) := ⟨List.all_eq_true.2 HO.out⟩
        have HOD : Aside0 (∀ x ∈ l, Ord lt31 x) := ⟨fun x hx => inOrd_ord (HO.out x hx)⟩
        have hnl : n ≤ l.length := by omega
        clear hke hn HS0 HO
        go_wp2
        clear hk hkl
        go_loopw [11] (fun v wq => ∃ (n cap G : Nat) (g : Nat → Ln) (out : List S31) (rs : List (List S31)), Aside0 (HS w wq Q G n cap g) ∧ n ≤ l.length ∧ Aside0 (LinesOf g n rs) ∧ Aside0 (∀ c, c < n → LnIn w (g c)) ∧ Aside0 (∀ x ∈ rs, Ord lt31 x) ∧ Aside0 (srt lt31 l.flatten = out ++ srt lt31 rs.flatten) ∧ (out.length : Int) ≤ lim ∧ Aside0 (Kd.R k31 31 wq w.heap.size (fun _ => True) v out)) (fun v _ => l.flatten.length - lenOf v)
        case atStart => exact ⟨n, cap, G, g, [], l, HH, hnl, HL, HI, HOD, ⟨rfl⟩, by simpa using hlim, ⟨Kd.R_nil _ _ _ _ _⟩⟩
        case round =>
          clear HH HL HI HOD
          clear hnl
          obtain ⟨n, cap, G, g, out, rs, HH, hn, HL, HI, HOD, HE, hol, HR1⟩ := hrel
          obtain ⟨A1, c1, ev⟩ := Kd.R_slice HR1.out
          subst ev
          have hq : wr.cell? ⟨Q, 0, none⟩ = some (.slice (some ⟨G, 0, none⟩) n cap) := blk_cell HH.out.q.hd 0
          cases n with
          | zero =>
            go_wp2_with (first | (go_at_call 16; refine (len_any _ 0 cap _).mono ?_; rintro e w' ⟨rfl, rfl⟩))
            go_ret3
            have hv := mergeV_end (by omega) HAL.out HE.out hol false (fun h => by cases h) (fun _ => HL.out.none_)
            exact ⟨_, by rw [hv]; rfl, by rw [hv]; exact HR1.out, HH.out.b⟩
          | succ m =>
            by_cases hlm : (out.length : Int) < lim
            · obtain ⟨i, hgi, hi, hri, hst⟩ := HL.out.step HH.out.h HOD.out
              have HGI := Aside0.mk hgi
              have HRI := Aside0.mk hri
              have HST := Aside0.mk hst
              have HLI := Aside0.mk (HI.out 0 (by omega))
              have HLP := Aside0.mk (HL.out.pop hgi)
              have HIS : Aside0 (∀ c, c < m → LnIn w (sw g 0 m c)) := ⟨fun c hc => by
                rw [sw_at]
                split
                · exact HI.out _ (by omega)
                · split
                  · exact HI.out _ (by omega)
                  · exact HI.out _ (by omega)⟩
              have hta := ta_ln (g 0)
              clear hgi hri hst HL HI
              go_upto_region 19 with (first | (go_at_call 16; refine (len_any _ (m + 1) cap _).mono ?_; rintro e w' ⟨rfl, rfl⟩) | (go_at_call 17; refine (pop_any HH.out (by omega)).mono ?_; rintro e w2 ⟨rfl, g2, hh2, hp2, hk2⟩; have HH2 := Aside0.mk hh2; have HP2 := Aside0.mk hp2; have HK2 := Aside0.mk hk2; clear hh2 hp2 hk2))
              have hb4 : Below w2.heap.size w2 (w2.alloc (Obj.cells #[Value.slice (some (g 0).a) (g 0).len (g 0).c, Value.int IntKind.i64 (g 0).n] 46)) := below_alloc (Below.refl _ _) _
              have HH4 := Aside0.mk (HH2.out.old hb4)
              have HR4 := Aside0.mk (Kd.R_below (out_kp HH.out HR1.out HK2.out) hb4)
              have hbx := heap_alloc_new w2 (Obj.cells #[Value.slice (some (g 0).a) (g 0).len (g 0).c, Value.int IntKind.i64 (g 0).n] 46)
              have hd4 := HLI.out.doc.below HH4.out.b
              have hsz : out.length + (srt lt31 rs.flatten).length = l.flatten.length := by have := srt_len l.flatten; rw [HE.out, List.length_append] at this; exact this
              rw [HST.out, List.length_cons] at hsz
              have hob : (out.length + 1) * 40 ≤ 140737488355328 := by have := HT.out; omega
              have HGB : Aside0 (G < w2.heap.size) := ⟨HH2.out.q.row.lt⟩
              have HQB : Aside0 (Q < w2.heap.size) := ⟨blk_lt HH2.out.q.hd⟩
              have HOB := Aside0.mk hob
              have HSZ := Aside0.mk hsz
              clear hb4 hob hsz hq hta
              generalize (w2.alloc (Obj.cells #[Value.slice (some (g 0).a) (g 0).len (g 0).c, Value.int IntKind.i64 (g 0).n] 46)) = w4 at *
              generalize w2.heap.size = bx at *
              have hx0 : w4.cell? ⟨bx, 0, none⟩ = some (.slice (some (g 0).a) (g 0).len (g 0).c) := blk_cell hbx 0
              have hx1 : w4.cell? ⟨bx, 1, none⟩ = some (.int .i64 (g 0).n) := blk_cell hbx 1
              have HBX := Aside0.mk hbx
              obtain ⟨d0, d1, d2⟩ := hd4
              clear hbx
              go_upto_region 20 with (first | (at_builtin; refine Kd.R_append k31 (w0 := w) w.heap.size rfl (.tmp 71) (.tmp 76) 24 31 (.agg #[(.string ⟨#[]⟩), (.int .i64 0), (.string ⟨#[]⟩)]) 40 rfl Try.underlying24 info31 rfl (by decide) (by omega) (.slice A1 out.length c1) out (g 0).h [.string (g 0).h.f0, .int .i64 (g 0).h.f1, .string (g 0).h.f2] (fun _ => True) (fun _ => False) rfl rfl (k31_mkM _ _ _ (g 0).h) (fun _ hk => hk.elim) (fun _ _ => trivial) HR4.out HH4.out.b HH4.out.b.size HOB.out ?_; intro v5 w5 ho5 hb5 hg5 hat5; have HR5 := Aside0.mk ho5; have HG5 := Aside0.mk hg5; clear ho5 hb5 hg5 hat5))
              have HH5 := Aside0.mk (HH4.out.grown HR4.out HG5.out)
              have hbx5 := box_grown HBX.out (by decide) HR4.out HG5.out
              have hy0 : w5.cell? ⟨bx, 0, none⟩ = some (.slice (some (g 0).a) (g 0).len (g 0).c) := blk_cell hbx5 0
              have hy1 : w5.cell? ⟨bx, 1, none⟩ = some (.int .i64 (g 0).n) := blk_cell hbx5 1
              have HBX5 := Aside0.mk hbx5
              obtain ⟨A5, c5, e5⟩ := Kd.R_slice HR5.out
              rw [List.length_append, List.length_singleton] at e5
              subst e5
              have HI2 : Aside0 (∀ c, c < m → LnIn w (g2 c)) := ⟨HP2.out.all (P := LnIn w) HIS.out⟩
              have HL2 := Aside0.mk (HLP.out.pm HP2.out)
              clear hbx5 hx0 hx1 d0 d1 d2 HBX HR4 HH4 HG5 HIS HLP HP2 HK2 HH2 HR1
              generalize g 0 = x0 at *
              obtain ⟨ga, gc, gh, gt, gn⟩ := x0
              cases gt with
              | nil =>
                go_wp2
                go_roundw
                case rel =>
                  refine ⟨m, cap, G, g2, out ++ [gh], rs.set i [], HH5, by omega, HL2, HI2, ⟨fun x hx => ?_⟩, ⟨?_⟩, by simp; omega, HR5⟩
                  · rcases List.mem_or_eq_of_mem_set hx with h | h
                    · exact HOD.out x h
                    · rw [h]; exact List.Pairwise.nil
                  · rw [HE.out, HST.out]; simp
                case measure => have := HSZ.out; simp only [lenOf]; omega
              | cons y t =>
                have hcl : t.length + 1 + 1 ≤ gc := by have := HLI.out.l; simpa using this
                have hs1 : (1 : Int) ≤ (t.length : Int) + 1 + 1 := by omega
                have hs2 : (t.length : Int) + 1 + 1 ≤ (gc : Int) := by omega
                have hs3 : ¬ gc = 1 := by omega
                have HLN : Aside0 (LnIn w ⟨⟨ga.block, ga.off + 3, none⟩, gc - 1, y, t, gn⟩) := ⟨by
                  refine ⟨?_, by simp; omega⟩
                  have := Kd.C_drop HLI.out.c (m := 1) (by simp) HLI.out.l
                  rw [if_neg hs3] at this
                  exact this⟩
                go_wp2
                have HBD : Aside0 (Below w5.heap.size w5 w5.drew) := ⟨below_drew (Below.refl _ _)⟩
                have HYY : Aside0 (w5.drew.cell? ⟨bx, 0, none⟩ = some (.slice (some ga) (t.length + 1 + 1) gc) ∧ w5.drew.cell? ⟨bx, 1, none⟩ = some (.int .i64 gn)) := ⟨⟨hy0, hy1⟩⟩
                go_region_held3 (fun W' => W'.cell? ⟨bx, 0, none⟩ = some (.slice (some ga) (t.length + 1 + 1) gc) ∧ W'.cell? ⟨bx, 1, none⟩ = some (.int .i64 gn)) (exact HYY.out) (first
                  | (go_at_call 15
                     refine (push_any (x := ⟨⟨ga.block, ga.off + 3, none⟩, gc - 1, y, t, gn⟩) (HH5.out.old HBD.out) (by omega) HLN.out.doc).mono ?_
                     rintro e w6 ⟨rfl, G6, cap6, g6, hh6, hp6, hk6⟩
                     have hbx6 : w6.heap[bx]? = _ := (hk6.block bx (blk_lt HBX5.out) (fun e => by have := HGB.out; have := HQB.out; omega)).trans HBX5.out
                     have HYY : Aside0 (w6.cell? ⟨bx, 0, none⟩ = some (.slice (some ga) (t.length + 1 + 1) gc) ∧ w6.cell? ⟨bx, 1, none⟩ = some (.int .i64 gn)) := ⟨⟨blk_cell hbx6 0, blk_cell hbx6 1⟩⟩
                     have HH6 := Aside0.mk hh6
                     have HP6 := Aside0.mk hp6
                     have HK6 := Aside0.mk hk6
                     clear hbx6 hh6 hp6 hk6))
                have HR6 := Aside0.mk (out_kp (HH5.out.old HBD.out) (Kd.R_below HR5.out HBD.out) HK6.out)
                go_wp2
                go_roundw
                case rel =>
                  refine ⟨m + 1, cap6, G6, g6, out ++ [gh], rs.set i (y :: t), HH6, by omega, ⟨(HL2.out.again hi (x := ⟨⟨ga.block, ga.off + 3, none⟩, gc - 1, y, t, gn⟩) HGI.out).pm HP6.out⟩, ⟨?_⟩, ⟨fun x hx => ?_⟩, ⟨?_⟩, by simp; omega, HR6⟩
                  · refine HP6.out.all (P := LnIn w) fun c hc => ?_
                    unfold updN
                    split
                    · exact HLN.out
                    · exact HI2.out c (by omega)
                  · rcases List.mem_or_eq_of_mem_set hx with h | h
                    · exact HOD.out x h
                    · rw [h]
                      have := HOD.out _ (List.getElem_mem hi)
                      rw [HRI.out] at this
                      exact (List.pairwise_cons.1 this).2
                  · rw [HE.out, HST.out]; simp
                case measure => have := HSZ.out; simp only [lenOf]; omega
            · go_wp2_with (first | (go_at_call 16; refine (len_any _ (m + 1) cap _).mono ?_; rintro e w' ⟨rfl, rfl⟩))
              go_ret3
              obtain ⟨i, _, hi, hri, _⟩ := HL.out.step HH.out.h HOD.out
              have hv := mergeV_end (by omega) HAL.out HE.out hol true (fun _ => ⟨(fun e => absurd (List.flatten_eq_nil_iff.1 e _ (List.getElem_mem hi)) (by rw [hri]; simp)), by omega⟩) (fun h => by cases h)
              exact ⟨_, by rw [hv]; rfl, by rw [hv]; exact HR1.out, HH.out.b⟩
end Go.Proofs.Ytaediecdpgndjaa.M
