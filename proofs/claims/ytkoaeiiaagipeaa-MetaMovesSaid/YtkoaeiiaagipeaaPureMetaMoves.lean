/- On the printed functions of MetaMoves: what each of them answers, in plain words. -/
import Derived.Test.YtkoaeiiaagipeaaPMetaMovesx
import Derived.Test.YtkoaeiiaagipeaaMArith
namespace Go.Proofs.Ytkoaeiiaagipeaa.Pure
open Go.RowKit Go.Proofs.Ytkoaeiiaagipeaa.PMetaMoves Go.Proofs.YtkoaeiiaagipeaaW.PrintWords Go.Proofs.YtkoaeiiaagipeaaW.PrintLast Go.Proofs.YtkoaeiiaagipeaaW.PrintMore Go.Proofs.Ytkoaeiiaagipeaa.M
set_option linter.unusedVariables false
set_option linter.unusedSimpArgs false

theorem wf_u8 {a : Int} (h : (Lit.int .u8 a).wf = true) : 0 ≤ a ∧ a ≤ 255 := by
  simp [Lit.wf, IntKind.min, IntKind.max, IntKind.signed, IntKind.bits] at h
  omega
theorem tmk {a c m : Int} (h0 : 0 ≤ a) (h1 : a ≤ 255) (hm : 1 ≤ m) (hm8 : m ≤ 8) (hc : 0 ≤ c) (hc2 : c ≤ 2) : wrap64 (c + Int.tmod (wrap64 a) m) = c + a % m := by
  rw [w64 (x := a) (by omega) (by omega), Int.tmod_eq_emod_of_nonneg h0]
  have := Int.emod_nonneg a (show m ≠ 0 by omega)
  have := Int.emod_lt_of_pos a (show 0 < m by omega)
  exact w64 (by omega) (by omega)
theorem moves_dec : ∀ x : Fin 4, ∀ y : Fin 8, ∀ z : Fin 4, z.val ≤ x.val → fascinelaw14_MetaMoves.f 120 (x.val : Int) (y.val : Int) (z.val : Int) = some true := by decide +kernel
theorem MetaMoves : fascinelaw14_MetaMoves.Pure := by
  intro a b c wa wb wc
  have ha := wf_u8 wa
  have hb := wf_u8 wb
  have hc := wf_u8 wc
  have e1 : wrap64 (2 + Int.tmod (wrap64 a) 4) = 2 + a % 4 := tmk ha.1 ha.2 (by omega) (by omega) (by omega) (by omega)
  have e2 : wrap64 (1 + Int.tmod (wrap64 b) 8) = 1 + b % 8 := tmk hb.1 hb.2 (by omega) (by omega) (by omega) (by omega)
  have e4 : wrap64 (2 + a % 4 - 1) = 1 + a % 4 := by rw [w64 (by omega) (by omega)]; omega
  have e3 : wrap64 (1 + Int.tmod (wrap64 c) (1 + a % 4)) = 1 + c % (1 + a % 4) := tmk hc.1 hc.2 (by omega) (by omega) (by omega) (by omega)
  have h3 := Int.emod_nonneg c (show 1 + a % 4 ≠ 0 by omega)
  have h4 := Int.emod_lt_of_pos c (show 0 < 1 + a % 4 by omega)
  have f1 : wrap64 (2 + Int.tmod (wrap64 (a % 4)) 4) = 2 + a % 4 := by rw [tmk (by omega) (by omega) (by omega) (by omega) (by omega) (by omega), Int.emod_emod_of_dvd a (by decide : (4 : Int) ∣ 4)]
  have f2 : wrap64 (1 + Int.tmod (wrap64 (b % 8)) 8) = 1 + b % 8 := by rw [tmk (by omega) (by omega) (by omega) (by omega) (by omega) (by omega), Int.emod_emod_of_dvd b (by decide : (8 : Int) ∣ 8)]
  have f3 : wrap64 (1 + Int.tmod (wrap64 (c % (1 + a % 4))) (1 + a % 4)) = 1 + c % (1 + a % 4) := by rw [tmk (by omega) (by omega) (by omega) (by omega) (by omega) (by omega), Int.emod_eq_of_lt h3 h4]
  have key : ∀ k, fascinelaw14_MetaMoves.f k a b c = fascinelaw14_MetaMoves.f k (a % 4) (b % 8) (c % (1 + a % 4)) := by
    intro k
    unfold fascinelaw14_MetaMoves.f
    rw [e1, f1, e4, e2, f2, e3, f3]
  refine ⟨120, ?_⟩
  rw [key]
  have := moves_dec ⟨(a % 4).toNat, by omega⟩ ⟨(b % 8).toNat, by omega⟩ ⟨(c % (1 + a % 4)).toNat, by omega⟩ (by simp only; omega)
  simp only [Int.toNat_of_nonneg (show 0 ≤ a % 4 by omega), Int.toNat_of_nonneg (show 0 ≤ b % 8 by omega), Int.toNat_of_nonneg h3] at this
  exact this

end Go.Proofs.Ytkoaeiiaagipeaa.Pure
