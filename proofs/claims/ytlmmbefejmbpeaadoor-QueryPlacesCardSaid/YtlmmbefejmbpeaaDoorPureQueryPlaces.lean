/- QueryPlaces, plainly. -/
import Derived.Test.YtlmmbefejmbpeaaDoorQQueryPlaces
import Derived.Test.YtlmmbefejmbpeaaDoorPureFine
namespace Go.Proofs.YtlmmbefejmbpeaaDoor.Pure
open Go.RowKit Go.Proofs.Qp Go.Proofs.YtlmmbefejmbpeaaDoor.PQueryPlaces Go.Proofs.YtlmmbefejmbpeaaDoor Go.Proofs.YtlmmbefejmbpeaaDoor.PQry0
theorem awakePlaces : fascinelaw06_awake.f = some true := by kernel_rfl
theorem max_of {α : Type} (P : α → Nat → Prop) : ∀ l : List α, (∀ x ∈ l, ∃ K, ∀ k ≥ K, P x k) → ∃ K, ∀ x ∈ l, ∀ k ≥ K, P x k
  | [], _ => ⟨0, by simp⟩
  | y :: t, h => by
    obtain ⟨K1, h1⟩ := h y (by simp)
    obtain ⟨K2, h2⟩ := max_of P t (fun x hx => h x (List.mem_cons_of_mem _ hx))
    refine ⟨K1 + K2, fun x hx k hk => ?_⟩
    rcases List.mem_cons.1 hx with rfl | hx
    · exact h1 k (by omega)
    · exact h2 x hx k (by omega)
def sameF (q : S25) (k : Nat) : Prop := fascineref06_Same.f k q.f0 q.f1 q.f2 q.f3 q.f0 q.f1 q.f2 q.f3 = some true
/-- a query is like itself -/
theorem same_ev {q : S25} (h : M.Fine q) : ∃ K, ∀ k ≥ K, sameF q k := by
  induction h with
  | mk q hl hk ih =>
    obtain ⟨K, hK⟩ := max_of sameF q.f3 ih
    have loop : ∀ (m i : Nat), i + m = q.f3.length → ∀ k ≥ K + m + 1, fascineref06_Same.l0 k (i : Int) q.f0 q.f1 q.f2 q.f3 q.f0 q.f1 q.f2 q.f3 = some true := by
      intro m
      induction m with
      | zero =>
        intro i hi k hk
        obtain ⟨k, rfl⟩ : ∃ j, k = j + 1 := ⟨k - 1, by omega⟩
        unfold fascineref06_Same.l0
        rw [if_neg (by omega)]
      | succ m ihm =>
        intro i hi k hk
        obtain ⟨k, rfl⟩ : ∃ j, k = j + 1 := ⟨k - 1, by omega⟩
        unfold fascineref06_Same.l0
        have hil : i < q.f3.length := by omega
        have hr : rd_T25 q.f3 (i : Int) ∈ q.f3 := by
          unfold rd_T25
          rw [Int.toNat_natCast, List.getD_eq_getElem?_getD, List.getElem?_eq_getElem hil]
          exact List.getElem_mem hil
        have hs : sameF (rd_T25 q.f3 (i : Int)) k := hK _ hr k (by omega)
        unfold sameF at hs
        rw [if_pos (by omega), if_pos (by omega), if_pos (by omega), hs, Option.bind_some, if_pos rfl, show wrap64 ((i : Int) + 1) = ((i + 1 : Nat) : Int) from by unfold wrap64; omega]
        exact ihm (i + 1) (by omega) k (by omega)
    refine ⟨K + q.f3.length + 3, fun k hk => ?_⟩
    obtain ⟨k, rfl⟩ : ∃ j, k = j + 2 := ⟨k - 2, by omega⟩
    unfold sameF fascineref06_Same.f
    rw [if_pos rfl, if_pos rfl, if_pos rfl]
    unfold fascineref06_Same.j0
    rw [if_neg (by simp)]
    exact loop q.f3.length 0 (by omega) k (by omega)
theorem lt_pad (s : ByteArray) : M.lt (((⟨#[32, 32]⟩ : ByteArray) ++ s) ++ (⟨#[32]⟩ : ByteArray)) = pad (M.lt s) := by
  unfold M.lt pad
  simp [ByteArray.data_append]
theorem QueryPlaces : QueryPlaces_PureU := by
  intro a0
  by_cases h5 : (a0.size : Int) > 500
  · refine ⟨1, ?_⟩
    unfold fascinelaw06_QueryPlaces.f
    rw [awakePlaces, Option.bind_some, if_pos rfl, decide_eq_true h5, fascinelaw06_QueryPlaces.j0, if_pos rfl, awakePlaces]
    rfl
  · have hl5 : (M.lt a0).length ≤ 500 := by simp; omega
    obtain ⟨e, he1, he2, hq, hp⟩ := parse_rel (l := M.lt a0) M.mkQ M.lf M.leaf_nil M.zq hl5
    obtain ⟨K, hK⟩ := same_ev (M.parse_fine_ a0)
    have hs := hK K (Nat.le_refl _)
    unfold sameF at hs
    have hP2 : M.parseS (((⟨#[32, 32]⟩ : ByteArray) ++ a0) ++ (⟨#[32]⟩ : ByteArray)) = parseV (pad (M.lt a0)) M.mkQ M.lf M.zq := by unfold M.parseS; rw [lt_pad]
    have hf1 : query_Parse.f a0 = some ((M.parseS a0).1.f0, (M.parseS a0).1.f1, (M.parseS a0).1.f2, (M.parseS a0).1.f3, ((M.parseS a0).2.1 : Int), (M.parseS a0).2.2) := by
      unfold query_Parse.f; rw [if_pos (by omega)]
    have hsz2 : (((⟨#[32, 32]⟩ : ByteArray) ++ a0) ++ (⟨#[32]⟩ : ByteArray)).size = a0.size + 3 := by
      simp [ByteArray.size_append]
      show 2 + a0.size + 1 = _
      omega
    have hf2 : query_Parse.f (((⟨#[32, 32]⟩ : ByteArray) ++ a0) ++ (⟨#[32]⟩ : ByteArray)) = some ((M.parseS a0).1.f0, (M.parseS a0).1.f1, (M.parseS a0).1.f2, (M.parseS a0).1.f3, ((parseV (pad (M.lt a0)) M.mkQ M.lf M.zq).2.1 : Int), e) := by
      unfold query_Parse.f; rw [if_pos (by omega), hP2, hq, he2]
    refine ⟨K + 2, ?_⟩
    unfold fascinelaw06_QueryPlaces.f
    rw [awakePlaces, Option.bind_some, if_pos rfl, decide_eq_false h5]
    show fascinelaw06_QueryPlaces.j0 ((K + 1) + 1) a0 false = some true
    rw [fascinelaw06_QueryPlaces.j0]
    have he1' : (M.parseS a0).2.2 = e := he1
    rw [if_neg (by simp), hf1, Option.bind_some, if_pos (by omega), if_pos (by omega), hf2, Option.bind_some]
    simp only
    rw [if_pos he1']
    have hs2 : fascineref06_Same.f (K + 1) (M.parseS a0).1.f0 (M.parseS a0).1.f1 (M.parseS a0).1.f2 (M.parseS a0).1.f3 (M.parseS a0).1.f0 (M.parseS a0).1.f1 (M.parseS a0).1.f2 (M.parseS a0).1.f3 = some true := hK (K + 1) (by omega)
    rw [hs2, Option.bind_some]
    rw [fascinelaw06_QueryPlaces.j1, if_neg (by simp), he1']
    have hpp : (M.parseS a0).2.1 = (parseV (M.lt a0) M.mkQ M.lf M.zq).2.1 := rfl
    rw [hpp]
    generalize (parseV (M.lt a0) M.mkQ M.lf M.zq).2.1 = p at hp ⊢
    generalize (parseV (pad (M.lt a0)) M.mkQ M.lf M.zq).2.1 = p' at hp ⊢
    rcases hp with ⟨h0, rfl, rfl⟩ | ⟨h0, h1, h2⟩
    · rw [if_pos h0, if_pos (by rfl)]
      rfl
    · have hl : (M.lt a0).length = a0.size := by simp
      rw [if_neg h0, if_pos (by omega), if_pos (by omega)]
      rcases h2 with rfl | ⟨rfl, rfl⟩
      · rw [if_pos (by unfold wrap64; omega)]
      · rw [hl]
        by_cases hw : ((a0.size + 3 : Nat) : Int) = wrap64 ((a0.size : Int) + 2)
        · rw [if_pos hw]
        · rw [if_neg hw, if_pos rfl]
          have : wrap64 ((a0.size : Int) + 3) = ((a0.size + 3 : Nat) : Int) := by unfold wrap64; omega
          rw [this]
          simp
end Go.Proofs.YtlmmbefejmbpeaaDoor.Pure
