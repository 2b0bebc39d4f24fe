/-
  No cell of these rows narrows 'for every input' (looked for: loops, veiled, ifaces, maps, wideKeys, modest, calm, conditions, laid).
  DERIVED. THE GIVEN ROWS OF THIS SEAT. 12 by the template 'for every input the law returns true; each argument reads behind the call as it read before'; 0 by the template 'total and deterministic' (their statements: YtkoaeiiaagipeaaTotals.lean).
  GIVEN WITH THE SEED: the statements are not yours to turn. If you find one false, say at which input.
  Laid BY PROGRAM, IN A SANDBOX (cutbox-rows.mjs): the forced cells as the released guide's own fill.sh prints them over the translation 0513db277f3275a9… (all of the seat's roots in one cut). By AI agents, Wed Nov 11 2026. No macro, syntax, notation, axiom, sorry.
-/
import Derived.Test.YtkoaeiiaagipeaaChecked
import GoSem.Claim
import GoSem.ClaimJoined
import GoSem.ClaimMapViews
import Derived.JoinedTies
import Derived.KernelRfl
namespace Go.Proofs.Ytkoaeiiaagipeaa
/- THE CELL 'sum', in the pinned program and in every row, IS THE sha256 OF THE DUMP (.gsa) THAT YtkoaeiiaagipeaaProg.lean LOADS. Nothing in Lean hashes anything: it is a label: what it is worth is what the hold of that sum in a sandbox is worth. -/
noncomputable def Try.pinned : Pinned := { name := "ytkoaeiiaagipeaa", sum := "0513db277f3275a99353858bdf17c04cc265bcefe63cc1767a90602797faea7b", checked := Try.checked }
namespace Rows
def none {H : Type} : Left H := { results := [], args := [] }

/-- 'fascinelaw14.MetaNews': WHATEVER THE INPUT: true; the input reads as it did. -/
def metaNewsSpec : ChangeSpec := { name := "metaNews", fn := fun _ => fun
  | [d1, d2, d3, d4] => { results := [.lit (.bool true)], args := [d1, d2, d3, d4] }
  | _ => none }
def metaNewsRow : OpenClaim := { program := "ytkoaeiiaagipeaa", sum := "0513db277f3275a99353858bdf17c04cc265bcefe63cc1767a90602797faea7b", func := "fascine/fascinelaw14.MetaNews", spec := "metaNews", unfollowed := true, recurses := true, apart := false }
def MetaNewsSaid : Prop := metaNewsRow.holds Try.pinned (OpenSpec.ofChange metaNewsSpec)

/-- ITS FALSE NEIGHBOUR: 'it returns false'. Refute it at one input. -/
def metaNewsWrong : ChangeSpec := { name := "metaNews", fn := fun _ => fun
  | [d1, d2, d3, d4] => { results := [.lit (.bool false)], args := [d1, d2, d3, d4] }
  | _ => none }
def MetaNewsWrongFalsely : Prop := metaNewsRow.holds Try.pinned (OpenSpec.ofChange metaNewsWrong)

/-- 'fascinelaw14.MetaApplies': WHATEVER THE INPUT: true; the input reads as it did. -/
def metaAppliesSpec : ChangeSpec := { name := "metaApplies", fn := fun _ => fun
  | [d1, d2] => { results := [.lit (.bool true)], args := [d1, d2] }
  | _ => none }
def metaAppliesRow : OpenClaim := { program := "ytkoaeiiaagipeaa", sum := "0513db277f3275a99353858bdf17c04cc265bcefe63cc1767a90602797faea7b", func := "fascine/fascinelaw14.MetaApplies", spec := "metaApplies", unfollowed := true, recurses := true, apart := false }
def MetaAppliesSaid : Prop := metaAppliesRow.holds Try.pinned (OpenSpec.ofChange metaAppliesSpec)

/-- ITS FALSE NEIGHBOUR: 'it returns false'. Refute it at one input. -/
def metaAppliesWrong : ChangeSpec := { name := "metaApplies", fn := fun _ => fun
  | [d1, d2] => { results := [.lit (.bool false)], args := [d1, d2] }
  | _ => none }
def MetaAppliesWrongFalsely : Prop := metaAppliesRow.holds Try.pinned (OpenSpec.ofChange metaAppliesWrong)

/-- 'fascinelaw14.MetaStays': WHATEVER THE INPUT: true; the input reads as it did. -/
def metaStaysSpec : ChangeSpec := { name := "metaStays", fn := fun _ => fun
  | [d1, d2, d3, d4] => { results := [.lit (.bool true)], args := [d1, d2, d3, d4] }
  | _ => none }
def metaStaysRow : OpenClaim := { program := "ytkoaeiiaagipeaa", sum := "0513db277f3275a99353858bdf17c04cc265bcefe63cc1767a90602797faea7b", func := "fascine/fascinelaw14.MetaStays", spec := "metaStays", unfollowed := true, recurses := true, apart := false }
def MetaStaysSaid : Prop := metaStaysRow.holds Try.pinned (OpenSpec.ofChange metaStaysSpec)

/-- ITS FALSE NEIGHBOUR: 'it returns false'. Refute it at one input. -/
def metaStaysWrong : ChangeSpec := { name := "metaStays", fn := fun _ => fun
  | [d1, d2, d3, d4] => { results := [.lit (.bool false)], args := [d1, d2, d3, d4] }
  | _ => none }
def MetaStaysWrongFalsely : Prop := metaStaysRow.holds Try.pinned (OpenSpec.ofChange metaStaysWrong)

/-- 'fascinelaw14.MetaMoves': WHATEVER THE INPUT: true; the input reads as it did. -/
def metaMovesSpec : ChangeSpec := { name := "metaMoves", fn := fun _ => fun
  | [d1, d2, d3] => { results := [.lit (.bool true)], args := [d1, d2, d3] }
  | _ => none }
def metaMovesRow : OpenClaim := { program := "ytkoaeiiaagipeaa", sum := "0513db277f3275a99353858bdf17c04cc265bcefe63cc1767a90602797faea7b", func := "fascine/fascinelaw14.MetaMoves", spec := "metaMoves", unfollowed := true, recurses := true, apart := false }
def MetaMovesSaid : Prop := metaMovesRow.holds Try.pinned (OpenSpec.ofChange metaMovesSpec)

/-- ITS FALSE NEIGHBOUR: 'it returns false'. Refute it at one input. -/
def metaMovesWrong : ChangeSpec := { name := "metaMoves", fn := fun _ => fun
  | [d1, d2, d3] => { results := [.lit (.bool false)], args := [d1, d2, d3] }
  | _ => none }
def MetaMovesWrongFalsely : Prop := metaMovesRow.holds Try.pinned (OpenSpec.ofChange metaMovesWrong)

/-- 'fascinelaw19.PrimGrows': WHATEVER THE INPUT: true; the input reads as it did. -/
def primGrowsSpec : ChangeSpec := { name := "primGrows", fn := fun _ => fun
  | [d1, d2] => { results := [.lit (.bool true)], args := [d1, d2] }
  | _ => none }
def primGrowsRow : OpenClaim := { program := "ytkoaeiiaagipeaa", sum := "0513db277f3275a99353858bdf17c04cc265bcefe63cc1767a90602797faea7b", func := "fascine/fascinelaw19.PrimGrows", spec := "primGrows", recurses := true, apart := false }
def PrimGrowsSaid : Prop := primGrowsRow.holds Try.pinned (OpenSpec.ofChange primGrowsSpec)

/-- ITS FALSE NEIGHBOUR: 'it returns false'. Refute it at one input. -/
def primGrowsWrong : ChangeSpec := { name := "primGrows", fn := fun _ => fun
  | [d1, d2] => { results := [.lit (.bool false)], args := [d1, d2] }
  | _ => none }
def PrimGrowsWrongFalsely : Prop := primGrowsRow.holds Try.pinned (OpenSpec.ofChange primGrowsWrong)

/-- 'fascinelaw19.PrimLeaves': WHATEVER THE INPUT: true; the input reads as it did. -/
def primLeavesSpec : ChangeSpec := { name := "primLeaves", fn := fun _ => fun
  | [d1, d2] => { results := [.lit (.bool true)], args := [d1, d2] }
  | _ => none }
def primLeavesRow : OpenClaim := { program := "ytkoaeiiaagipeaa", sum := "0513db277f3275a99353858bdf17c04cc265bcefe63cc1767a90602797faea7b", func := "fascine/fascinelaw19.PrimLeaves", spec := "primLeaves", recurses := true, apart := false }
def PrimLeavesSaid : Prop := primLeavesRow.holds Try.pinned (OpenSpec.ofChange primLeavesSpec)

/-- ITS FALSE NEIGHBOUR: 'it returns false'. Refute it at one input. -/
def primLeavesWrong : ChangeSpec := { name := "primLeaves", fn := fun _ => fun
  | [d1, d2] => { results := [.lit (.bool false)], args := [d1, d2] }
  | _ => none }
def PrimLeavesWrongFalsely : Prop := primLeavesRow.holds Try.pinned (OpenSpec.ofChange primLeavesWrong)

/-- 'fascinelaw19.PrimSafe': WHATEVER THE INPUT: true; the input reads as it did. -/
def primSafeSpec : ChangeSpec := { name := "primSafe", fn := fun _ => fun
  | [d1, d2, d3, d4, d5] => { results := [.lit (.bool true)], args := [d1, d2, d3, d4, d5] }
  | _ => none }
def primSafeRow : OpenClaim := { program := "ytkoaeiiaagipeaa", sum := "0513db277f3275a99353858bdf17c04cc265bcefe63cc1767a90602797faea7b", func := "fascine/fascinelaw19.PrimSafe", spec := "primSafe", recurses := true, apart := false }
def PrimSafeSaid : Prop := primSafeRow.holds Try.pinned (OpenSpec.ofChange primSafeSpec)

/-- ITS FALSE NEIGHBOUR: 'it returns false'. Refute it at one input. -/
def primSafeWrong : ChangeSpec := { name := "primSafe", fn := fun _ => fun
  | [d1, d2, d3, d4, d5] => { results := [.lit (.bool false)], args := [d1, d2, d3, d4, d5] }
  | _ => none }
def PrimSafeWrongFalsely : Prop := primSafeRow.holds Try.pinned (OpenSpec.ofChange primSafeWrong)

/-- 'fascinelaw14.MetaPlans': WHATEVER THE INPUT: true; the input reads as it did. -/
def metaPlansSpec : ChangeSpec := { name := "metaPlans", fn := fun _ => fun
  | [d] => { results := [.lit (.bool true)], args := [d] }
  | _ => none }
def metaPlansRow : OpenClaim := { program := "ytkoaeiiaagipeaa", sum := "0513db277f3275a99353858bdf17c04cc265bcefe63cc1767a90602797faea7b", func := "fascine/fascinelaw14.MetaPlans", spec := "metaPlans", unfollowed := true, recurses := true, apart := false }
def MetaPlansSaid : Prop := metaPlansRow.holds Try.pinned (OpenSpec.ofChange metaPlansSpec)

/-- ITS FALSE NEIGHBOUR: 'it returns false'. Refute it at one input. -/
def metaPlansWrong : ChangeSpec := { name := "metaPlans", fn := fun _ => fun
  | [d] => { results := [.lit (.bool false)], args := [d] }
  | _ => none }
def MetaPlansWrongFalsely : Prop := metaPlansRow.holds Try.pinned (OpenSpec.ofChange metaPlansWrong)

/-- 'fascinelaw14.MetaEvens': WHATEVER THE INPUT: true; the input reads as it did. -/
def metaEvensSpec : ChangeSpec := { name := "metaEvens", fn := fun _ => fun
  | [d1, d2, d3, d4] => { results := [.lit (.bool true)], args := [d1, d2, d3, d4] }
  | _ => none }
def metaEvensRow : OpenClaim := { program := "ytkoaeiiaagipeaa", sum := "0513db277f3275a99353858bdf17c04cc265bcefe63cc1767a90602797faea7b", func := "fascine/fascinelaw14.MetaEvens", spec := "metaEvens", unfollowed := true, recurses := true, apart := false }
def MetaEvensSaid : Prop := metaEvensRow.holds Try.pinned (OpenSpec.ofChange metaEvensSpec)

/-- ITS FALSE NEIGHBOUR: 'it returns false'. Refute it at one input. -/
def metaEvensWrong : ChangeSpec := { name := "metaEvens", fn := fun _ => fun
  | [d1, d2, d3, d4] => { results := [.lit (.bool false)], args := [d1, d2, d3, d4] }
  | _ => none }
def MetaEvensWrongFalsely : Prop := metaEvensRow.holds Try.pinned (OpenSpec.ofChange metaEvensWrong)

/-- 'fascinelaw19.PrimPlays': WHATEVER THE INPUT: true; the input reads as it did. -/
def primPlaysSpec : ChangeSpec := { name := "primPlays", fn := fun _ => fun
  | [d1, d2, d3, d4, d5, d6] => { results := [.lit (.bool true)], args := [d1, d2, d3, d4, d5, d6] }
  | _ => none }
def primPlaysRow : OpenClaim := { program := "ytkoaeiiaagipeaa", sum := "0513db277f3275a99353858bdf17c04cc265bcefe63cc1767a90602797faea7b", func := "fascine/fascinelaw19.PrimPlays", spec := "primPlays", recurses := true, apart := false }
def PrimPlaysSaid : Prop := primPlaysRow.holds Try.pinned (OpenSpec.ofChange primPlaysSpec)

/-- ITS FALSE NEIGHBOUR: 'it returns false'. Refute it at one input. -/
def primPlaysWrong : ChangeSpec := { name := "primPlays", fn := fun _ => fun
  | [d1, d2, d3, d4, d5, d6] => { results := [.lit (.bool false)], args := [d1, d2, d3, d4, d5, d6] }
  | _ => none }
def PrimPlaysWrongFalsely : Prop := primPlaysRow.holds Try.pinned (OpenSpec.ofChange primPlaysWrong)

/-- 'fascinelaw19.PrimNil': WHATEVER THE INPUT: true; the input reads as it did. -/
def primNilSpec : ChangeSpec := { name := "primNil", fn := fun _ => fun
  | [d1, d2, d3, d4] => { results := [.lit (.bool true)], args := [d1, d2, d3, d4] }
  | _ => none }
def primNilRow : OpenClaim := { program := "ytkoaeiiaagipeaa", sum := "0513db277f3275a99353858bdf17c04cc265bcefe63cc1767a90602797faea7b", func := "fascine/fascinelaw19.PrimNil", spec := "primNil", recurses := true, apart := false }
def PrimNilSaid : Prop := primNilRow.holds Try.pinned (OpenSpec.ofChange primNilSpec)

/-- ITS FALSE NEIGHBOUR: 'it returns false'. Refute it at one input. -/
def primNilWrong : ChangeSpec := { name := "primNil", fn := fun _ => fun
  | [d1, d2, d3, d4] => { results := [.lit (.bool false)], args := [d1, d2, d3, d4] }
  | _ => none }
def PrimNilWrongFalsely : Prop := primNilRow.holds Try.pinned (OpenSpec.ofChange primNilWrong)

/-- 'fascinelaw14.MetaCodes': WHATEVER THE INPUT: true; the input reads as it did. -/
def metaCodesSpec : ChangeSpec := { name := "metaCodes", fn := fun _ => fun
  | [d1, d2] => { results := [.lit (.bool true)], args := [d1, d2] }
  | _ => none }
def metaCodesRow : OpenClaim := { program := "ytkoaeiiaagipeaa", sum := "0513db277f3275a99353858bdf17c04cc265bcefe63cc1767a90602797faea7b", func := "fascine/fascinelaw14.MetaCodes", spec := "metaCodes", unfollowed := true, recurses := true, apart := false }
def MetaCodesSaid : Prop := metaCodesRow.holds Try.pinned (OpenSpec.ofChange metaCodesSpec)

/-- ITS FALSE NEIGHBOUR: 'it returns false'. Refute it at one input. -/
def metaCodesWrong : ChangeSpec := { name := "metaCodes", fn := fun _ => fun
  | [d1, d2] => { results := [.lit (.bool false)], args := [d1, d2] }
  | _ => none }
def MetaCodesWrongFalsely : Prop := metaCodesRow.holds Try.pinned (OpenSpec.ofChange metaCodesWrong)

/- THE SECOND FORM. 'bulk': how many values and letters a reading holds, each counted each time it is reached (what is shared counts as often as it is met; a slice's spare places count too). A statement '..UptoSaid' is the law's where the arguments, and the package variables that the reading takes, are together of bulk at most 1048576: NARROWER than '..Said'. Prove '..Said' where nothing that the law and all that it calls make is longer than what came in: it says more and counts as full. Else prove '..UptoSaid'. A law counts once. -/
mutual
def uptoBulk {H : Type} : DataW H → Nat
  | .lit (.string bytes) => bytes.length + 1
  | .lit _ => 1
  | .nil => 1
  | .ptr d => uptoBulk d + 1
  | .slice elems spare => uptoBulkAll elems + uptoBulkAll spare + 1
  | .agg parts => uptoBulkAll parts + 1
  | .iface _ d => uptoBulk d + 1
  | .map entries => uptoBulkEntries entries + 1
  | .held _ => 1
def uptoBulkAll {H : Type} : List (DataW H) → Nat
  | [] => 0
  | d :: r => uptoBulk d + uptoBulkAll r
def uptoBulkEntries {H : Type} : List (Lit × DataW H) → Nat
  | [] => 0
  | x :: r => uptoBulkEntry x + uptoBulkEntries r
def uptoBulkEntry {H : Type} : Lit × DataW H → Nat
  | (.string bytes, d) => bytes.length + uptoBulk d + 1
  | (_, d) => uptoBulk d + 1
 end
def uptoSmall : (H : Type) → List (DataW H) → Bool := fun _ ds => decide (uptoBulkAll ds ≤ 1048576)
def OpenSpec.upto (s : _root_.Go.ChangeSpec) : _root_.Go.OpenSpec := { _root_.Go.OpenSpec.ofChange s with cond := some uptoSmall }

/-- 'fascinelaw14.MetaNews', WHERE WHAT IT READS IS OF BULK AT MOST 1048576: true; the input reads as it did. -/
def metaNewsUptoRow : OpenClaim := { program := "ytkoaeiiaagipeaa", sum := "0513db277f3275a99353858bdf17c04cc265bcefe63cc1767a90602797faea7b", func := "fascine/fascinelaw14.MetaNews", spec := "metaNews", unfollowed := true, recurses := true, apart := false, narrowed := true }
def MetaNewsUptoSaid : Prop := metaNewsUptoRow.holds Try.pinned (OpenSpec.upto metaNewsSpec)

/-- 'fascinelaw14.MetaApplies', WHERE WHAT IT READS IS OF BULK AT MOST 1048576: true; the input reads as it did. -/
def metaAppliesUptoRow : OpenClaim := { program := "ytkoaeiiaagipeaa", sum := "0513db277f3275a99353858bdf17c04cc265bcefe63cc1767a90602797faea7b", func := "fascine/fascinelaw14.MetaApplies", spec := "metaApplies", unfollowed := true, recurses := true, apart := false, narrowed := true }
def MetaAppliesUptoSaid : Prop := metaAppliesUptoRow.holds Try.pinned (OpenSpec.upto metaAppliesSpec)

/-- 'fascinelaw14.MetaStays', WHERE WHAT IT READS IS OF BULK AT MOST 1048576: true; the input reads as it did. -/
def metaStaysUptoRow : OpenClaim := { program := "ytkoaeiiaagipeaa", sum := "0513db277f3275a99353858bdf17c04cc265bcefe63cc1767a90602797faea7b", func := "fascine/fascinelaw14.MetaStays", spec := "metaStays", unfollowed := true, recurses := true, apart := false, narrowed := true }
def MetaStaysUptoSaid : Prop := metaStaysUptoRow.holds Try.pinned (OpenSpec.upto metaStaysSpec)

/-- 'fascinelaw14.MetaMoves', WHERE WHAT IT READS IS OF BULK AT MOST 1048576: true; the input reads as it did. -/
def metaMovesUptoRow : OpenClaim := { program := "ytkoaeiiaagipeaa", sum := "0513db277f3275a99353858bdf17c04cc265bcefe63cc1767a90602797faea7b", func := "fascine/fascinelaw14.MetaMoves", spec := "metaMoves", unfollowed := true, recurses := true, apart := false, narrowed := true }
def MetaMovesUptoSaid : Prop := metaMovesUptoRow.holds Try.pinned (OpenSpec.upto metaMovesSpec)

/-- 'fascinelaw19.PrimGrows', WHERE WHAT IT READS IS OF BULK AT MOST 1048576: true; the input reads as it did. -/
def primGrowsUptoRow : OpenClaim := { program := "ytkoaeiiaagipeaa", sum := "0513db277f3275a99353858bdf17c04cc265bcefe63cc1767a90602797faea7b", func := "fascine/fascinelaw19.PrimGrows", spec := "primGrows", recurses := true, apart := false, narrowed := true }
def PrimGrowsUptoSaid : Prop := primGrowsUptoRow.holds Try.pinned (OpenSpec.upto primGrowsSpec)

/-- 'fascinelaw19.PrimLeaves', WHERE WHAT IT READS IS OF BULK AT MOST 1048576: true; the input reads as it did. -/
def primLeavesUptoRow : OpenClaim := { program := "ytkoaeiiaagipeaa", sum := "0513db277f3275a99353858bdf17c04cc265bcefe63cc1767a90602797faea7b", func := "fascine/fascinelaw19.PrimLeaves", spec := "primLeaves", recurses := true, apart := false, narrowed := true }
def PrimLeavesUptoSaid : Prop := primLeavesUptoRow.holds Try.pinned (OpenSpec.upto primLeavesSpec)

/-- 'fascinelaw19.PrimSafe', WHERE WHAT IT READS IS OF BULK AT MOST 1048576: true; the input reads as it did. -/
def primSafeUptoRow : OpenClaim := { program := "ytkoaeiiaagipeaa", sum := "0513db277f3275a99353858bdf17c04cc265bcefe63cc1767a90602797faea7b", func := "fascine/fascinelaw19.PrimSafe", spec := "primSafe", recurses := true, apart := false, narrowed := true }
def PrimSafeUptoSaid : Prop := primSafeUptoRow.holds Try.pinned (OpenSpec.upto primSafeSpec)

/-- 'fascinelaw14.MetaPlans', WHERE WHAT IT READS IS OF BULK AT MOST 1048576: true; the input reads as it did. -/
def metaPlansUptoRow : OpenClaim := { program := "ytkoaeiiaagipeaa", sum := "0513db277f3275a99353858bdf17c04cc265bcefe63cc1767a90602797faea7b", func := "fascine/fascinelaw14.MetaPlans", spec := "metaPlans", unfollowed := true, recurses := true, apart := false, narrowed := true }
def MetaPlansUptoSaid : Prop := metaPlansUptoRow.holds Try.pinned (OpenSpec.upto metaPlansSpec)

/-- 'fascinelaw14.MetaEvens', WHERE WHAT IT READS IS OF BULK AT MOST 1048576: true; the input reads as it did. -/
def metaEvensUptoRow : OpenClaim := { program := "ytkoaeiiaagipeaa", sum := "0513db277f3275a99353858bdf17c04cc265bcefe63cc1767a90602797faea7b", func := "fascine/fascinelaw14.MetaEvens", spec := "metaEvens", unfollowed := true, recurses := true, apart := false, narrowed := true }
def MetaEvensUptoSaid : Prop := metaEvensUptoRow.holds Try.pinned (OpenSpec.upto metaEvensSpec)

/-- 'fascinelaw19.PrimPlays', WHERE WHAT IT READS IS OF BULK AT MOST 1048576: true; the input reads as it did. -/
def primPlaysUptoRow : OpenClaim := { program := "ytkoaeiiaagipeaa", sum := "0513db277f3275a99353858bdf17c04cc265bcefe63cc1767a90602797faea7b", func := "fascine/fascinelaw19.PrimPlays", spec := "primPlays", recurses := true, apart := false, narrowed := true }
def PrimPlaysUptoSaid : Prop := primPlaysUptoRow.holds Try.pinned (OpenSpec.upto primPlaysSpec)

/-- 'fascinelaw19.PrimNil', WHERE WHAT IT READS IS OF BULK AT MOST 1048576: true; the input reads as it did. -/
def primNilUptoRow : OpenClaim := { program := "ytkoaeiiaagipeaa", sum := "0513db277f3275a99353858bdf17c04cc265bcefe63cc1767a90602797faea7b", func := "fascine/fascinelaw19.PrimNil", spec := "primNil", recurses := true, apart := false, narrowed := true }
def PrimNilUptoSaid : Prop := primNilUptoRow.holds Try.pinned (OpenSpec.upto primNilSpec)

/-- 'fascinelaw14.MetaCodes', WHERE WHAT IT READS IS OF BULK AT MOST 1048576: true; the input reads as it did. -/
def metaCodesUptoRow : OpenClaim := { program := "ytkoaeiiaagipeaa", sum := "0513db277f3275a99353858bdf17c04cc265bcefe63cc1767a90602797faea7b", func := "fascine/fascinelaw14.MetaCodes", spec := "metaCodes", unfollowed := true, recurses := true, apart := false, narrowed := true }
def MetaCodesUptoSaid : Prop := metaCodesUptoRow.holds Try.pinned (OpenSpec.upto metaCodesSpec)

end Rows
end Go.Proofs.Ytkoaeiiaagipeaa
