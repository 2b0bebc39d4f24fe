/-
  No cell of these rows narrows 'for every input' (looked for: loops, veiled, ifaces, maps, wideKeys, modest, calm, conditions, laid).
  DERIVED. THE GIVEN ROWS OF THIS SEAT. 17 by the template 'for every input the law returns true; each argument reads behind the call as it read before'; 0 by the template 'total and deterministic' (their statements: YtifbpjkgckkalaaTotals.lean).
  GIVEN WITH THE SEED: the statements are not yours to turn. If you find one false, say at which input.
  Laid BY PROGRAM, IN A SANDBOX (cutbox-rows.mjs): the forced cells as the released guide's own fill.sh prints them over the translation 4c569cece782ee84… (all of the seat's roots in one cut). By AI agents, Wed Nov 11 2026. No macro, syntax, notation, axiom, sorry.
-/
import Derived.Test.YtifbpjkgckkalaaChecked
import GoSem.Claim
import GoSem.ClaimJoined
import GoSem.ClaimMapViews
import Derived.JoinedTies
import Derived.KernelRfl
namespace Go.Proofs.Ytifbpjkgckkalaa
/- THE CELL 'sum', in the pinned program and in every row, IS THE sha256 OF THE DUMP (.gsa) THAT YtifbpjkgckkalaaProg.lean LOADS. Nothing in Lean hashes anything: it is a label: what it is worth is what the hold of that sum in a sandbox is worth. -/
noncomputable def Try.pinned : Pinned := { name := "ytifbpjkgckkalaa", sum := "4c569cece782ee84da5c71b6092c22dcddfc1fb4e7ccd46abf088b10903d8d97", checked := Try.checked }
namespace Rows
def none {H : Type} : Left H := { results := [], args := [] }

/-- 'fascinelaw01.PackSums': WHATEVER THE INPUT: true; the input reads as it did. -/
def packSumsSpec : ChangeSpec := { name := "packSums", fn := fun _ => fun
  | [d1, d2, d3] => { results := [.lit (.bool true)], args := [d1, d2, d3] }
  | _ => none }
def packSumsRow : OpenClaim := { program := "ytifbpjkgckkalaa", sum := "4c569cece782ee84da5c71b6092c22dcddfc1fb4e7ccd46abf088b10903d8d97", func := "fascine/fascinelaw01.PackSums", spec := "packSums", apart := false }
def PackSumsSaid : Prop := packSumsRow.holds Try.pinned (OpenSpec.ofChange packSumsSpec)

/-- ITS FALSE NEIGHBOUR: 'it returns false'. Refute it at one input. -/
def packSumsWrong : ChangeSpec := { name := "packSums", fn := fun _ => fun
  | [d1, d2, d3] => { results := [.lit (.bool false)], args := [d1, d2, d3] }
  | _ => none }
def PackSumsWrongFalsely : Prop := packSumsRow.holds Try.pinned (OpenSpec.ofChange packSumsWrong)

/-- 'fascinelaw01.PackCanon': WHATEVER THE INPUT: true; the input reads as it did. -/
def packCanonSpec : ChangeSpec := { name := "packCanon", fn := fun _ => fun
  | [d1, d2] => { results := [.lit (.bool true)], args := [d1, d2] }
  | _ => none }
def packCanonRow : OpenClaim := { program := "ytifbpjkgckkalaa", sum := "4c569cece782ee84da5c71b6092c22dcddfc1fb4e7ccd46abf088b10903d8d97", func := "fascine/fascinelaw01.PackCanon", spec := "packCanon", apart := false }
def PackCanonSaid : Prop := packCanonRow.holds Try.pinned (OpenSpec.ofChange packCanonSpec)

/-- ITS FALSE NEIGHBOUR: 'it returns false'. Refute it at one input. -/
def packCanonWrong : ChangeSpec := { name := "packCanon", fn := fun _ => fun
  | [d1, d2] => { results := [.lit (.bool false)], args := [d1, d2] }
  | _ => none }
def PackCanonWrongFalsely : Prop := packCanonRow.holds Try.pinned (OpenSpec.ofChange packCanonWrong)

/-- 'fascinelaw01.PackNumbers': WHATEVER THE INPUT: true; the input reads as it did. -/
def packNumbersSpec : ChangeSpec := { name := "packNumbers", fn := fun _ => fun
  | [d1, d2] => { results := [.lit (.bool true)], args := [d1, d2] }
  | _ => none }
def packNumbersRow : OpenClaim := { program := "ytifbpjkgckkalaa", sum := "4c569cece782ee84da5c71b6092c22dcddfc1fb4e7ccd46abf088b10903d8d97", func := "fascine/fascinelaw01.PackNumbers", spec := "packNumbers", apart := false }
def PackNumbersSaid : Prop := packNumbersRow.holds Try.pinned (OpenSpec.ofChange packNumbersSpec)

/-- ITS FALSE NEIGHBOUR: 'it returns false'. Refute it at one input. -/
def packNumbersWrong : ChangeSpec := { name := "packNumbers", fn := fun _ => fun
  | [d1, d2] => { results := [.lit (.bool false)], args := [d1, d2] }
  | _ => none }
def PackNumbersWrongFalsely : Prop := packNumbersRow.holds Try.pinned (OpenSpec.ofChange packNumbersWrong)

/-- 'fascinelaw01.PackReads': WHATEVER THE INPUT: true; the input reads as it did. -/
def packReadsSpec : ChangeSpec := { name := "packReads", fn := fun _ => fun
  | [d1, d2, d3] => { results := [.lit (.bool true)], args := [d1, d2, d3] }
  | _ => none }
def packReadsRow : OpenClaim := { program := "ytifbpjkgckkalaa", sum := "4c569cece782ee84da5c71b6092c22dcddfc1fb4e7ccd46abf088b10903d8d97", func := "fascine/fascinelaw01.PackReads", spec := "packReads", apart := false }
def PackReadsSaid : Prop := packReadsRow.holds Try.pinned (OpenSpec.ofChange packReadsSpec)

/-- ITS FALSE NEIGHBOUR: 'it returns false'. Refute it at one input. -/
def packReadsWrong : ChangeSpec := { name := "packReads", fn := fun _ => fun
  | [d1, d2, d3] => { results := [.lit (.bool false)], args := [d1, d2, d3] }
  | _ => none }
def PackReadsWrongFalsely : Prop := packReadsRow.holds Try.pinned (OpenSpec.ofChange packReadsWrong)

/-- 'fascinelaw01.PackTexts': WHATEVER THE INPUT: true; the input reads as it did. -/
def packTextsSpec : ChangeSpec := { name := "packTexts", fn := fun _ => fun
  | [d1, d2, d3] => { results := [.lit (.bool true)], args := [d1, d2, d3] }
  | _ => none }
def packTextsRow : OpenClaim := { program := "ytifbpjkgckkalaa", sum := "4c569cece782ee84da5c71b6092c22dcddfc1fb4e7ccd46abf088b10903d8d97", func := "fascine/fascinelaw01.PackTexts", spec := "packTexts", apart := false }
def PackTextsSaid : Prop := packTextsRow.holds Try.pinned (OpenSpec.ofChange packTextsSpec)

/-- ITS FALSE NEIGHBOUR: 'it returns false'. Refute it at one input. -/
def packTextsWrong : ChangeSpec := { name := "packTexts", fn := fun _ => fun
  | [d1, d2, d3] => { results := [.lit (.bool false)], args := [d1, d2, d3] }
  | _ => none }
def PackTextsWrongFalsely : Prop := packTextsRow.holds Try.pinned (OpenSpec.ofChange packTextsWrong)

/-- 'fascinelaw01.PackRuns': WHATEVER THE INPUT: true; the input reads as it did. -/
def packRunsSpec : ChangeSpec := { name := "packRuns", fn := fun _ => fun
  | [d1, d2] => { results := [.lit (.bool true)], args := [d1, d2] }
  | _ => none }
def packRunsRow : OpenClaim := { program := "ytifbpjkgckkalaa", sum := "4c569cece782ee84da5c71b6092c22dcddfc1fb4e7ccd46abf088b10903d8d97", func := "fascine/fascinelaw01.PackRuns", spec := "packRuns", apart := false }
def PackRunsSaid : Prop := packRunsRow.holds Try.pinned (OpenSpec.ofChange packRunsSpec)

/-- ITS FALSE NEIGHBOUR: 'it returns false'. Refute it at one input. -/
def packRunsWrong : ChangeSpec := { name := "packRuns", fn := fun _ => fun
  | [d1, d2] => { results := [.lit (.bool false)], args := [d1, d2] }
  | _ => none }
def PackRunsWrongFalsely : Prop := packRunsRow.holds Try.pinned (OpenSpec.ofChange packRunsWrong)

/-- 'fascinelaw08.PostCodes': WHATEVER THE INPUT: true; the input reads as it did. -/
def postCodesSpec : ChangeSpec := { name := "postCodes", fn := fun _ => fun
  | [d1, d2] => { results := [.lit (.bool true)], args := [d1, d2] }
  | _ => none }
def postCodesRow : OpenClaim := { program := "ytifbpjkgckkalaa", sum := "4c569cece782ee84da5c71b6092c22dcddfc1fb4e7ccd46abf088b10903d8d97", func := "fascine/fascinelaw08.PostCodes", spec := "postCodes", apart := false }
def PostCodesSaid : Prop := postCodesRow.holds Try.pinned (OpenSpec.ofChange postCodesSpec)

/-- ITS FALSE NEIGHBOUR: 'it returns false'. Refute it at one input. -/
def postCodesWrong : ChangeSpec := { name := "postCodes", fn := fun _ => fun
  | [d1, d2] => { results := [.lit (.bool false)], args := [d1, d2] }
  | _ => none }
def PostCodesWrongFalsely : Prop := postCodesRow.holds Try.pinned (OpenSpec.ofChange postCodesWrong)

/-- 'fascinelaw08.PostReads': WHATEVER THE INPUT: true; the input reads as it did. -/
def postReadsSpec : ChangeSpec := { name := "postReads", fn := fun _ => fun
  | [d1, d2, d3] => { results := [.lit (.bool true)], args := [d1, d2, d3] }
  | _ => none }
def postReadsRow : OpenClaim := { program := "ytifbpjkgckkalaa", sum := "4c569cece782ee84da5c71b6092c22dcddfc1fb4e7ccd46abf088b10903d8d97", func := "fascine/fascinelaw08.PostReads", spec := "postReads", apart := false }
def PostReadsSaid : Prop := postReadsRow.holds Try.pinned (OpenSpec.ofChange postReadsSpec)

/-- ITS FALSE NEIGHBOUR: 'it returns false'. Refute it at one input. -/
def postReadsWrong : ChangeSpec := { name := "postReads", fn := fun _ => fun
  | [d1, d2, d3] => { results := [.lit (.bool false)], args := [d1, d2, d3] }
  | _ => none }
def PostReadsWrongFalsely : Prop := postReadsRow.holds Try.pinned (OpenSpec.ofChange postReadsWrong)

/-- 'fascinelaw08.PostSteps': WHATEVER THE INPUT: true; the input reads as it did. -/
def postStepsSpec : ChangeSpec := { name := "postSteps", fn := fun _ => fun
  | [d1, d2] => { results := [.lit (.bool true)], args := [d1, d2] }
  | _ => none }
def postStepsRow : OpenClaim := { program := "ytifbpjkgckkalaa", sum := "4c569cece782ee84da5c71b6092c22dcddfc1fb4e7ccd46abf088b10903d8d97", func := "fascine/fascinelaw08.PostSteps", spec := "postSteps", apart := false }
def PostStepsSaid : Prop := postStepsRow.holds Try.pinned (OpenSpec.ofChange postStepsSpec)

/-- ITS FALSE NEIGHBOUR: 'it returns false'. Refute it at one input. -/
def postStepsWrong : ChangeSpec := { name := "postSteps", fn := fun _ => fun
  | [d1, d2] => { results := [.lit (.bool false)], args := [d1, d2] }
  | _ => none }
def PostStepsWrongFalsely : Prop := postStepsRow.holds Try.pinned (OpenSpec.ofChange postStepsWrong)

/-- 'fascinelaw01.PackFrames': WHATEVER THE INPUT: true; the input reads as it did. -/
def packFramesSpec : ChangeSpec := { name := "packFrames", fn := fun _ => fun
  | [d1, d2, d3] => { results := [.lit (.bool true)], args := [d1, d2, d3] }
  | _ => none }
def packFramesRow : OpenClaim := { program := "ytifbpjkgckkalaa", sum := "4c569cece782ee84da5c71b6092c22dcddfc1fb4e7ccd46abf088b10903d8d97", func := "fascine/fascinelaw01.PackFrames", spec := "packFrames", apart := false }
def PackFramesSaid : Prop := packFramesRow.holds Try.pinned (OpenSpec.ofChange packFramesSpec)

/-- ITS FALSE NEIGHBOUR: 'it returns false'. Refute it at one input. -/
def packFramesWrong : ChangeSpec := { name := "packFrames", fn := fun _ => fun
  | [d1, d2, d3] => { results := [.lit (.bool false)], args := [d1, d2, d3] }
  | _ => none }
def PackFramesWrongFalsely : Prop := packFramesRow.holds Try.pinned (OpenSpec.ofChange packFramesWrong)

/-- 'fascinelaw01.PackTorn': WHATEVER THE INPUT: true; the input reads as it did. -/
def packTornSpec : ChangeSpec := { name := "packTorn", fn := fun _ => fun
  | [d1, d2, d3, d4, d5] => { results := [.lit (.bool true)], args := [d1, d2, d3, d4, d5] }
  | _ => none }
def packTornRow : OpenClaim := { program := "ytifbpjkgckkalaa", sum := "4c569cece782ee84da5c71b6092c22dcddfc1fb4e7ccd46abf088b10903d8d97", func := "fascine/fascinelaw01.PackTorn", spec := "packTorn", apart := false }
def PackTornSaid : Prop := packTornRow.holds Try.pinned (OpenSpec.ofChange packTornSpec)

/-- ITS FALSE NEIGHBOUR: 'it returns false'. Refute it at one input. -/
def packTornWrong : ChangeSpec := { name := "packTorn", fn := fun _ => fun
  | [d1, d2, d3, d4, d5] => { results := [.lit (.bool false)], args := [d1, d2, d3, d4, d5] }
  | _ => none }
def PackTornWrongFalsely : Prop := packTornRow.holds Try.pinned (OpenSpec.ofChange packTornWrong)

/-- 'fascinelaw08.PostSets': WHATEVER THE INPUT: true; the input reads as it did. -/
def postSetsSpec : ChangeSpec := { name := "postSets", fn := fun _ => fun
  | [d1, d2] => { results := [.lit (.bool true)], args := [d1, d2] }
  | _ => none }
def postSetsRow : OpenClaim := { program := "ytifbpjkgckkalaa", sum := "4c569cece782ee84da5c71b6092c22dcddfc1fb4e7ccd46abf088b10903d8d97", func := "fascine/fascinelaw08.PostSets", spec := "postSets", apart := false }
def PostSetsSaid : Prop := postSetsRow.holds Try.pinned (OpenSpec.ofChange postSetsSpec)

/-- ITS FALSE NEIGHBOUR: 'it returns false'. Refute it at one input. -/
def postSetsWrong : ChangeSpec := { name := "postSets", fn := fun _ => fun
  | [d1, d2] => { results := [.lit (.bool false)], args := [d1, d2] }
  | _ => none }
def PostSetsWrongFalsely : Prop := postSetsRow.holds Try.pinned (OpenSpec.ofChange postSetsWrong)

/-- 'fascinelaw08.PostLaws': WHATEVER THE INPUT: true; the input reads as it did. -/
def postLawsSpec : ChangeSpec := { name := "postLaws", fn := fun _ => fun
  | [d1, d2, d3] => { results := [.lit (.bool true)], args := [d1, d2, d3] }
  | _ => none }
def postLawsRow : OpenClaim := { program := "ytifbpjkgckkalaa", sum := "4c569cece782ee84da5c71b6092c22dcddfc1fb4e7ccd46abf088b10903d8d97", func := "fascine/fascinelaw08.PostLaws", spec := "postLaws", apart := false }
def PostLawsSaid : Prop := postLawsRow.holds Try.pinned (OpenSpec.ofChange postLawsSpec)

/-- ITS FALSE NEIGHBOUR: 'it returns false'. Refute it at one input. -/
def postLawsWrong : ChangeSpec := { name := "postLaws", fn := fun _ => fun
  | [d1, d2, d3] => { results := [.lit (.bool false)], args := [d1, d2, d3] }
  | _ => none }
def PostLawsWrongFalsely : Prop := postLawsRow.holds Try.pinned (OpenSpec.ofChange postLawsWrong)

/-- 'fascinelaw17.MergeMerges': WHATEVER THE INPUT: true; the input reads as it did. -/
def mergeMergesSpec : ChangeSpec := { name := "mergeMerges", fn := fun _ => fun
  | [d1, d2] => { results := [.lit (.bool true)], args := [d1, d2] }
  | _ => none }
def mergeMergesRow : OpenClaim := { program := "ytifbpjkgckkalaa", sum := "4c569cece782ee84da5c71b6092c22dcddfc1fb4e7ccd46abf088b10903d8d97", func := "fascine/fascinelaw17.MergeMerges", spec := "mergeMerges", unfollowed := true, recurses := true, apart := false }
def MergeMergesSaid : Prop := mergeMergesRow.holds Try.pinned (OpenSpec.ofChange mergeMergesSpec)

/-- ITS FALSE NEIGHBOUR: 'it returns false'. Refute it at one input. -/
def mergeMergesWrong : ChangeSpec := { name := "mergeMerges", fn := fun _ => fun
  | [d1, d2] => { results := [.lit (.bool false)], args := [d1, d2] }
  | _ => none }
def MergeMergesWrongFalsely : Prop := mergeMergesRow.holds Try.pinned (OpenSpec.ofChange mergeMergesWrong)

/-- 'fascinelaw17.MergeSplits': WHATEVER THE INPUT: true; the input reads as it did. -/
def mergeSplitsSpec : ChangeSpec := { name := "mergeSplits", fn := fun _ => fun
  | [d1, d2] => { results := [.lit (.bool true)], args := [d1, d2] }
  | _ => none }
def mergeSplitsRow : OpenClaim := { program := "ytifbpjkgckkalaa", sum := "4c569cece782ee84da5c71b6092c22dcddfc1fb4e7ccd46abf088b10903d8d97", func := "fascine/fascinelaw17.MergeSplits", spec := "mergeSplits", unfollowed := true, recurses := true, apart := false }
def MergeSplitsSaid : Prop := mergeSplitsRow.holds Try.pinned (OpenSpec.ofChange mergeSplitsSpec)

/-- ITS FALSE NEIGHBOUR: 'it returns false'. Refute it at one input. -/
def mergeSplitsWrong : ChangeSpec := { name := "mergeSplits", fn := fun _ => fun
  | [d1, d2] => { results := [.lit (.bool false)], args := [d1, d2] }
  | _ => none }
def MergeSplitsWrongFalsely : Prop := mergeSplitsRow.holds Try.pinned (OpenSpec.ofChange mergeSplitsWrong)

/-- 'fascinelaw17.MergeBehind': WHATEVER THE INPUT: true; the input reads as it did. -/
def mergeBehindSpec : ChangeSpec := { name := "mergeBehind", fn := fun _ => fun
  | [d1, d2, d3] => { results := [.lit (.bool true)], args := [d1, d2, d3] }
  | _ => none }
def mergeBehindRow : OpenClaim := { program := "ytifbpjkgckkalaa", sum := "4c569cece782ee84da5c71b6092c22dcddfc1fb4e7ccd46abf088b10903d8d97", func := "fascine/fascinelaw17.MergeBehind", spec := "mergeBehind", unfollowed := true, recurses := true, apart := false }
def MergeBehindSaid : Prop := mergeBehindRow.holds Try.pinned (OpenSpec.ofChange mergeBehindSpec)

/-- ITS FALSE NEIGHBOUR: 'it returns false'. Refute it at one input. -/
def mergeBehindWrong : ChangeSpec := { name := "mergeBehind", fn := fun _ => fun
  | [d1, d2, d3] => { results := [.lit (.bool false)], args := [d1, d2, d3] }
  | _ => none }
def MergeBehindWrongFalsely : Prop := mergeBehindRow.holds Try.pinned (OpenSpec.ofChange mergeBehindWrong)

/-- 'fascinelaw17.MergePages': WHATEVER THE INPUT: true; the input reads as it did. -/
def mergePagesSpec : ChangeSpec := { name := "mergePages", fn := fun _ => fun
  | [d1, d2] => { results := [.lit (.bool true)], args := [d1, d2] }
  | _ => none }
def mergePagesRow : OpenClaim := { program := "ytifbpjkgckkalaa", sum := "4c569cece782ee84da5c71b6092c22dcddfc1fb4e7ccd46abf088b10903d8d97", func := "fascine/fascinelaw17.MergePages", spec := "mergePages", unfollowed := true, recurses := true, apart := false }
def MergePagesSaid : Prop := mergePagesRow.holds Try.pinned (OpenSpec.ofChange mergePagesSpec)

/-- ITS FALSE NEIGHBOUR: 'it returns false'. Refute it at one input. -/
def mergePagesWrong : ChangeSpec := { name := "mergePages", fn := fun _ => fun
  | [d1, d2] => { results := [.lit (.bool false)], args := [d1, d2] }
  | _ => none }
def MergePagesWrongFalsely : Prop := mergePagesRow.holds Try.pinned (OpenSpec.ofChange mergePagesWrong)

/- THE SECOND FORM. 'bulk': how many values and letters a reading holds, each counted each time it is reached (what is shared counts as often as it is met; a slice's spare places count too). A statement '..UptoSaid' is the law's where the arguments, and the package variables that the reading takes, are together of bulk at most 1048576: NARROWER than '..Said'. Prove '..Said' where nothing that the law and all that it calls make is longer than what came in: it says more and counts as full. Else prove '..UptoSaid'. A law counts once. -/
mutual
def uptoBulk {H : Type} : DataW H → Nat
  | .lit (.string bytes) => bytes.length + 1
  | .lit _ => 1
  | .nil => 1
  | .ptr d => uptoBulk d + 1
  | .slice elems spare => uptoBulkAll elems + uptoBulkAll spare + 1
  | .agg parts => uptoBulkAll parts + 1
  | .iface _ d => uptoBulk d + 1
  | .map entries => uptoBulkEntries entries + 1
  | .held _ => 1
def uptoBulkAll {H : Type} : List (DataW H) → Nat
  | [] => 0
  | d :: r => uptoBulk d + uptoBulkAll r
def uptoBulkEntries {H : Type} : List (Lit × DataW H) → Nat
  | [] => 0
  | x :: r => uptoBulkEntry x + uptoBulkEntries r
def uptoBulkEntry {H : Type} : Lit × DataW H → Nat
  | (.string bytes, d) => bytes.length + uptoBulk d + 1
  | (_, d) => uptoBulk d + 1
 end
def uptoSmall : (H : Type) → List (DataW H) → Bool := fun _ ds => decide (uptoBulkAll ds ≤ 1048576)
def OpenSpec.upto (s : _root_.Go.ChangeSpec) : _root_.Go.OpenSpec := { _root_.Go.OpenSpec.ofChange s with cond := some uptoSmall }

/-- 'fascinelaw01.PackSums', WHERE WHAT IT READS IS OF BULK AT MOST 1048576: true; the input reads as it did. -/
def packSumsUptoRow : OpenClaim := { program := "ytifbpjkgckkalaa", sum := "4c569cece782ee84da5c71b6092c22dcddfc1fb4e7ccd46abf088b10903d8d97", func := "fascine/fascinelaw01.PackSums", spec := "packSums", apart := false, narrowed := true }
def PackSumsUptoSaid : Prop := packSumsUptoRow.holds Try.pinned (OpenSpec.upto packSumsSpec)

/-- 'fascinelaw01.PackCanon', WHERE WHAT IT READS IS OF BULK AT MOST 1048576: true; the input reads as it did. -/
def packCanonUptoRow : OpenClaim := { program := "ytifbpjkgckkalaa", sum := "4c569cece782ee84da5c71b6092c22dcddfc1fb4e7ccd46abf088b10903d8d97", func := "fascine/fascinelaw01.PackCanon", spec := "packCanon", apart := false, narrowed := true }
def PackCanonUptoSaid : Prop := packCanonUptoRow.holds Try.pinned (OpenSpec.upto packCanonSpec)

/-- 'fascinelaw01.PackNumbers', WHERE WHAT IT READS IS OF BULK AT MOST 1048576: true; the input reads as it did. -/
def packNumbersUptoRow : OpenClaim := { program := "ytifbpjkgckkalaa", sum := "4c569cece782ee84da5c71b6092c22dcddfc1fb4e7ccd46abf088b10903d8d97", func := "fascine/fascinelaw01.PackNumbers", spec := "packNumbers", apart := false, narrowed := true }
def PackNumbersUptoSaid : Prop := packNumbersUptoRow.holds Try.pinned (OpenSpec.upto packNumbersSpec)

/-- 'fascinelaw01.PackReads', WHERE WHAT IT READS IS OF BULK AT MOST 1048576: true; the input reads as it did. -/
def packReadsUptoRow : OpenClaim := { program := "ytifbpjkgckkalaa", sum := "4c569cece782ee84da5c71b6092c22dcddfc1fb4e7ccd46abf088b10903d8d97", func := "fascine/fascinelaw01.PackReads", spec := "packReads", apart := false, narrowed := true }
def PackReadsUptoSaid : Prop := packReadsUptoRow.holds Try.pinned (OpenSpec.upto packReadsSpec)

/-- 'fascinelaw01.PackTexts', WHERE WHAT IT READS IS OF BULK AT MOST 1048576: true; the input reads as it did. -/
def packTextsUptoRow : OpenClaim := { program := "ytifbpjkgckkalaa", sum := "4c569cece782ee84da5c71b6092c22dcddfc1fb4e7ccd46abf088b10903d8d97", func := "fascine/fascinelaw01.PackTexts", spec := "packTexts", apart := false, narrowed := true }
def PackTextsUptoSaid : Prop := packTextsUptoRow.holds Try.pinned (OpenSpec.upto packTextsSpec)

/-- 'fascinelaw01.PackRuns', WHERE WHAT IT READS IS OF BULK AT MOST 1048576: true; the input reads as it did. -/
def packRunsUptoRow : OpenClaim := { program := "ytifbpjkgckkalaa", sum := "4c569cece782ee84da5c71b6092c22dcddfc1fb4e7ccd46abf088b10903d8d97", func := "fascine/fascinelaw01.PackRuns", spec := "packRuns", apart := false, narrowed := true }
def PackRunsUptoSaid : Prop := packRunsUptoRow.holds Try.pinned (OpenSpec.upto packRunsSpec)

/-- 'fascinelaw08.PostCodes', WHERE WHAT IT READS IS OF BULK AT MOST 1048576: true; the input reads as it did. -/
def postCodesUptoRow : OpenClaim := { program := "ytifbpjkgckkalaa", sum := "4c569cece782ee84da5c71b6092c22dcddfc1fb4e7ccd46abf088b10903d8d97", func := "fascine/fascinelaw08.PostCodes", spec := "postCodes", apart := false, narrowed := true }
def PostCodesUptoSaid : Prop := postCodesUptoRow.holds Try.pinned (OpenSpec.upto postCodesSpec)

/-- 'fascinelaw08.PostReads', WHERE WHAT IT READS IS OF BULK AT MOST 1048576: true; the input reads as it did. -/
def postReadsUptoRow : OpenClaim := { program := "ytifbpjkgckkalaa", sum := "4c569cece782ee84da5c71b6092c22dcddfc1fb4e7ccd46abf088b10903d8d97", func := "fascine/fascinelaw08.PostReads", spec := "postReads", apart := false, narrowed := true }
def PostReadsUptoSaid : Prop := postReadsUptoRow.holds Try.pinned (OpenSpec.upto postReadsSpec)

/-- 'fascinelaw08.PostSteps', WHERE WHAT IT READS IS OF BULK AT MOST 1048576: true; the input reads as it did. -/
def postStepsUptoRow : OpenClaim := { program := "ytifbpjkgckkalaa", sum := "4c569cece782ee84da5c71b6092c22dcddfc1fb4e7ccd46abf088b10903d8d97", func := "fascine/fascinelaw08.PostSteps", spec := "postSteps", apart := false, narrowed := true }
def PostStepsUptoSaid : Prop := postStepsUptoRow.holds Try.pinned (OpenSpec.upto postStepsSpec)

/-- 'fascinelaw01.PackFrames', WHERE WHAT IT READS IS OF BULK AT MOST 1048576: true; the input reads as it did. -/
def packFramesUptoRow : OpenClaim := { program := "ytifbpjkgckkalaa", sum := "4c569cece782ee84da5c71b6092c22dcddfc1fb4e7ccd46abf088b10903d8d97", func := "fascine/fascinelaw01.PackFrames", spec := "packFrames", apart := false, narrowed := true }
def PackFramesUptoSaid : Prop := packFramesUptoRow.holds Try.pinned (OpenSpec.upto packFramesSpec)

/-- 'fascinelaw01.PackTorn', WHERE WHAT IT READS IS OF BULK AT MOST 1048576: true; the input reads as it did. -/
def packTornUptoRow : OpenClaim := { program := "ytifbpjkgckkalaa", sum := "4c569cece782ee84da5c71b6092c22dcddfc1fb4e7ccd46abf088b10903d8d97", func := "fascine/fascinelaw01.PackTorn", spec := "packTorn", apart := false, narrowed := true }
def PackTornUptoSaid : Prop := packTornUptoRow.holds Try.pinned (OpenSpec.upto packTornSpec)

/-- 'fascinelaw08.PostSets', WHERE WHAT IT READS IS OF BULK AT MOST 1048576: true; the input reads as it did. -/
def postSetsUptoRow : OpenClaim := { program := "ytifbpjkgckkalaa", sum := "4c569cece782ee84da5c71b6092c22dcddfc1fb4e7ccd46abf088b10903d8d97", func := "fascine/fascinelaw08.PostSets", spec := "postSets", apart := false, narrowed := true }
def PostSetsUptoSaid : Prop := postSetsUptoRow.holds Try.pinned (OpenSpec.upto postSetsSpec)

/-- 'fascinelaw08.PostLaws', WHERE WHAT IT READS IS OF BULK AT MOST 1048576: true; the input reads as it did. -/
def postLawsUptoRow : OpenClaim := { program := "ytifbpjkgckkalaa", sum := "4c569cece782ee84da5c71b6092c22dcddfc1fb4e7ccd46abf088b10903d8d97", func := "fascine/fascinelaw08.PostLaws", spec := "postLaws", apart := false, narrowed := true }
def PostLawsUptoSaid : Prop := postLawsUptoRow.holds Try.pinned (OpenSpec.upto postLawsSpec)

/-- 'fascinelaw17.MergeMerges', WHERE WHAT IT READS IS OF BULK AT MOST 1048576: true; the input reads as it did. -/
def mergeMergesUptoRow : OpenClaim := { program := "ytifbpjkgckkalaa", sum := "4c569cece782ee84da5c71b6092c22dcddfc1fb4e7ccd46abf088b10903d8d97", func := "fascine/fascinelaw17.MergeMerges", spec := "mergeMerges", unfollowed := true, recurses := true, apart := false, narrowed := true }
def MergeMergesUptoSaid : Prop := mergeMergesUptoRow.holds Try.pinned (OpenSpec.upto mergeMergesSpec)

/-- 'fascinelaw17.MergeSplits', WHERE WHAT IT READS IS OF BULK AT MOST 1048576: true; the input reads as it did. -/
def mergeSplitsUptoRow : OpenClaim := { program := "ytifbpjkgckkalaa", sum := "4c569cece782ee84da5c71b6092c22dcddfc1fb4e7ccd46abf088b10903d8d97", func := "fascine/fascinelaw17.MergeSplits", spec := "mergeSplits", unfollowed := true, recurses := true, apart := false, narrowed := true }
def MergeSplitsUptoSaid : Prop := mergeSplitsUptoRow.holds Try.pinned (OpenSpec.upto mergeSplitsSpec)

/-- 'fascinelaw17.MergeBehind', WHERE WHAT IT READS IS OF BULK AT MOST 1048576: true; the input reads as it did. -/
def mergeBehindUptoRow : OpenClaim := { program := "ytifbpjkgckkalaa", sum := "4c569cece782ee84da5c71b6092c22dcddfc1fb4e7ccd46abf088b10903d8d97", func := "fascine/fascinelaw17.MergeBehind", spec := "mergeBehind", unfollowed := true, recurses := true, apart := false, narrowed := true }
def MergeBehindUptoSaid : Prop := mergeBehindUptoRow.holds Try.pinned (OpenSpec.upto mergeBehindSpec)

/-- 'fascinelaw17.MergePages', WHERE WHAT IT READS IS OF BULK AT MOST 1048576: true; the input reads as it did. -/
def mergePagesUptoRow : OpenClaim := { program := "ytifbpjkgckkalaa", sum := "4c569cece782ee84da5c71b6092c22dcddfc1fb4e7ccd46abf088b10903d8d97", func := "fascine/fascinelaw17.MergePages", spec := "mergePages", unfollowed := true, recurses := true, apart := false, narrowed := true }
def MergePagesUptoSaid : Prop := mergePagesUptoRow.holds Try.pinned (OpenSpec.upto mergePagesSpec)

end Rows
end Go.Proofs.Ytifbpjkgckkalaa
