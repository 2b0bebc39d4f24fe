/-
  NARROWER THAN 'FOR EVERY INPUT', by the rows' own cells (each row's printed sentence says how): WordsTerms: laid · WordsCase: laid · WordsJoin: laid · WordsTold: laid · WordsAlone: laid · MatchTerms: laid · MatchTimes: laid · MatchOrder: laid.
  DERIVED. THE GIVEN ROWS OF THIS SEAT. 8 by the template 'for every input the law returns true; each argument reads behind the call as it read before'; 0 by the template 'total and deterministic' (their statements: YtpkjfpapjcmhdaaDoorTotals.lean).
  GIVEN WITH THE SEED: the statements are not yours to turn. If you find one false, say at which input.
  Laid BY PROGRAM, IN A SANDBOX (cutbox-rows.mjs): the forced cells as the released guide's own fill.sh prints them over the translation 9b4459af39b7d79b… (all of the seat's roots in one cut). By AI agents, Wed Nov 11 2026. No macro, syntax, notation, axiom, sorry.
-/
import Derived.Test.YtpkjfpapjcmhdaaDoorChecked
import GoSem.PinnedTables
import GoSem.Claim
import GoSem.ClaimJoined
import GoSem.ClaimMapViews
import Derived.JoinedTies
import Derived.KernelRfl
namespace Go.Proofs.YtpkjfpapjcmhdaaDoor
/- THE CELL 'sum', in the pinned program and in every row, IS THE sha256 OF THE DUMP (.gsa) THAT YtpkjfpapjcmhdaaDoorProg.lean LOADS. Nothing in Lean hashes anything: it is a label: what it is worth is what the hold of that sum in a sandbox is worth. -/
noncomputable def Tryd.pinned : Pinned := { name := "ytpkjfpapjcmhdaadoor", sum := "9b4459af39b7d79bc58afa740737fb1b1143ad2ff8b3730d4d717e1394de9bdf", checked := Tryd.checked }
namespace Rows
def none {H : Type} : Left H := { results := [], args := [] }

/- WHAT THE LISTED PACKAGE-LEVEL VARIABLES READ AS WHEN THE CALL BEGINS. Each datum BY PROGRAM (the guide's laid-datum.mjs) off the statement by which the dump's own 'gosem.cut.vars' lays the variable. In a bare row this is a premise. The card (YtpkjfpapjcmhdaaDoorCards.lean) ties it to the program's text. -/
def laid_unicode_utf8_acceptRanges {H : Type} : DataW H := .agg [.agg [.lit (.int .u8 128), .lit (.int .u8 191)], .agg [.lit (.int .u8 160), .lit (.int .u8 191)], .agg [.lit (.int .u8 128), .lit (.int .u8 159)], .agg [.lit (.int .u8 144), .lit (.int .u8 191)], .agg [.lit (.int .u8 128), .lit (.int .u8 143)], .agg [.lit (.int .u8 0), .lit (.int .u8 0)], .agg [.lit (.int .u8 0), .lit (.int .u8 0)], .agg [.lit (.int .u8 0), .lit (.int .u8 0)], .agg [.lit (.int .u8 0), .lit (.int .u8 0)], .agg [.lit (.int .u8 0), .lit (.int .u8 0)], .agg [.lit (.int .u8 0), .lit (.int .u8 0)], .agg [.lit (.int .u8 0), .lit (.int .u8 0)], .agg [.lit (.int .u8 0), .lit (.int .u8 0)], .agg [.lit (.int .u8 0), .lit (.int .u8 0)], .agg [.lit (.int .u8 0), .lit (.int .u8 0)], .agg [.lit (.int .u8 0), .lit (.int .u8 0)]]
/-- One of Go's own tables, pinned by name: the form's constant. -/
def laid_unicode_utf8_first : DataW Unit := Go.Pinned.utf8First

/-- 'fascinelaw05.WordsTerms': WHATEVER THE INPUT: true; the input reads as it did. -/
def wordsTermsSpec : ChangeSpec := { name := "wordsTerms", fn := fun _ => fun
  | [d] => { results := [.lit (.bool true)], args := [d] }
  | _ => none }
def wordsTermsRow : OpenClaim := { program := "ytpkjfpapjcmhdaadoor", sum := "9b4459af39b7d79bc58afa740737fb1b1143ad2ff8b3730d4d717e1394de9bdf", func := "fascine/fascinelaw05.WordsTerms", spec := "wordsTerms", recurses := true, named := ["unicode/utf8.first", "unicode/utf8.acceptRanges"], apart := false, laid := [("unicode/utf8.acceptRanges", laid_unicode_utf8_acceptRanges), ("unicode/utf8.first", laid_unicode_utf8_first)] }
def WordsTermsSaid : Prop := wordsTermsRow.holds Tryd.pinned (OpenSpec.ofChange wordsTermsSpec)

/-- ITS FALSE NEIGHBOUR: 'it returns false'. Refute it at one input. -/
def wordsTermsWrong : ChangeSpec := { name := "wordsTerms", fn := fun _ => fun
  | [d] => { results := [.lit (.bool false)], args := [d] }
  | _ => none }
def WordsTermsWrongFalsely : Prop := wordsTermsRow.holds Tryd.pinned (OpenSpec.ofChange wordsTermsWrong)

/-- 'fascinelaw05.WordsCase': WHATEVER THE INPUT: true; the input reads as it did. -/
def wordsCaseSpec : ChangeSpec := { name := "wordsCase", fn := fun _ => fun
  | [d] => { results := [.lit (.bool true)], args := [d] }
  | _ => none }
def wordsCaseRow : OpenClaim := { program := "ytpkjfpapjcmhdaadoor", sum := "9b4459af39b7d79bc58afa740737fb1b1143ad2ff8b3730d4d717e1394de9bdf", func := "fascine/fascinelaw05.WordsCase", spec := "wordsCase", recurses := true, named := ["unicode/utf8.first", "unicode/utf8.acceptRanges"], apart := false, laid := [("unicode/utf8.acceptRanges", laid_unicode_utf8_acceptRanges), ("unicode/utf8.first", laid_unicode_utf8_first)] }
def WordsCaseSaid : Prop := wordsCaseRow.holds Tryd.pinned (OpenSpec.ofChange wordsCaseSpec)

/-- ITS FALSE NEIGHBOUR: 'it returns false'. Refute it at one input. -/
def wordsCaseWrong : ChangeSpec := { name := "wordsCase", fn := fun _ => fun
  | [d] => { results := [.lit (.bool false)], args := [d] }
  | _ => none }
def WordsCaseWrongFalsely : Prop := wordsCaseRow.holds Tryd.pinned (OpenSpec.ofChange wordsCaseWrong)

/-- 'fascinelaw05.WordsJoin': WHATEVER THE INPUT: true; the input reads as it did. -/
def wordsJoinSpec : ChangeSpec := { name := "wordsJoin", fn := fun _ => fun
  | [d1, d2] => { results := [.lit (.bool true)], args := [d1, d2] }
  | _ => none }
def wordsJoinRow : OpenClaim := { program := "ytpkjfpapjcmhdaadoor", sum := "9b4459af39b7d79bc58afa740737fb1b1143ad2ff8b3730d4d717e1394de9bdf", func := "fascine/fascinelaw05.WordsJoin", spec := "wordsJoin", recurses := true, named := ["unicode/utf8.first", "unicode/utf8.acceptRanges"], apart := false, laid := [("unicode/utf8.acceptRanges", laid_unicode_utf8_acceptRanges), ("unicode/utf8.first", laid_unicode_utf8_first)] }
def WordsJoinSaid : Prop := wordsJoinRow.holds Tryd.pinned (OpenSpec.ofChange wordsJoinSpec)

/-- ITS FALSE NEIGHBOUR: 'it returns false'. Refute it at one input. -/
def wordsJoinWrong : ChangeSpec := { name := "wordsJoin", fn := fun _ => fun
  | [d1, d2] => { results := [.lit (.bool false)], args := [d1, d2] }
  | _ => none }
def WordsJoinWrongFalsely : Prop := wordsJoinRow.holds Tryd.pinned (OpenSpec.ofChange wordsJoinWrong)

/-- 'fascinelaw05.WordsTold': WHATEVER THE INPUT: true; the input reads as it did. -/
def wordsToldSpec : ChangeSpec := { name := "wordsTold", fn := fun _ => fun
  | [d] => { results := [.lit (.bool true)], args := [d] }
  | _ => none }
def wordsToldRow : OpenClaim := { program := "ytpkjfpapjcmhdaadoor", sum := "9b4459af39b7d79bc58afa740737fb1b1143ad2ff8b3730d4d717e1394de9bdf", func := "fascine/fascinelaw05.WordsTold", spec := "wordsTold", recurses := true, named := ["unicode/utf8.first", "unicode/utf8.acceptRanges"], apart := false, laid := [("unicode/utf8.acceptRanges", laid_unicode_utf8_acceptRanges), ("unicode/utf8.first", laid_unicode_utf8_first)] }
def WordsToldSaid : Prop := wordsToldRow.holds Tryd.pinned (OpenSpec.ofChange wordsToldSpec)

/-- ITS FALSE NEIGHBOUR: 'it returns false'. Refute it at one input. -/
def wordsToldWrong : ChangeSpec := { name := "wordsTold", fn := fun _ => fun
  | [d] => { results := [.lit (.bool false)], args := [d] }
  | _ => none }
def WordsToldWrongFalsely : Prop := wordsToldRow.holds Tryd.pinned (OpenSpec.ofChange wordsToldWrong)

/-- 'fascinelaw05.WordsAlone': WHATEVER THE INPUT: true; the input reads as it did. -/
def wordsAloneSpec : ChangeSpec := { name := "wordsAlone", fn := fun _ => fun
  | [d] => { results := [.lit (.bool true)], args := [d] }
  | _ => none }
def wordsAloneRow : OpenClaim := { program := "ytpkjfpapjcmhdaadoor", sum := "9b4459af39b7d79bc58afa740737fb1b1143ad2ff8b3730d4d717e1394de9bdf", func := "fascine/fascinelaw05.WordsAlone", spec := "wordsAlone", recurses := true, named := ["unicode/utf8.first", "unicode/utf8.acceptRanges"], apart := false, laid := [("unicode/utf8.acceptRanges", laid_unicode_utf8_acceptRanges), ("unicode/utf8.first", laid_unicode_utf8_first)] }
def WordsAloneSaid : Prop := wordsAloneRow.holds Tryd.pinned (OpenSpec.ofChange wordsAloneSpec)

/-- ITS FALSE NEIGHBOUR: 'it returns false'. Refute it at one input. -/
def wordsAloneWrong : ChangeSpec := { name := "wordsAlone", fn := fun _ => fun
  | [d] => { results := [.lit (.bool false)], args := [d] }
  | _ => none }
def WordsAloneWrongFalsely : Prop := wordsAloneRow.holds Tryd.pinned (OpenSpec.ofChange wordsAloneWrong)

/-- 'fascinelaw07.MatchTerms': WHATEVER THE INPUT: true; the input reads as it did. -/
def matchTermsSpec : ChangeSpec := { name := "matchTerms", fn := fun _ => fun
  | [d1, d2] => { results := [.lit (.bool true)], args := [d1, d2] }
  | _ => none }
def matchTermsRow : OpenClaim := { program := "ytpkjfpapjcmhdaadoor", sum := "9b4459af39b7d79bc58afa740737fb1b1143ad2ff8b3730d4d717e1394de9bdf", func := "fascine/fascinelaw07.MatchTerms", spec := "matchTerms", unfollowed := true, recurses := true, named := ["unicode/utf8.first", "unicode/utf8.acceptRanges"], apart := false, laid := [("unicode/utf8.acceptRanges", laid_unicode_utf8_acceptRanges), ("unicode/utf8.first", laid_unicode_utf8_first)] }
def MatchTermsSaid : Prop := matchTermsRow.holds Tryd.pinned (OpenSpec.ofChange matchTermsSpec)

/-- ITS FALSE NEIGHBOUR: 'it returns false'. Refute it at one input. -/
def matchTermsWrong : ChangeSpec := { name := "matchTerms", fn := fun _ => fun
  | [d1, d2] => { results := [.lit (.bool false)], args := [d1, d2] }
  | _ => none }
def MatchTermsWrongFalsely : Prop := matchTermsRow.holds Tryd.pinned (OpenSpec.ofChange matchTermsWrong)

/-- 'fascinelaw07.MatchTimes': WHATEVER THE INPUT: true; the input reads as it did. -/
def matchTimesSpec : ChangeSpec := { name := "matchTimes", fn := fun _ => fun
  | [d1, d2] => { results := [.lit (.bool true)], args := [d1, d2] }
  | _ => none }
def matchTimesRow : OpenClaim := { program := "ytpkjfpapjcmhdaadoor", sum := "9b4459af39b7d79bc58afa740737fb1b1143ad2ff8b3730d4d717e1394de9bdf", func := "fascine/fascinelaw07.MatchTimes", spec := "matchTimes", unfollowed := true, recurses := true, named := ["unicode/utf8.first", "unicode/utf8.acceptRanges"], apart := false, laid := [("unicode/utf8.acceptRanges", laid_unicode_utf8_acceptRanges), ("unicode/utf8.first", laid_unicode_utf8_first)] }
def MatchTimesSaid : Prop := matchTimesRow.holds Tryd.pinned (OpenSpec.ofChange matchTimesSpec)

/-- ITS FALSE NEIGHBOUR: 'it returns false'. Refute it at one input. -/
def matchTimesWrong : ChangeSpec := { name := "matchTimes", fn := fun _ => fun
  | [d1, d2] => { results := [.lit (.bool false)], args := [d1, d2] }
  | _ => none }
def MatchTimesWrongFalsely : Prop := matchTimesRow.holds Tryd.pinned (OpenSpec.ofChange matchTimesWrong)

/-- 'fascinelaw07.MatchOrder': WHATEVER THE INPUT: true; the input reads as it did. -/
def matchOrderSpec : ChangeSpec := { name := "matchOrder", fn := fun _ => fun
  | [d1, d2, d3] => { results := [.lit (.bool true)], args := [d1, d2, d3] }
  | _ => none }
def matchOrderRow : OpenClaim := { program := "ytpkjfpapjcmhdaadoor", sum := "9b4459af39b7d79bc58afa740737fb1b1143ad2ff8b3730d4d717e1394de9bdf", func := "fascine/fascinelaw07.MatchOrder", spec := "matchOrder", unfollowed := true, recurses := true, named := ["unicode/utf8.first", "unicode/utf8.acceptRanges"], apart := false, laid := [("unicode/utf8.acceptRanges", laid_unicode_utf8_acceptRanges), ("unicode/utf8.first", laid_unicode_utf8_first)] }
def MatchOrderSaid : Prop := matchOrderRow.holds Tryd.pinned (OpenSpec.ofChange matchOrderSpec)

/-- ITS FALSE NEIGHBOUR: 'it returns false'. Refute it at one input. -/
def matchOrderWrong : ChangeSpec := { name := "matchOrder", fn := fun _ => fun
  | [d1, d2, d3] => { results := [.lit (.bool false)], args := [d1, d2, d3] }
  | _ => none }
def MatchOrderWrongFalsely : Prop := matchOrderRow.holds Tryd.pinned (OpenSpec.ofChange matchOrderWrong)

/- THE SECOND FORM. 'bulk': how many values and letters a reading holds, each counted each time it is reached (what is shared counts as often as it is met; a slice's spare places count too). A statement '..UptoSaid' is the law's where the arguments, and the package variables that the reading takes, are together of bulk at most 1048576: NARROWER than '..Said'. Prove '..Said' where nothing that the law and all that it calls make is longer than what came in: it says more and counts as full. Else prove '..UptoSaid'. A law counts once. -/
mutual
def uptoBulk {H : Type} : DataW H → Nat
  | .lit (.string bytes) => bytes.length + 1
  | .lit _ => 1
  | .nil => 1
  | .ptr d => uptoBulk d + 1
  | .slice elems spare => uptoBulkAll elems + uptoBulkAll spare + 1
  | .agg parts => uptoBulkAll parts + 1
  | .iface _ d => uptoBulk d + 1
  | .map entries => uptoBulkEntries entries + 1
  | .held _ => 1
def uptoBulkAll {H : Type} : List (DataW H) → Nat
  | [] => 0
  | d :: r => uptoBulk d + uptoBulkAll r
def uptoBulkEntries {H : Type} : List (Lit × DataW H) → Nat
  | [] => 0
  | x :: r => uptoBulkEntry x + uptoBulkEntries r
def uptoBulkEntry {H : Type} : Lit × DataW H → Nat
  | (.string bytes, d) => bytes.length + uptoBulk d + 1
  | (_, d) => uptoBulk d + 1
 end
def uptoSmall : (H : Type) → List (DataW H) → Bool := fun _ ds => decide (uptoBulkAll ds ≤ 1048576)
def OpenSpec.upto (s : _root_.Go.ChangeSpec) : _root_.Go.OpenSpec := { _root_.Go.OpenSpec.ofChange s with cond := some uptoSmall }

/-- 'fascinelaw05.WordsTerms', WHERE WHAT IT READS IS OF BULK AT MOST 1048576: true; the input reads as it did. -/
def wordsTermsUptoRow : OpenClaim := { program := "ytpkjfpapjcmhdaadoor", sum := "9b4459af39b7d79bc58afa740737fb1b1143ad2ff8b3730d4d717e1394de9bdf", func := "fascine/fascinelaw05.WordsTerms", spec := "wordsTerms", recurses := true, named := ["unicode/utf8.first", "unicode/utf8.acceptRanges"], apart := false, laid := [("unicode/utf8.acceptRanges", laid_unicode_utf8_acceptRanges), ("unicode/utf8.first", laid_unicode_utf8_first)], narrowed := true }
def WordsTermsUptoSaid : Prop := wordsTermsUptoRow.holds Tryd.pinned (OpenSpec.upto wordsTermsSpec)

/-- 'fascinelaw05.WordsCase', WHERE WHAT IT READS IS OF BULK AT MOST 1048576: true; the input reads as it did. -/
def wordsCaseUptoRow : OpenClaim := { program := "ytpkjfpapjcmhdaadoor", sum := "9b4459af39b7d79bc58afa740737fb1b1143ad2ff8b3730d4d717e1394de9bdf", func := "fascine/fascinelaw05.WordsCase", spec := "wordsCase", recurses := true, named := ["unicode/utf8.first", "unicode/utf8.acceptRanges"], apart := false, laid := [("unicode/utf8.acceptRanges", laid_unicode_utf8_acceptRanges), ("unicode/utf8.first", laid_unicode_utf8_first)], narrowed := true }
def WordsCaseUptoSaid : Prop := wordsCaseUptoRow.holds Tryd.pinned (OpenSpec.upto wordsCaseSpec)

/-- 'fascinelaw05.WordsJoin', WHERE WHAT IT READS IS OF BULK AT MOST 1048576: true; the input reads as it did. -/
def wordsJoinUptoRow : OpenClaim := { program := "ytpkjfpapjcmhdaadoor", sum := "9b4459af39b7d79bc58afa740737fb1b1143ad2ff8b3730d4d717e1394de9bdf", func := "fascine/fascinelaw05.WordsJoin", spec := "wordsJoin", recurses := true, named := ["unicode/utf8.first", "unicode/utf8.acceptRanges"], apart := false, laid := [("unicode/utf8.acceptRanges", laid_unicode_utf8_acceptRanges), ("unicode/utf8.first", laid_unicode_utf8_first)], narrowed := true }
def WordsJoinUptoSaid : Prop := wordsJoinUptoRow.holds Tryd.pinned (OpenSpec.upto wordsJoinSpec)

/-- 'fascinelaw05.WordsTold', WHERE WHAT IT READS IS OF BULK AT MOST 1048576: true; the input reads as it did. -/
def wordsToldUptoRow : OpenClaim := { program := "ytpkjfpapjcmhdaadoor", sum := "9b4459af39b7d79bc58afa740737fb1b1143ad2ff8b3730d4d717e1394de9bdf", func := "fascine/fascinelaw05.WordsTold", spec := "wordsTold", recurses := true, named := ["unicode/utf8.first", "unicode/utf8.acceptRanges"], apart := false, laid := [("unicode/utf8.acceptRanges", laid_unicode_utf8_acceptRanges), ("unicode/utf8.first", laid_unicode_utf8_first)], narrowed := true }
def WordsToldUptoSaid : Prop := wordsToldUptoRow.holds Tryd.pinned (OpenSpec.upto wordsToldSpec)

/-- 'fascinelaw05.WordsAlone', WHERE WHAT IT READS IS OF BULK AT MOST 1048576: true; the input reads as it did. -/
def wordsAloneUptoRow : OpenClaim := { program := "ytpkjfpapjcmhdaadoor", sum := "9b4459af39b7d79bc58afa740737fb1b1143ad2ff8b3730d4d717e1394de9bdf", func := "fascine/fascinelaw05.WordsAlone", spec := "wordsAlone", recurses := true, named := ["unicode/utf8.first", "unicode/utf8.acceptRanges"], apart := false, laid := [("unicode/utf8.acceptRanges", laid_unicode_utf8_acceptRanges), ("unicode/utf8.first", laid_unicode_utf8_first)], narrowed := true }
def WordsAloneUptoSaid : Prop := wordsAloneUptoRow.holds Tryd.pinned (OpenSpec.upto wordsAloneSpec)

/-- 'fascinelaw07.MatchTerms', WHERE WHAT IT READS IS OF BULK AT MOST 1048576: true; the input reads as it did. -/
def matchTermsUptoRow : OpenClaim := { program := "ytpkjfpapjcmhdaadoor", sum := "9b4459af39b7d79bc58afa740737fb1b1143ad2ff8b3730d4d717e1394de9bdf", func := "fascine/fascinelaw07.MatchTerms", spec := "matchTerms", unfollowed := true, recurses := true, named := ["unicode/utf8.first", "unicode/utf8.acceptRanges"], apart := false, laid := [("unicode/utf8.acceptRanges", laid_unicode_utf8_acceptRanges), ("unicode/utf8.first", laid_unicode_utf8_first)], narrowed := true }
def MatchTermsUptoSaid : Prop := matchTermsUptoRow.holds Tryd.pinned (OpenSpec.upto matchTermsSpec)

/-- 'fascinelaw07.MatchTimes', WHERE WHAT IT READS IS OF BULK AT MOST 1048576: true; the input reads as it did. -/
def matchTimesUptoRow : OpenClaim := { program := "ytpkjfpapjcmhdaadoor", sum := "9b4459af39b7d79bc58afa740737fb1b1143ad2ff8b3730d4d717e1394de9bdf", func := "fascine/fascinelaw07.MatchTimes", spec := "matchTimes", unfollowed := true, recurses := true, named := ["unicode/utf8.first", "unicode/utf8.acceptRanges"], apart := false, laid := [("unicode/utf8.acceptRanges", laid_unicode_utf8_acceptRanges), ("unicode/utf8.first", laid_unicode_utf8_first)], narrowed := true }
def MatchTimesUptoSaid : Prop := matchTimesUptoRow.holds Tryd.pinned (OpenSpec.upto matchTimesSpec)

/-- 'fascinelaw07.MatchOrder', WHERE WHAT IT READS IS OF BULK AT MOST 1048576: true; the input reads as it did. -/
def matchOrderUptoRow : OpenClaim := { program := "ytpkjfpapjcmhdaadoor", sum := "9b4459af39b7d79bc58afa740737fb1b1143ad2ff8b3730d4d717e1394de9bdf", func := "fascine/fascinelaw07.MatchOrder", spec := "matchOrder", unfollowed := true, recurses := true, named := ["unicode/utf8.first", "unicode/utf8.acceptRanges"], apart := false, laid := [("unicode/utf8.acceptRanges", laid_unicode_utf8_acceptRanges), ("unicode/utf8.first", laid_unicode_utf8_first)], narrowed := true }
def MatchOrderUptoSaid : Prop := matchOrderUptoRow.holds Tryd.pinned (OpenSpec.upto matchOrderSpec)

end Rows
end Go.Proofs.YtpkjfpapjcmhdaaDoor
