/-
  DERIVED. GIVEN WITH THE SEED: THE CARDS: each row of YtpigloohccpfiaaDoorRows.lean that lists a variable, with what it lists TIED to the program's text (the seventh form; the later family's looks); each row that meets fmt, with fmt's text TOLD by the authors' own Lean function (tested against real Go, not proved from fmt's source: count such statements apart). THE CARD IS WHAT COUNTS. Prove the row's statement (the work); the ties are given (YtpigloohccpfiaaDoorTie.lean); close each card by the builder's one call (the guide's Derived/Test/ToyasCard.lean, 'card_holds'). Laid BY PROGRAM, IN A SANDBOX (cutbox-door.mjs). By AI agents, Wed Nov 11 2026. No macro, syntax, notation, axiom, sorry.
-/
import Derived.Test.YtpigloohccpfiaaDoorRows
import GoSem.ClaimSeven
namespace Go.Proofs.YtpigloohccpfiaaDoor
namespace Rows

/-- THE TIED CARD OF 'fascinelaw12.HttpReads'. -/
def httpReadsCard : Claim7 := { stood := { row := httpReadsRow, standIns := [], harness := (true, "55c15195f1a35897c683655e0d347c532270e3b99b411b90145bf655d9a0672b"), looks := true }, kinds := [], alts := [], laidByText := true, laidKinds := [.data, .data, .data, .data, .sentinel, .sentinel, .pinned], laidTests := true, laidLooks := .later }
def HttpReadsCardSaid : Prop := Claim7.holds Tryd.pinned (.plain (OpenSpec.ofChange httpReadsSpec)) httpReadsCard

/-- THE TIED CARD OF 'fascinelaw12.HttpPieces'. -/
def httpPiecesCard : Claim7 := { stood := { row := httpPiecesRow, standIns := [], harness := (true, "55c15195f1a35897c683655e0d347c532270e3b99b411b90145bf655d9a0672b"), looks := true }, kinds := [], alts := [], laidByText := true, laidKinds := [.data, .data, .data, .data, .sentinel, .sentinel, .pinned], laidTests := true, laidLooks := .later }
def HttpPiecesCardSaid : Prop := Claim7.holds Tryd.pinned (.plain (OpenSpec.ofChange httpPiecesSpec)) httpPiecesCard

/-- THE TIED CARD OF 'fascinelaw12.HttpLines'. -/
def httpLinesCard : Claim7 := { stood := { row := httpLinesRow, standIns := [], harness := (true, "55c15195f1a35897c683655e0d347c532270e3b99b411b90145bf655d9a0672b"), looks := true }, kinds := [], alts := [], laidByText := true, laidKinds := [.data, .data, .data, .data, .sentinel, .sentinel, .pinned], laidTests := true, laidLooks := .later }
def HttpLinesCardSaid : Prop := Claim7.holds Tryd.pinned (.plain (OpenSpec.ofChange httpLinesSpec)) httpLinesCard

/-- THE TIED CARD OF 'fascinelaw12.HttpBodies'. -/
def httpBodiesCard : Claim7 := { stood := { row := httpBodiesRow, standIns := [], harness := (true, "55c15195f1a35897c683655e0d347c532270e3b99b411b90145bf655d9a0672b"), looks := true }, kinds := [], alts := [], laidByText := true, laidKinds := [.data, .data, .data, .data, .sentinel, .sentinel, .pinned], laidTests := true, laidLooks := .later }
def HttpBodiesCardSaid : Prop := Claim7.holds Tryd.pinned (.plain (OpenSpec.ofChange httpBodiesSpec)) httpBodiesCard

/-- THE TIED CARD OF 'fascinelaw12.HttpWrites'. -/
def httpWritesCard : Claim7 := { stood := { row := httpWritesRow, standIns := [], harness := (true, "55c15195f1a35897c683655e0d347c532270e3b99b411b90145bf655d9a0672b"), looks := true }, kinds := [], alts := [], laidByText := true, laidKinds := [.data, .data, .data, .data, .sentinel, .sentinel, .pinned], laidTests := true, laidLooks := .later }
def HttpWritesCardSaid : Prop := Claim7.holds Tryd.pinned (.plain (OpenSpec.ofChange httpWritesSpec)) httpWritesCard

/-- THE TIED CARD OF 'fascinelaw12.HttpAnswers'. -/
def httpAnswersCard : Claim7 := { stood := { row := httpAnswersRow, standIns := [], harness := (true, "55c15195f1a35897c683655e0d347c532270e3b99b411b90145bf655d9a0672b"), looks := true }, kinds := [], alts := [], laidByText := true, laidKinds := [.data, .data, .data, .data, .sentinel, .sentinel, .pinned], laidTests := true, laidLooks := .later }
def HttpAnswersCardSaid : Prop := Claim7.holds Tryd.pinned (.plain (OpenSpec.ofChange httpAnswersSpec)) httpAnswersCard

/-- THE SECOND FORM's CARD OF 'fascinelaw12.HttpReads'. -/
def httpReadsUptoCard : Claim7 := { stood := { row := httpReadsUptoRow, standIns := [], harness := (true, "55c15195f1a35897c683655e0d347c532270e3b99b411b90145bf655d9a0672b"), looks := true }, kinds := [], alts := [], laidByText := true, laidKinds := [.data, .data, .data, .data, .sentinel, .sentinel, .pinned], laidTests := true, laidLooks := .later }
def HttpReadsUptoCardSaid : Prop := Claim7.holds Tryd.pinned (.plain (OpenSpec.upto httpReadsSpec)) httpReadsUptoCard

/-- THE SECOND FORM's CARD OF 'fascinelaw12.HttpPieces'. -/
def httpPiecesUptoCard : Claim7 := { stood := { row := httpPiecesUptoRow, standIns := [], harness := (true, "55c15195f1a35897c683655e0d347c532270e3b99b411b90145bf655d9a0672b"), looks := true }, kinds := [], alts := [], laidByText := true, laidKinds := [.data, .data, .data, .data, .sentinel, .sentinel, .pinned], laidTests := true, laidLooks := .later }
def HttpPiecesUptoCardSaid : Prop := Claim7.holds Tryd.pinned (.plain (OpenSpec.upto httpPiecesSpec)) httpPiecesUptoCard

/-- THE SECOND FORM's CARD OF 'fascinelaw12.HttpLines'. -/
def httpLinesUptoCard : Claim7 := { stood := { row := httpLinesUptoRow, standIns := [], harness := (true, "55c15195f1a35897c683655e0d347c532270e3b99b411b90145bf655d9a0672b"), looks := true }, kinds := [], alts := [], laidByText := true, laidKinds := [.data, .data, .data, .data, .sentinel, .sentinel, .pinned], laidTests := true, laidLooks := .later }
def HttpLinesUptoCardSaid : Prop := Claim7.holds Tryd.pinned (.plain (OpenSpec.upto httpLinesSpec)) httpLinesUptoCard

/-- THE SECOND FORM's CARD OF 'fascinelaw12.HttpBodies'. -/
def httpBodiesUptoCard : Claim7 := { stood := { row := httpBodiesUptoRow, standIns := [], harness := (true, "55c15195f1a35897c683655e0d347c532270e3b99b411b90145bf655d9a0672b"), looks := true }, kinds := [], alts := [], laidByText := true, laidKinds := [.data, .data, .data, .data, .sentinel, .sentinel, .pinned], laidTests := true, laidLooks := .later }
def HttpBodiesUptoCardSaid : Prop := Claim7.holds Tryd.pinned (.plain (OpenSpec.upto httpBodiesSpec)) httpBodiesUptoCard

/-- THE SECOND FORM's CARD OF 'fascinelaw12.HttpWrites'. -/
def httpWritesUptoCard : Claim7 := { stood := { row := httpWritesUptoRow, standIns := [], harness := (true, "55c15195f1a35897c683655e0d347c532270e3b99b411b90145bf655d9a0672b"), looks := true }, kinds := [], alts := [], laidByText := true, laidKinds := [.data, .data, .data, .data, .sentinel, .sentinel, .pinned], laidTests := true, laidLooks := .later }
def HttpWritesUptoCardSaid : Prop := Claim7.holds Tryd.pinned (.plain (OpenSpec.upto httpWritesSpec)) httpWritesUptoCard

/-- THE SECOND FORM's CARD OF 'fascinelaw12.HttpAnswers'. -/
def httpAnswersUptoCard : Claim7 := { stood := { row := httpAnswersUptoRow, standIns := [], harness := (true, "55c15195f1a35897c683655e0d347c532270e3b99b411b90145bf655d9a0672b"), looks := true }, kinds := [], alts := [], laidByText := true, laidKinds := [.data, .data, .data, .data, .sentinel, .sentinel, .pinned], laidTests := true, laidLooks := .later }
def HttpAnswersUptoCardSaid : Prop := Claim7.holds Tryd.pinned (.plain (OpenSpec.upto httpAnswersSpec)) httpAnswersUptoCard
end Rows
end Go.Proofs.YtpigloohccpfiaaDoor
