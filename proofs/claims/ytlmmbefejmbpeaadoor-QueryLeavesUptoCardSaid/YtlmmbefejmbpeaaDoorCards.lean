/-
  DERIVED. GIVEN WITH THE SEED: THE CARDS: each row of YtlmmbefejmbpeaaDoorRows.lean that lists a variable, with what it lists TIED to the program's text (the seventh form; the later family's looks); each row that meets fmt, with fmt's text TOLD by the authors' own Lean function (tested against real Go, not proved from fmt's source: count such statements apart). THE CARD IS WHAT COUNTS. Prove the row's statement (the work); the ties are given (YtlmmbefejmbpeaaDoorTie.lean); close each card by the builder's one call (the guide's Derived/Test/ToyasCard.lean, 'card_holds'). Laid BY PROGRAM, IN A SANDBOX (cutbox-door.mjs). By AI agents, Wed Nov 11 2026. No macro, syntax, notation, axiom, sorry.
-/
import Derived.Test.YtlmmbefejmbpeaaDoorRows
import GoSem.ClaimSeven
namespace Go.Proofs.YtlmmbefejmbpeaaDoor
namespace Rows

/-- THE TIED CARD OF 'fascinelaw06.QueryReads'. -/
def queryReadsCard : Claim7 := { stood := { row := queryReadsRow, standIns := [], harness := (true, "d3ffc3d6cb299aad0c95587c5f2dd3cb44849534fcba0c0586a1bbd8a831708d"), looks := true }, kinds := [], alts := [], laidByText := true, laidKinds := [.data, .data, .data, .data, .sentinel, .sentinel, .pinned], laidTests := true, laidLooks := .later }
def QueryReadsCardSaid : Prop := Claim7.holds Tryd.pinned (.plain (OpenSpec.ofChange queryReadsSpec)) queryReadsCard

/-- THE TIED CARD OF 'fascinelaw06.QueryPlaces'. -/
def queryPlacesCard : Claim7 := { stood := { row := queryPlacesRow, standIns := [], harness := (true, "d3ffc3d6cb299aad0c95587c5f2dd3cb44849534fcba0c0586a1bbd8a831708d"), looks := true }, kinds := [], alts := [], laidByText := true, laidKinds := [.data, .data, .data, .data, .sentinel, .sentinel, .pinned], laidTests := true, laidLooks := .later }
def QueryPlacesCardSaid : Prop := Claim7.holds Tryd.pinned (.plain (OpenSpec.ofChange queryPlacesSpec)) queryPlacesCard

/-- THE TIED CARD OF 'fascinelaw06.QueryLeaves'. -/
def queryLeavesCard : Claim7 := { stood := { row := queryLeavesRow, standIns := [], harness := (true, "d3ffc3d6cb299aad0c95587c5f2dd3cb44849534fcba0c0586a1bbd8a831708d"), looks := true }, kinds := [], alts := [], laidByText := true, laidKinds := [.data, .data, .data, .data, .sentinel, .sentinel, .pinned], laidTests := true, laidLooks := .later }
def QueryLeavesCardSaid : Prop := Claim7.holds Tryd.pinned (.plain (OpenSpec.ofChange queryLeavesSpec)) queryLeavesCard

/-- THE TIED CARD OF 'fascinelaw06.QueryDeep'. -/
def queryDeepCard : Claim7 := { stood := { row := queryDeepRow, standIns := [], harness := (true, "d3ffc3d6cb299aad0c95587c5f2dd3cb44849534fcba0c0586a1bbd8a831708d"), looks := true }, kinds := [], alts := [], laidByText := true, laidKinds := [.data, .data, .data, .data, .sentinel, .sentinel, .pinned], laidTests := true, laidLooks := .later }
def QueryDeepCardSaid : Prop := Claim7.holds Tryd.pinned (.plain (OpenSpec.ofChange queryDeepSpec)) queryDeepCard

/-- THE TIED CARD OF 'fascinelaw06.QueryBack'. -/
def queryBackCard : Claim7 := { stood := { row := queryBackRow, standIns := [], harness := (true, "d3ffc3d6cb299aad0c95587c5f2dd3cb44849534fcba0c0586a1bbd8a831708d"), looks := true }, kinds := [], alts := [], laidByText := true, laidKinds := [.data, .data, .data, .data, .sentinel, .sentinel, .pinned], laidTests := true, laidLooks := .later }
def QueryBackCardSaid : Prop := Claim7.holds Tryd.pinned (.plain (OpenSpec.ofChange queryBackSpec)) queryBackCard

/-- THE SECOND FORM's CARD OF 'fascinelaw06.QueryReads'. -/
def queryReadsUptoCard : Claim7 := { stood := { row := queryReadsUptoRow, standIns := [], harness := (true, "d3ffc3d6cb299aad0c95587c5f2dd3cb44849534fcba0c0586a1bbd8a831708d"), looks := true }, kinds := [], alts := [], laidByText := true, laidKinds := [.data, .data, .data, .data, .sentinel, .sentinel, .pinned], laidTests := true, laidLooks := .later }
def QueryReadsUptoCardSaid : Prop := Claim7.holds Tryd.pinned (.plain (OpenSpec.upto queryReadsSpec)) queryReadsUptoCard

/-- THE SECOND FORM's CARD OF 'fascinelaw06.QueryPlaces'. -/
def queryPlacesUptoCard : Claim7 := { stood := { row := queryPlacesUptoRow, standIns := [], harness := (true, "d3ffc3d6cb299aad0c95587c5f2dd3cb44849534fcba0c0586a1bbd8a831708d"), looks := true }, kinds := [], alts := [], laidByText := true, laidKinds := [.data, .data, .data, .data, .sentinel, .sentinel, .pinned], laidTests := true, laidLooks := .later }
def QueryPlacesUptoCardSaid : Prop := Claim7.holds Tryd.pinned (.plain (OpenSpec.upto queryPlacesSpec)) queryPlacesUptoCard

/-- THE SECOND FORM's CARD OF 'fascinelaw06.QueryLeaves'. -/
def queryLeavesUptoCard : Claim7 := { stood := { row := queryLeavesUptoRow, standIns := [], harness := (true, "d3ffc3d6cb299aad0c95587c5f2dd3cb44849534fcba0c0586a1bbd8a831708d"), looks := true }, kinds := [], alts := [], laidByText := true, laidKinds := [.data, .data, .data, .data, .sentinel, .sentinel, .pinned], laidTests := true, laidLooks := .later }
def QueryLeavesUptoCardSaid : Prop := Claim7.holds Tryd.pinned (.plain (OpenSpec.upto queryLeavesSpec)) queryLeavesUptoCard

/-- THE SECOND FORM's CARD OF 'fascinelaw06.QueryDeep'. -/
def queryDeepUptoCard : Claim7 := { stood := { row := queryDeepUptoRow, standIns := [], harness := (true, "d3ffc3d6cb299aad0c95587c5f2dd3cb44849534fcba0c0586a1bbd8a831708d"), looks := true }, kinds := [], alts := [], laidByText := true, laidKinds := [.data, .data, .data, .data, .sentinel, .sentinel, .pinned], laidTests := true, laidLooks := .later }
def QueryDeepUptoCardSaid : Prop := Claim7.holds Tryd.pinned (.plain (OpenSpec.upto queryDeepSpec)) queryDeepUptoCard

/-- THE SECOND FORM's CARD OF 'fascinelaw06.QueryBack'. -/
def queryBackUptoCard : Claim7 := { stood := { row := queryBackUptoRow, standIns := [], harness := (true, "d3ffc3d6cb299aad0c95587c5f2dd3cb44849534fcba0c0586a1bbd8a831708d"), looks := true }, kinds := [], alts := [], laidByText := true, laidKinds := [.data, .data, .data, .data, .sentinel, .sentinel, .pinned], laidTests := true, laidLooks := .later }
def QueryBackUptoCardSaid : Prop := Claim7.holds Tryd.pinned (.plain (OpenSpec.upto queryBackSpec)) queryBackUptoCard
end Rows
end Go.Proofs.YtlmmbefejmbpeaaDoor
