/-
  DERIVED. GIVEN WITH THE SEED: THE CARDS: each row of YtpkjfpapjcmhdaaDoorRows.lean that lists a variable, with what it lists TIED to the program's text (the seventh form; the later family's looks); each row that meets fmt, with fmt's text TOLD by the authors' own Lean function (tested against real Go, not proved from fmt's source: count such statements apart). THE CARD IS WHAT COUNTS. Prove the row's statement (the work); the ties are given (YtpkjfpapjcmhdaaDoorTie.lean); close each card by the builder's one call (the guide's Derived/Test/ToyasCard.lean, 'card_holds'). Laid BY PROGRAM, IN A SANDBOX (cutbox-door.mjs). By AI agents, Wed Nov 11 2026. No macro, syntax, notation, axiom, sorry.
-/
import Derived.Test.YtpkjfpapjcmhdaaDoorRows
import GoSem.ClaimSeven
namespace Go.Proofs.YtpkjfpapjcmhdaaDoor
namespace Rows

/-- THE TIED CARD OF 'fascinelaw05.WordsTerms'. -/
def wordsTermsCard : Claim7 := { stood := { row := wordsTermsRow, standIns := [], harness := (true, "4452d883294af59ff61fc4e6e3f14d955ffbae4d28e4589a61bbbde5f54bcf1a"), looks := false }, kinds := [], alts := [], laidByText := true, laidKinds := [.data, .pinned], laidTests := true, laidLooks := .later }
def WordsTermsCardSaid : Prop := Claim7.holds Tryd.pinned (.plain (OpenSpec.ofChange wordsTermsSpec)) wordsTermsCard

/-- THE TIED CARD OF 'fascinelaw05.WordsCase'. -/
def wordsCaseCard : Claim7 := { stood := { row := wordsCaseRow, standIns := [], harness := (true, "4452d883294af59ff61fc4e6e3f14d955ffbae4d28e4589a61bbbde5f54bcf1a"), looks := false }, kinds := [], alts := [], laidByText := true, laidKinds := [.data, .pinned], laidTests := true, laidLooks := .later }
def WordsCaseCardSaid : Prop := Claim7.holds Tryd.pinned (.plain (OpenSpec.ofChange wordsCaseSpec)) wordsCaseCard

/-- THE TIED CARD OF 'fascinelaw05.WordsJoin'. -/
def wordsJoinCard : Claim7 := { stood := { row := wordsJoinRow, standIns := [], harness := (true, "4452d883294af59ff61fc4e6e3f14d955ffbae4d28e4589a61bbbde5f54bcf1a"), looks := false }, kinds := [], alts := [], laidByText := true, laidKinds := [.data, .pinned], laidTests := true, laidLooks := .later }
def WordsJoinCardSaid : Prop := Claim7.holds Tryd.pinned (.plain (OpenSpec.ofChange wordsJoinSpec)) wordsJoinCard

/-- THE TIED CARD OF 'fascinelaw05.WordsTold'. -/
def wordsToldCard : Claim7 := { stood := { row := wordsToldRow, standIns := [], harness := (true, "4452d883294af59ff61fc4e6e3f14d955ffbae4d28e4589a61bbbde5f54bcf1a"), looks := false }, kinds := [], alts := [], laidByText := true, laidKinds := [.data, .pinned], laidTests := true, laidLooks := .later }
def WordsToldCardSaid : Prop := Claim7.holds Tryd.pinned (.plain (OpenSpec.ofChange wordsToldSpec)) wordsToldCard

/-- THE TIED CARD OF 'fascinelaw05.WordsAlone'. -/
def wordsAloneCard : Claim7 := { stood := { row := wordsAloneRow, standIns := [], harness := (true, "4452d883294af59ff61fc4e6e3f14d955ffbae4d28e4589a61bbbde5f54bcf1a"), looks := false }, kinds := [], alts := [], laidByText := true, laidKinds := [.data, .pinned], laidTests := true, laidLooks := .later }
def WordsAloneCardSaid : Prop := Claim7.holds Tryd.pinned (.plain (OpenSpec.ofChange wordsAloneSpec)) wordsAloneCard

/-- THE TIED CARD OF 'fascinelaw07.MatchTerms'. -/
def matchTermsCard : Claim7 := { stood := { row := matchTermsRow, standIns := [], harness := (true, "4452d883294af59ff61fc4e6e3f14d955ffbae4d28e4589a61bbbde5f54bcf1a"), looks := false }, kinds := [], alts := [], laidByText := true, laidKinds := [.data, .pinned], laidTests := true, laidLooks := .later }
def MatchTermsCardSaid : Prop := Claim7.holds Tryd.pinned (.plain (OpenSpec.ofChange matchTermsSpec)) matchTermsCard

/-- THE TIED CARD OF 'fascinelaw07.MatchTimes'. -/
def matchTimesCard : Claim7 := { stood := { row := matchTimesRow, standIns := [], harness := (true, "4452d883294af59ff61fc4e6e3f14d955ffbae4d28e4589a61bbbde5f54bcf1a"), looks := false }, kinds := [], alts := [], laidByText := true, laidKinds := [.data, .pinned], laidTests := true, laidLooks := .later }
def MatchTimesCardSaid : Prop := Claim7.holds Tryd.pinned (.plain (OpenSpec.ofChange matchTimesSpec)) matchTimesCard

/-- THE TIED CARD OF 'fascinelaw07.MatchOrder'. -/
def matchOrderCard : Claim7 := { stood := { row := matchOrderRow, standIns := [], harness := (true, "4452d883294af59ff61fc4e6e3f14d955ffbae4d28e4589a61bbbde5f54bcf1a"), looks := false }, kinds := [], alts := [], laidByText := true, laidKinds := [.data, .pinned], laidTests := true, laidLooks := .later }
def MatchOrderCardSaid : Prop := Claim7.holds Tryd.pinned (.plain (OpenSpec.ofChange matchOrderSpec)) matchOrderCard

/-- THE SECOND FORM's CARD OF 'fascinelaw05.WordsTerms'. -/
def wordsTermsUptoCard : Claim7 := { stood := { row := wordsTermsUptoRow, standIns := [], harness := (true, "4452d883294af59ff61fc4e6e3f14d955ffbae4d28e4589a61bbbde5f54bcf1a"), looks := false }, kinds := [], alts := [], laidByText := true, laidKinds := [.data, .pinned], laidTests := true, laidLooks := .later }
def WordsTermsUptoCardSaid : Prop := Claim7.holds Tryd.pinned (.plain (OpenSpec.upto wordsTermsSpec)) wordsTermsUptoCard

/-- THE SECOND FORM's CARD OF 'fascinelaw05.WordsCase'. -/
def wordsCaseUptoCard : Claim7 := { stood := { row := wordsCaseUptoRow, standIns := [], harness := (true, "4452d883294af59ff61fc4e6e3f14d955ffbae4d28e4589a61bbbde5f54bcf1a"), looks := false }, kinds := [], alts := [], laidByText := true, laidKinds := [.data, .pinned], laidTests := true, laidLooks := .later }
def WordsCaseUptoCardSaid : Prop := Claim7.holds Tryd.pinned (.plain (OpenSpec.upto wordsCaseSpec)) wordsCaseUptoCard

/-- THE SECOND FORM's CARD OF 'fascinelaw05.WordsJoin'. -/
def wordsJoinUptoCard : Claim7 := { stood := { row := wordsJoinUptoRow, standIns := [], harness := (true, "4452d883294af59ff61fc4e6e3f14d955ffbae4d28e4589a61bbbde5f54bcf1a"), looks := false }, kinds := [], alts := [], laidByText := true, laidKinds := [.data, .pinned], laidTests := true, laidLooks := .later }
def WordsJoinUptoCardSaid : Prop := Claim7.holds Tryd.pinned (.plain (OpenSpec.upto wordsJoinSpec)) wordsJoinUptoCard

/-- THE SECOND FORM's CARD OF 'fascinelaw05.WordsTold'. -/
def wordsToldUptoCard : Claim7 := { stood := { row := wordsToldUptoRow, standIns := [], harness := (true, "4452d883294af59ff61fc4e6e3f14d955ffbae4d28e4589a61bbbde5f54bcf1a"), looks := false }, kinds := [], alts := [], laidByText := true, laidKinds := [.data, .pinned], laidTests := true, laidLooks := .later }
def WordsToldUptoCardSaid : Prop := Claim7.holds Tryd.pinned (.plain (OpenSpec.upto wordsToldSpec)) wordsToldUptoCard

/-- THE SECOND FORM's CARD OF 'fascinelaw05.WordsAlone'. -/
def wordsAloneUptoCard : Claim7 := { stood := { row := wordsAloneUptoRow, standIns := [], harness := (true, "4452d883294af59ff61fc4e6e3f14d955ffbae4d28e4589a61bbbde5f54bcf1a"), looks := false }, kinds := [], alts := [], laidByText := true, laidKinds := [.data, .pinned], laidTests := true, laidLooks := .later }
def WordsAloneUptoCardSaid : Prop := Claim7.holds Tryd.pinned (.plain (OpenSpec.upto wordsAloneSpec)) wordsAloneUptoCard

/-- THE SECOND FORM's CARD OF 'fascinelaw07.MatchTerms'. -/
def matchTermsUptoCard : Claim7 := { stood := { row := matchTermsUptoRow, standIns := [], harness := (true, "4452d883294af59ff61fc4e6e3f14d955ffbae4d28e4589a61bbbde5f54bcf1a"), looks := false }, kinds := [], alts := [], laidByText := true, laidKinds := [.data, .pinned], laidTests := true, laidLooks := .later }
def MatchTermsUptoCardSaid : Prop := Claim7.holds Tryd.pinned (.plain (OpenSpec.upto matchTermsSpec)) matchTermsUptoCard

/-- THE SECOND FORM's CARD OF 'fascinelaw07.MatchTimes'. -/
def matchTimesUptoCard : Claim7 := { stood := { row := matchTimesUptoRow, standIns := [], harness := (true, "4452d883294af59ff61fc4e6e3f14d955ffbae4d28e4589a61bbbde5f54bcf1a"), looks := false }, kinds := [], alts := [], laidByText := true, laidKinds := [.data, .pinned], laidTests := true, laidLooks := .later }
def MatchTimesUptoCardSaid : Prop := Claim7.holds Tryd.pinned (.plain (OpenSpec.upto matchTimesSpec)) matchTimesUptoCard

/-- THE SECOND FORM's CARD OF 'fascinelaw07.MatchOrder'. -/
def matchOrderUptoCard : Claim7 := { stood := { row := matchOrderUptoRow, standIns := [], harness := (true, "4452d883294af59ff61fc4e6e3f14d955ffbae4d28e4589a61bbbde5f54bcf1a"), looks := false }, kinds := [], alts := [], laidByText := true, laidKinds := [.data, .pinned], laidTests := true, laidLooks := .later }
def MatchOrderUptoCardSaid : Prop := Claim7.holds Tryd.pinned (.plain (OpenSpec.upto matchOrderSpec)) matchOrderUptoCard
end Rows
end Go.Proofs.YtpkjfpapjcmhdaaDoor
