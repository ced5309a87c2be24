/-
  DERIVED. GIVEN WITH THE SEED: THE CARDS: each row of YtjecdciabpjgcaaDoorRows.lean that lists a variable, with what it lists TIED to the program's text (the seventh form; the later family's looks); each row that meets fmt, with fmt's text TOLD by the authors' own Lean function (tested against real Go, not proved from fmt's source: count such statements apart). THE CARD IS WHAT COUNTS. Prove the row's statement (the work); the ties are given (YtjecdciabpjgcaaDoorTie.lean); close each card by the builder's one call (the guide's Derived/Test/ToyasCard.lean, 'card_holds'). Laid BY PROGRAM, IN A SANDBOX (cutbox-door.mjs). By AI agents, Wed Nov 11 2026. No macro, syntax, notation, axiom, sorry.
-/
import Derived.Test.YtjecdciabpjgcaaDoorRows
import GoSem.ClaimSeven
namespace Go.Proofs.YtjecdciabpjgcaaDoor
namespace Rows

/-- THE TIED CARD OF 'bodkinlaw18.LexTokens'. -/
def lexTokensCard : Claim7 := { stood := { row := lexTokensRow, standIns := [], harness := (true, "679b428cb12ff85c76b92cf3e26e915547ff4b1345c319411b1ae4fb13688f79"), looks := false }, kinds := [], alts := [], laidByText := true, laidKinds := [.data, .pinned], laidTests := true, laidLooks := .later }
def LexTokensCardSaid : Prop := Claim7.holds Tryd.pinned (.plain (OpenSpec.ofChange lexTokensSpec)) lexTokensCard

/-- THE TIED CARD OF 'bodkinlaw18.LexTrees'. -/
def lexTreesCard : Claim7 := { stood := { row := lexTreesRow, standIns := [], harness := (true, "679b428cb12ff85c76b92cf3e26e915547ff4b1345c319411b1ae4fb13688f79"), looks := false }, kinds := [], alts := [], laidByText := true, laidKinds := [.data, .pinned], laidTests := true, laidLooks := .later }
def LexTreesCardSaid : Prop := Claim7.holds Tryd.pinned (.plain (OpenSpec.ofChange lexTreesSpec)) lexTreesCard

/-- THE TIED CARD OF 'bodkinlaw18.LexQuotes'. -/
def lexQuotesCard : Claim7 := { stood := { row := lexQuotesRow, standIns := [], harness := (true, "679b428cb12ff85c76b92cf3e26e915547ff4b1345c319411b1ae4fb13688f79"), looks := false }, kinds := [], alts := [], laidByText := true, laidKinds := [.data, .pinned], laidTests := true, laidLooks := .later }
def LexQuotesCardSaid : Prop := Claim7.holds Tryd.pinned (.plain (OpenSpec.ofChange lexQuotesSpec)) lexQuotesCard

/-- THE TIED CARD OF 'bodkinlaw18.LexSpaces'. -/
def lexSpacesCard : Claim7 := { stood := { row := lexSpacesRow, standIns := [], harness := (true, "679b428cb12ff85c76b92cf3e26e915547ff4b1345c319411b1ae4fb13688f79"), looks := false }, kinds := [], alts := [], laidByText := true, laidKinds := [.data, .pinned], laidTests := true, laidLooks := .later }
def LexSpacesCardSaid : Prop := Claim7.holds Tryd.pinned (.plain (OpenSpec.ofChange lexSpacesSpec)) lexSpacesCard

/-- THE TIED CARD OF 'bodkinlaw18.LexDeep'. -/
def lexDeepCard : Claim7 := { stood := { row := lexDeepRow, standIns := [], harness := (true, "679b428cb12ff85c76b92cf3e26e915547ff4b1345c319411b1ae4fb13688f79"), looks := false }, kinds := [], alts := [], laidByText := true, laidKinds := [.data, .pinned], laidTests := true, laidLooks := .later }
def LexDeepCardSaid : Prop := Claim7.holds Tryd.pinned (.plain (OpenSpec.ofChange lexDeepSpec)) lexDeepCard

/-- THE TIED CARD OF 'bodkinlaw18.LexStrings'. -/
def lexStringsCard : Claim7 := { stood := { row := lexStringsRow, standIns := [], harness := (true, "679b428cb12ff85c76b92cf3e26e915547ff4b1345c319411b1ae4fb13688f79"), looks := false }, kinds := [], alts := [], laidByText := true, laidKinds := [.data, .pinned], laidTests := true, laidLooks := .later }
def LexStringsCardSaid : Prop := Claim7.holds Tryd.pinned (.plain (OpenSpec.ofChange lexStringsSpec)) lexStringsCard

/-- THE SECOND FORM's CARD OF 'bodkinlaw18.LexTokens'. -/
def lexTokensUptoCard : Claim7 := { stood := { row := lexTokensUptoRow, standIns := [], harness := (true, "679b428cb12ff85c76b92cf3e26e915547ff4b1345c319411b1ae4fb13688f79"), looks := false }, kinds := [], alts := [], laidByText := true, laidKinds := [.data, .pinned], laidTests := true, laidLooks := .later }
def LexTokensUptoCardSaid : Prop := Claim7.holds Tryd.pinned (.plain (OpenSpec.upto lexTokensSpec)) lexTokensUptoCard

/-- THE SECOND FORM's CARD OF 'bodkinlaw18.LexTrees'. -/
def lexTreesUptoCard : Claim7 := { stood := { row := lexTreesUptoRow, standIns := [], harness := (true, "679b428cb12ff85c76b92cf3e26e915547ff4b1345c319411b1ae4fb13688f79"), looks := false }, kinds := [], alts := [], laidByText := true, laidKinds := [.data, .pinned], laidTests := true, laidLooks := .later }
def LexTreesUptoCardSaid : Prop := Claim7.holds Tryd.pinned (.plain (OpenSpec.upto lexTreesSpec)) lexTreesUptoCard

/-- THE SECOND FORM's CARD OF 'bodkinlaw18.LexQuotes'. -/
def lexQuotesUptoCard : Claim7 := { stood := { row := lexQuotesUptoRow, standIns := [], harness := (true, "679b428cb12ff85c76b92cf3e26e915547ff4b1345c319411b1ae4fb13688f79"), looks := false }, kinds := [], alts := [], laidByText := true, laidKinds := [.data, .pinned], laidTests := true, laidLooks := .later }
def LexQuotesUptoCardSaid : Prop := Claim7.holds Tryd.pinned (.plain (OpenSpec.upto lexQuotesSpec)) lexQuotesUptoCard

/-- THE SECOND FORM's CARD OF 'bodkinlaw18.LexSpaces'. -/
def lexSpacesUptoCard : Claim7 := { stood := { row := lexSpacesUptoRow, standIns := [], harness := (true, "679b428cb12ff85c76b92cf3e26e915547ff4b1345c319411b1ae4fb13688f79"), looks := false }, kinds := [], alts := [], laidByText := true, laidKinds := [.data, .pinned], laidTests := true, laidLooks := .later }
def LexSpacesUptoCardSaid : Prop := Claim7.holds Tryd.pinned (.plain (OpenSpec.upto lexSpacesSpec)) lexSpacesUptoCard

/-- THE SECOND FORM's CARD OF 'bodkinlaw18.LexDeep'. -/
def lexDeepUptoCard : Claim7 := { stood := { row := lexDeepUptoRow, standIns := [], harness := (true, "679b428cb12ff85c76b92cf3e26e915547ff4b1345c319411b1ae4fb13688f79"), looks := false }, kinds := [], alts := [], laidByText := true, laidKinds := [.data, .pinned], laidTests := true, laidLooks := .later }
def LexDeepUptoCardSaid : Prop := Claim7.holds Tryd.pinned (.plain (OpenSpec.upto lexDeepSpec)) lexDeepUptoCard

/-- THE SECOND FORM's CARD OF 'bodkinlaw18.LexStrings'. -/
def lexStringsUptoCard : Claim7 := { stood := { row := lexStringsUptoRow, standIns := [], harness := (true, "679b428cb12ff85c76b92cf3e26e915547ff4b1345c319411b1ae4fb13688f79"), looks := false }, kinds := [], alts := [], laidByText := true, laidKinds := [.data, .pinned], laidTests := true, laidLooks := .later }
def LexStringsUptoCardSaid : Prop := Claim7.holds Tryd.pinned (.plain (OpenSpec.upto lexStringsSpec)) lexStringsUptoCard
end Rows
end Go.Proofs.YtjecdciabpjgcaaDoor
