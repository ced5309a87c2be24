/-
  DERIVED. GIVEN WITH THE SEED: THE CARDS: each row of YtjecdciabpjgcaaGreatDoorRows.lean that lists a variable, with what it lists TIED to the program's text (the seventh form; the later family's looks); each row that meets fmt, with fmt's text TOLD by the authors' own Lean function (tested against real Go, not proved from fmt's source: count such statements apart). THE CARD IS WHAT COUNTS. Prove the row's statement (the work); the ties are given (YtjecdciabpjgcaaGreatDoorTie.lean); close each card by the builder's one call (the guide's Derived/Test/ToyasCard.lean, 'card_holds'). Laid BY PROGRAM, IN A SANDBOX (cutbox-door.mjs). By AI agents, Wed Nov 11 2026. No macro, syntax, notation, axiom, sorry.
-/
import Derived.Test.YtjecdciabpjgcaaGreatDoorRows
import GoSem.ClaimSeven
namespace Go.Proofs.YtjecdciabpjgcaaGreatDoor
namespace Rows

/-- THE TIED CARD OF 'bodkinlaw08.LiteralInts'. -/
def literalIntsCard : Claim7 := { stood := { row := literalIntsRow, standIns := [], harness := (true, "d132eb9a0b0c3394e0c57f5579d09f0bab0cb2e7c014e711738dfc5152216922"), looks := false }, kinds := [], alts := [], laidByText := true, laidKinds := [.data, .data, .data, .data, .pinned], laidTests := true, laidLooks := .later }
def LiteralIntsCardSaid : Prop := Claim7.holds Tryz.pinned (.plain (OpenSpec.ofChange literalIntsSpec)) literalIntsCard

/-- THE TIED CARD OF 'bodkinlaw08.LiteralSigns'. -/
def literalSignsCard : Claim7 := { stood := { row := literalSignsRow, standIns := [], harness := (true, "d132eb9a0b0c3394e0c57f5579d09f0bab0cb2e7c014e711738dfc5152216922"), looks := false }, kinds := [], alts := [], laidByText := true, laidKinds := [.data, .data, .data, .data, .pinned], laidTests := true, laidLooks := .later }
def LiteralSignsCardSaid : Prop := Claim7.holds Tryz.pinned (.plain (OpenSpec.ofChange literalSignsSpec)) literalSignsCard

/-- THE TIED CARD OF 'bodkinlaw08.LiteralShows'. -/
def literalShowsCard : Claim7 := { stood := { row := literalShowsRow, standIns := [], harness := (true, "d132eb9a0b0c3394e0c57f5579d09f0bab0cb2e7c014e711738dfc5152216922"), looks := false }, kinds := [], alts := [], laidByText := true, laidKinds := [.data, .data, .data, .data, .pinned], laidTests := true, laidLooks := .later }
def LiteralShowsCardSaid : Prop := Claim7.holds Tryz.pinned (.plain (OpenSpec.ofChange literalShowsSpec)) literalShowsCard

/-- THE TIED CARD OF 'bodkinlaw21.ScriptExact'. -/
def scriptExactCard : Claim7 := { stood := { row := scriptExactRow, standIns := [], harness := (true, "d132eb9a0b0c3394e0c57f5579d09f0bab0cb2e7c014e711738dfc5152216922"), looks := false }, kinds := [], alts := [], laidByText := true, laidKinds := [.data, .pinned], laidTests := true, laidLooks := .later }
def ScriptExactCardSaid : Prop := Claim7.holds Tryz.pinned (.plain (OpenSpec.ofChange scriptExactSpec)) scriptExactCard

/-- THE TIED CARD OF 'bodkinlaw21.ScriptFits'. -/
def scriptFitsCard : Claim7 := { stood := { row := scriptFitsRow, standIns := [], harness := (true, "d132eb9a0b0c3394e0c57f5579d09f0bab0cb2e7c014e711738dfc5152216922"), looks := false }, kinds := [], alts := [], laidByText := true, laidKinds := [.data, .pinned], laidTests := true, laidLooks := .later }
def ScriptFitsCardSaid : Prop := Claim7.holds Tryz.pinned (.plain (OpenSpec.ofChange scriptFitsSpec)) scriptFitsCard

/-- THE TIED CARD OF 'bodkinlaw21.ScriptJoins'. -/
def scriptJoinsCard : Claim7 := { stood := { row := scriptJoinsRow, standIns := [], harness := (true, "d132eb9a0b0c3394e0c57f5579d09f0bab0cb2e7c014e711738dfc5152216922"), looks := false }, kinds := [], alts := [], laidByText := true, laidKinds := [.data, .pinned], laidTests := true, laidLooks := .later }
def ScriptJoinsCardSaid : Prop := Claim7.holds Tryz.pinned (.plain (OpenSpec.ofChange scriptJoinsSpec)) scriptJoinsCard

/-- THE SECOND FORM's CARD OF 'bodkinlaw08.LiteralInts'. -/
def literalIntsUptoCard : Claim7 := { stood := { row := literalIntsUptoRow, standIns := [], harness := (true, "d132eb9a0b0c3394e0c57f5579d09f0bab0cb2e7c014e711738dfc5152216922"), looks := false }, kinds := [], alts := [], laidByText := true, laidKinds := [.data, .data, .data, .data, .pinned], laidTests := true, laidLooks := .later }
def LiteralIntsUptoCardSaid : Prop := Claim7.holds Tryz.pinned (.plain (OpenSpec.upto literalIntsSpec)) literalIntsUptoCard

/-- THE SECOND FORM's CARD OF 'bodkinlaw08.LiteralSigns'. -/
def literalSignsUptoCard : Claim7 := { stood := { row := literalSignsUptoRow, standIns := [], harness := (true, "d132eb9a0b0c3394e0c57f5579d09f0bab0cb2e7c014e711738dfc5152216922"), looks := false }, kinds := [], alts := [], laidByText := true, laidKinds := [.data, .data, .data, .data, .pinned], laidTests := true, laidLooks := .later }
def LiteralSignsUptoCardSaid : Prop := Claim7.holds Tryz.pinned (.plain (OpenSpec.upto literalSignsSpec)) literalSignsUptoCard

/-- THE SECOND FORM's CARD OF 'bodkinlaw08.LiteralShows'. -/
def literalShowsUptoCard : Claim7 := { stood := { row := literalShowsUptoRow, standIns := [], harness := (true, "d132eb9a0b0c3394e0c57f5579d09f0bab0cb2e7c014e711738dfc5152216922"), looks := false }, kinds := [], alts := [], laidByText := true, laidKinds := [.data, .data, .data, .data, .pinned], laidTests := true, laidLooks := .later }
def LiteralShowsUptoCardSaid : Prop := Claim7.holds Tryz.pinned (.plain (OpenSpec.upto literalShowsSpec)) literalShowsUptoCard

/-- THE SECOND FORM's CARD OF 'bodkinlaw21.ScriptExact'. -/
def scriptExactUptoCard : Claim7 := { stood := { row := scriptExactUptoRow, standIns := [], harness := (true, "d132eb9a0b0c3394e0c57f5579d09f0bab0cb2e7c014e711738dfc5152216922"), looks := false }, kinds := [], alts := [], laidByText := true, laidKinds := [.data, .pinned], laidTests := true, laidLooks := .later }
def ScriptExactUptoCardSaid : Prop := Claim7.holds Tryz.pinned (.plain (OpenSpec.upto scriptExactSpec)) scriptExactUptoCard

/-- THE SECOND FORM's CARD OF 'bodkinlaw21.ScriptFits'. -/
def scriptFitsUptoCard : Claim7 := { stood := { row := scriptFitsUptoRow, standIns := [], harness := (true, "d132eb9a0b0c3394e0c57f5579d09f0bab0cb2e7c014e711738dfc5152216922"), looks := false }, kinds := [], alts := [], laidByText := true, laidKinds := [.data, .pinned], laidTests := true, laidLooks := .later }
def ScriptFitsUptoCardSaid : Prop := Claim7.holds Tryz.pinned (.plain (OpenSpec.upto scriptFitsSpec)) scriptFitsUptoCard

/-- THE SECOND FORM's CARD OF 'bodkinlaw21.ScriptJoins'. -/
def scriptJoinsUptoCard : Claim7 := { stood := { row := scriptJoinsUptoRow, standIns := [], harness := (true, "d132eb9a0b0c3394e0c57f5579d09f0bab0cb2e7c014e711738dfc5152216922"), looks := false }, kinds := [], alts := [], laidByText := true, laidKinds := [.data, .pinned], laidTests := true, laidLooks := .later }
def ScriptJoinsUptoCardSaid : Prop := Claim7.holds Tryz.pinned (.plain (OpenSpec.upto scriptJoinsSpec)) scriptJoinsUptoCard
end Rows
end Go.Proofs.YtjecdciabpjgcaaGreatDoor
