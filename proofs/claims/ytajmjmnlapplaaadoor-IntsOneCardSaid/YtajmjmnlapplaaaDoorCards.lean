/-
  DERIVED. GIVEN WITH THE SEED: THE CARDS: each row of YtajmjmnlapplaaaDoorRows.lean that lists a variable, with what it lists TIED to the program's text (the seventh form; the later family's looks); each row that meets fmt, with fmt's text TOLD by the authors' own Lean function (tested against real Go, not proved from fmt's source: count such statements apart). THE CARD IS WHAT COUNTS. Prove the row's statement (the work); the ties are given (YtajmjmnlapplaaaDoorTie.lean); close each card by the builder's one call (the guide's Derived/Test/ToyasCard.lean, 'card_holds'). Laid BY PROGRAM, IN A SANDBOX (cutbox-door.mjs). By AI agents, Wed Nov 11 2026. No macro, syntax, notation, axiom, sorry.
-/
import Derived.Test.YtajmjmnlapplaaaDoorRows
import GoSem.ClaimSeven
namespace Go.Proofs.YtajmjmnlapplaaaDoor
namespace Rows

/-- THE TIED CARD OF 'bodkinlaw02.IntsBin'. -/
def intsBinCard : Claim7 := { stood := { row := intsBinRow, standIns := [], harness := (true, "051948189edd97c7840f2ee46c4f675d9b7d7e9812e3c18726a38787e03cc30d"), looks := false }, kinds := [], alts := [], laidByText := true, laidKinds := [.data], laidTests := true, laidLooks := .later }
def IntsBinCardSaid : Prop := Claim7.holds Tryd.pinned (.plain (OpenSpec.ofChange intsBinSpec)) intsBinCard

/-- THE TIED CARD OF 'bodkinlaw02.IntsAll'. -/
def intsAllCard : Claim7 := { stood := { row := intsAllRow, standIns := [], harness := (true, "051948189edd97c7840f2ee46c4f675d9b7d7e9812e3c18726a38787e03cc30d"), looks := false }, kinds := [], alts := [], laidByText := true, laidKinds := [.data], laidTests := true, laidLooks := .later }
def IntsAllCardSaid : Prop := Claim7.holds Tryd.pinned (.plain (OpenSpec.ofChange intsAllSpec)) intsAllCard

/-- THE TIED CARD OF 'bodkinlaw02.IntsOne'. -/
def intsOneCard : Claim7 := { stood := { row := intsOneRow, standIns := [], harness := (true, "051948189edd97c7840f2ee46c4f675d9b7d7e9812e3c18726a38787e03cc30d"), looks := false }, kinds := [], alts := [], laidByText := true, laidKinds := [.data], laidTests := true, laidLooks := .later }
def IntsOneCardSaid : Prop := Claim7.holds Tryd.pinned (.plain (OpenSpec.ofChange intsOneSpec)) intsOneCard

/-- THE TIED CARD OF 'bodkinlaw02.IntsDivides'. -/
def intsDividesCard : Claim7 := { stood := { row := intsDividesRow, standIns := [], harness := (true, "051948189edd97c7840f2ee46c4f675d9b7d7e9812e3c18726a38787e03cc30d"), looks := false }, kinds := [], alts := [], laidByText := true, laidKinds := [.data], laidTests := true, laidLooks := .later }
def IntsDividesCardSaid : Prop := Claim7.holds Tryd.pinned (.plain (OpenSpec.ofChange intsDividesSpec)) intsDividesCard

/-- THE TIED CARD OF 'bodkinlaw02.IntsRound'. -/
def intsRoundCard : Claim7 := { stood := { row := intsRoundRow, standIns := [], harness := (true, "051948189edd97c7840f2ee46c4f675d9b7d7e9812e3c18726a38787e03cc30d"), looks := false }, kinds := [], alts := [], laidByText := true, laidKinds := [.data], laidTests := true, laidLooks := .later }
def IntsRoundCardSaid : Prop := Claim7.holds Tryd.pinned (.plain (OpenSpec.ofChange intsRoundSpec)) intsRoundCard

/-- THE TIED CARD OF 'bodkinlaw02.IntsStand'. -/
def intsStandCard : Claim7 := { stood := { row := intsStandRow, standIns := [], harness := (true, "051948189edd97c7840f2ee46c4f675d9b7d7e9812e3c18726a38787e03cc30d"), looks := false }, kinds := [], alts := [], laidByText := true, laidKinds := [.data], laidTests := true, laidLooks := .later }
def IntsStandCardSaid : Prop := Claim7.holds Tryd.pinned (.plain (OpenSpec.ofChange intsStandSpec)) intsStandCard

/-- THE TIED CARD OF 'bodkinlaw02.IntsSums'. -/
def intsSumsCard : Claim7 := { stood := { row := intsSumsRow, standIns := [], harness := (true, "051948189edd97c7840f2ee46c4f675d9b7d7e9812e3c18726a38787e03cc30d"), looks := false }, kinds := [], alts := [], laidByText := true, laidKinds := [.data], laidTests := true, laidLooks := .later }
def IntsSumsCardSaid : Prop := Claim7.holds Tryd.pinned (.plain (OpenSpec.ofChange intsSumsSpec)) intsSumsCard

/-- THE TIED CARD OF 'bodkinlaw02.IntsQuotients'. -/
def intsQuotientsCard : Claim7 := { stood := { row := intsQuotientsRow, standIns := [], harness := (true, "051948189edd97c7840f2ee46c4f675d9b7d7e9812e3c18726a38787e03cc30d"), looks := false }, kinds := [], alts := [], laidByText := true, laidKinds := [.data], laidTests := true, laidLooks := .later }
def IntsQuotientsCardSaid : Prop := Claim7.holds Tryd.pinned (.plain (OpenSpec.ofChange intsQuotientsSpec)) intsQuotientsCard

/-- THE TIED CARD OF 'bodkinlaw02.IntsBits'. -/
def intsBitsCard : Claim7 := { stood := { row := intsBitsRow, standIns := [], harness := (true, "051948189edd97c7840f2ee46c4f675d9b7d7e9812e3c18726a38787e03cc30d"), looks := false }, kinds := [], alts := [], laidByText := true, laidKinds := [.data], laidTests := true, laidLooks := .later }
def IntsBitsCardSaid : Prop := Claim7.holds Tryd.pinned (.plain (OpenSpec.ofChange intsBitsSpec)) intsBitsCard

/-- THE TIED CARD OF 'bodkinlaw02.IntsMoves'. -/
def intsMovesCard : Claim7 := { stood := { row := intsMovesRow, standIns := [], harness := (true, "051948189edd97c7840f2ee46c4f675d9b7d7e9812e3c18726a38787e03cc30d"), looks := false }, kinds := [], alts := [], laidByText := true, laidKinds := [.data], laidTests := true, laidLooks := .later }
def IntsMovesCardSaid : Prop := Claim7.holds Tryd.pinned (.plain (OpenSpec.ofChange intsMovesSpec)) intsMovesCard

/-- THE TIED CARD OF 'bodkinlaw02.IntsHeld'. -/
def intsHeldCard : Claim7 := { stood := { row := intsHeldRow, standIns := [], harness := (true, "051948189edd97c7840f2ee46c4f675d9b7d7e9812e3c18726a38787e03cc30d"), looks := false }, kinds := [], alts := [], laidByText := true, laidKinds := [.data], laidTests := true, laidLooks := .later }
def IntsHeldCardSaid : Prop := Claim7.holds Tryd.pinned (.plain (OpenSpec.ofChange intsHeldSpec)) intsHeldCard

/-- THE TIED CARD OF 'bodkinlaw02.IntsEnds'. -/
def intsEndsCard : Claim7 := { stood := { row := intsEndsRow, standIns := [], harness := (true, "051948189edd97c7840f2ee46c4f675d9b7d7e9812e3c18726a38787e03cc30d"), looks := false }, kinds := [], alts := [], laidByText := true, laidKinds := [.data], laidTests := true, laidLooks := .later }
def IntsEndsCardSaid : Prop := Claim7.holds Tryd.pinned (.plain (OpenSpec.ofChange intsEndsSpec)) intsEndsCard

/-- THE SECOND FORM's CARD OF 'bodkinlaw02.IntsBin'. -/
def intsBinUptoCard : Claim7 := { stood := { row := intsBinUptoRow, standIns := [], harness := (true, "051948189edd97c7840f2ee46c4f675d9b7d7e9812e3c18726a38787e03cc30d"), looks := false }, kinds := [], alts := [], laidByText := true, laidKinds := [.data], laidTests := true, laidLooks := .later }
def IntsBinUptoCardSaid : Prop := Claim7.holds Tryd.pinned (.plain (OpenSpec.upto intsBinSpec)) intsBinUptoCard

/-- THE SECOND FORM's CARD OF 'bodkinlaw02.IntsAll'. -/
def intsAllUptoCard : Claim7 := { stood := { row := intsAllUptoRow, standIns := [], harness := (true, "051948189edd97c7840f2ee46c4f675d9b7d7e9812e3c18726a38787e03cc30d"), looks := false }, kinds := [], alts := [], laidByText := true, laidKinds := [.data], laidTests := true, laidLooks := .later }
def IntsAllUptoCardSaid : Prop := Claim7.holds Tryd.pinned (.plain (OpenSpec.upto intsAllSpec)) intsAllUptoCard

/-- THE SECOND FORM's CARD OF 'bodkinlaw02.IntsOne'. -/
def intsOneUptoCard : Claim7 := { stood := { row := intsOneUptoRow, standIns := [], harness := (true, "051948189edd97c7840f2ee46c4f675d9b7d7e9812e3c18726a38787e03cc30d"), looks := false }, kinds := [], alts := [], laidByText := true, laidKinds := [.data], laidTests := true, laidLooks := .later }
def IntsOneUptoCardSaid : Prop := Claim7.holds Tryd.pinned (.plain (OpenSpec.upto intsOneSpec)) intsOneUptoCard

/-- THE SECOND FORM's CARD OF 'bodkinlaw02.IntsDivides'. -/
def intsDividesUptoCard : Claim7 := { stood := { row := intsDividesUptoRow, standIns := [], harness := (true, "051948189edd97c7840f2ee46c4f675d9b7d7e9812e3c18726a38787e03cc30d"), looks := false }, kinds := [], alts := [], laidByText := true, laidKinds := [.data], laidTests := true, laidLooks := .later }
def IntsDividesUptoCardSaid : Prop := Claim7.holds Tryd.pinned (.plain (OpenSpec.upto intsDividesSpec)) intsDividesUptoCard

/-- THE SECOND FORM's CARD OF 'bodkinlaw02.IntsRound'. -/
def intsRoundUptoCard : Claim7 := { stood := { row := intsRoundUptoRow, standIns := [], harness := (true, "051948189edd97c7840f2ee46c4f675d9b7d7e9812e3c18726a38787e03cc30d"), looks := false }, kinds := [], alts := [], laidByText := true, laidKinds := [.data], laidTests := true, laidLooks := .later }
def IntsRoundUptoCardSaid : Prop := Claim7.holds Tryd.pinned (.plain (OpenSpec.upto intsRoundSpec)) intsRoundUptoCard

/-- THE SECOND FORM's CARD OF 'bodkinlaw02.IntsStand'. -/
def intsStandUptoCard : Claim7 := { stood := { row := intsStandUptoRow, standIns := [], harness := (true, "051948189edd97c7840f2ee46c4f675d9b7d7e9812e3c18726a38787e03cc30d"), looks := false }, kinds := [], alts := [], laidByText := true, laidKinds := [.data], laidTests := true, laidLooks := .later }
def IntsStandUptoCardSaid : Prop := Claim7.holds Tryd.pinned (.plain (OpenSpec.upto intsStandSpec)) intsStandUptoCard

/-- THE SECOND FORM's CARD OF 'bodkinlaw02.IntsSums'. -/
def intsSumsUptoCard : Claim7 := { stood := { row := intsSumsUptoRow, standIns := [], harness := (true, "051948189edd97c7840f2ee46c4f675d9b7d7e9812e3c18726a38787e03cc30d"), looks := false }, kinds := [], alts := [], laidByText := true, laidKinds := [.data], laidTests := true, laidLooks := .later }
def IntsSumsUptoCardSaid : Prop := Claim7.holds Tryd.pinned (.plain (OpenSpec.upto intsSumsSpec)) intsSumsUptoCard

/-- THE SECOND FORM's CARD OF 'bodkinlaw02.IntsQuotients'. -/
def intsQuotientsUptoCard : Claim7 := { stood := { row := intsQuotientsUptoRow, standIns := [], harness := (true, "051948189edd97c7840f2ee46c4f675d9b7d7e9812e3c18726a38787e03cc30d"), looks := false }, kinds := [], alts := [], laidByText := true, laidKinds := [.data], laidTests := true, laidLooks := .later }
def IntsQuotientsUptoCardSaid : Prop := Claim7.holds Tryd.pinned (.plain (OpenSpec.upto intsQuotientsSpec)) intsQuotientsUptoCard

/-- THE SECOND FORM's CARD OF 'bodkinlaw02.IntsBits'. -/
def intsBitsUptoCard : Claim7 := { stood := { row := intsBitsUptoRow, standIns := [], harness := (true, "051948189edd97c7840f2ee46c4f675d9b7d7e9812e3c18726a38787e03cc30d"), looks := false }, kinds := [], alts := [], laidByText := true, laidKinds := [.data], laidTests := true, laidLooks := .later }
def IntsBitsUptoCardSaid : Prop := Claim7.holds Tryd.pinned (.plain (OpenSpec.upto intsBitsSpec)) intsBitsUptoCard

/-- THE SECOND FORM's CARD OF 'bodkinlaw02.IntsMoves'. -/
def intsMovesUptoCard : Claim7 := { stood := { row := intsMovesUptoRow, standIns := [], harness := (true, "051948189edd97c7840f2ee46c4f675d9b7d7e9812e3c18726a38787e03cc30d"), looks := false }, kinds := [], alts := [], laidByText := true, laidKinds := [.data], laidTests := true, laidLooks := .later }
def IntsMovesUptoCardSaid : Prop := Claim7.holds Tryd.pinned (.plain (OpenSpec.upto intsMovesSpec)) intsMovesUptoCard

/-- THE SECOND FORM's CARD OF 'bodkinlaw02.IntsHeld'. -/
def intsHeldUptoCard : Claim7 := { stood := { row := intsHeldUptoRow, standIns := [], harness := (true, "051948189edd97c7840f2ee46c4f675d9b7d7e9812e3c18726a38787e03cc30d"), looks := false }, kinds := [], alts := [], laidByText := true, laidKinds := [.data], laidTests := true, laidLooks := .later }
def IntsHeldUptoCardSaid : Prop := Claim7.holds Tryd.pinned (.plain (OpenSpec.upto intsHeldSpec)) intsHeldUptoCard

/-- THE SECOND FORM's CARD OF 'bodkinlaw02.IntsEnds'. -/
def intsEndsUptoCard : Claim7 := { stood := { row := intsEndsUptoRow, standIns := [], harness := (true, "051948189edd97c7840f2ee46c4f675d9b7d7e9812e3c18726a38787e03cc30d"), looks := false }, kinds := [], alts := [], laidByText := true, laidKinds := [.data], laidTests := true, laidLooks := .later }
def IntsEndsUptoCardSaid : Prop := Claim7.holds Tryd.pinned (.plain (OpenSpec.upto intsEndsSpec)) intsEndsUptoCard
end Rows
end Go.Proofs.YtajmjmnlapplaaaDoor
