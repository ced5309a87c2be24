/-
  No cell of these rows narrows 'for every input' (looked for: loops, veiled, ifaces, maps, wideKeys, modest, calm, conditions, laid).
  DERIVED. THE GIVEN ROWS OF THIS SEAT. 13 by the template 'for every input the law returns true; each argument reads behind the call as it read before'; 0 by the template 'total and deterministic' (their statements: YtjfmomogidgbpaaTotals.lean).
  GIVEN WITH THE SEED: the statements are not yours to turn. If you find one false, say at which input.
  Laid BY PROGRAM, IN A SANDBOX (cutbox-rows.mjs): the forced cells as the released guide's own fill.sh prints them over the translation ed1a3e4e6ad0c61c… (all of the seat's roots in one cut). By AI agents, Wed Nov 11 2026. No macro, syntax, notation, axiom, sorry.
-/
import Derived.Test.YtjfmomogidgbpaaChecked
import GoSem.Claim
import GoSem.ClaimJoined
import GoSem.ClaimMapViews
import Derived.JoinedTies
import Derived.KernelRfl
namespace Go.Proofs.Ytjfmomogidgbpaa
/- THE CELL 'sum', in the pinned program and in every row, IS THE sha256 OF THE DUMP (.gsa) THAT YtjfmomogidgbpaaProg.lean LOADS. Nothing in Lean hashes anything: it is a label: what it is worth is what the hold of that sum in a sandbox is worth. -/
noncomputable def Try.pinned : Pinned := { name := "ytjfmomogidgbpaa", sum := "ed1a3e4e6ad0c61ca50fa2cf545d3d81d382908e8bd5d1978f2bea0c5c470cd0", checked := Try.checked }
namespace Rows
def none {H : Type} : Left H := { results := [], args := [] }

/-- 'bodkinlaw03.FloatsRounds': WHATEVER THE INPUT: true; the input reads as it did. -/
def floatsRoundsSpec : ChangeSpec := { name := "floatsRounds", fn := fun _ => fun
  | [d1, d2, d3, d4, d5] => { results := [.lit (.bool true)], args := [d1, d2, d3, d4, d5] }
  | _ => none }
def floatsRoundsRow : OpenClaim := { program := "ytjfmomogidgbpaa", sum := "ed1a3e4e6ad0c61ca50fa2cf545d3d81d382908e8bd5d1978f2bea0c5c470cd0", func := "bodkin/bodkinlaw03.FloatsRounds", spec := "floatsRounds", named := ["math/bits.divideError", "math/bits.overflowError"], apart := false }
def FloatsRoundsSaid : Prop := floatsRoundsRow.holds Try.pinned (OpenSpec.ofChange floatsRoundsSpec)

/-- ITS FALSE NEIGHBOUR: 'it returns false'. Refute it at one input. -/
def floatsRoundsWrong : ChangeSpec := { name := "floatsRounds", fn := fun _ => fun
  | [d1, d2, d3, d4, d5] => { results := [.lit (.bool false)], args := [d1, d2, d3, d4, d5] }
  | _ => none }
def FloatsRoundsWrongFalsely : Prop := floatsRoundsRow.holds Try.pinned (OpenSpec.ofChange floatsRoundsWrong)

/-- 'bodkinlaw03.FloatsTurns': WHATEVER THE INPUT: true; the input reads as it did. -/
def floatsTurnsSpec : ChangeSpec := { name := "floatsTurns", fn := fun _ => fun
  | [d1, d2, d3, d4] => { results := [.lit (.bool true)], args := [d1, d2, d3, d4] }
  | _ => none }
def floatsTurnsRow : OpenClaim := { program := "ytjfmomogidgbpaa", sum := "ed1a3e4e6ad0c61ca50fa2cf545d3d81d382908e8bd5d1978f2bea0c5c470cd0", func := "bodkin/bodkinlaw03.FloatsTurns", spec := "floatsTurns", named := ["math/bits.divideError", "math/bits.overflowError"], apart := false }
def FloatsTurnsSaid : Prop := floatsTurnsRow.holds Try.pinned (OpenSpec.ofChange floatsTurnsSpec)

/-- ITS FALSE NEIGHBOUR: 'it returns false'. Refute it at one input. -/
def floatsTurnsWrong : ChangeSpec := { name := "floatsTurns", fn := fun _ => fun
  | [d1, d2, d3, d4] => { results := [.lit (.bool false)], args := [d1, d2, d3, d4] }
  | _ => none }
def FloatsTurnsWrongFalsely : Prop := floatsTurnsRow.holds Try.pinned (OpenSpec.ofChange floatsTurnsWrong)

/-- 'bodkinlaw03.FloatsStand': WHATEVER THE INPUT: true; the input reads as it did. -/
def floatsStandSpec : ChangeSpec := { name := "floatsStand", fn := fun _ => fun
  | [d1, d2] => { results := [.lit (.bool true)], args := [d1, d2] }
  | _ => none }
def floatsStandRow : OpenClaim := { program := "ytjfmomogidgbpaa", sum := "ed1a3e4e6ad0c61ca50fa2cf545d3d81d382908e8bd5d1978f2bea0c5c470cd0", func := "bodkin/bodkinlaw03.FloatsStand", spec := "floatsStand", inPlace := ["math.Float32frombits", "math.Float64frombits"], named := ["math/bits.divideError", "math/bits.overflowError"], apart := false }
def FloatsStandSaid : Prop := floatsStandRow.holds Try.pinned (OpenSpec.ofChange floatsStandSpec)

/-- ITS FALSE NEIGHBOUR: 'it returns false'. Refute it at one input. -/
def floatsStandWrong : ChangeSpec := { name := "floatsStand", fn := fun _ => fun
  | [d1, d2] => { results := [.lit (.bool false)], args := [d1, d2] }
  | _ => none }
def FloatsStandWrongFalsely : Prop := floatsStandRow.holds Try.pinned (OpenSpec.ofChange floatsStandWrong)

/-- 'bodkinlaw03.FloatsBin': WHATEVER THE INPUT: true; the input reads as it did. -/
def floatsBinSpec : ChangeSpec := { name := "floatsBin", fn := fun _ => fun
  | [d1, d2, d3, d4] => { results := [.lit (.bool true)], args := [d1, d2, d3, d4] }
  | _ => none }
def floatsBinRow : OpenClaim := { program := "ytjfmomogidgbpaa", sum := "ed1a3e4e6ad0c61ca50fa2cf545d3d81d382908e8bd5d1978f2bea0c5c470cd0", func := "bodkin/bodkinlaw03.FloatsBin", spec := "floatsBin", inPlace := ["math.Float32frombits", "math.Float64frombits", "math.Float64bits", "math.Float32bits"], named := ["math/bits.divideError", "math/bits.overflowError"], apart := false }
def FloatsBinSaid : Prop := floatsBinRow.holds Try.pinned (OpenSpec.ofChange floatsBinSpec)

/-- ITS FALSE NEIGHBOUR: 'it returns false'. Refute it at one input. -/
def floatsBinWrong : ChangeSpec := { name := "floatsBin", fn := fun _ => fun
  | [d1, d2, d3, d4] => { results := [.lit (.bool false)], args := [d1, d2, d3, d4] }
  | _ => none }
def FloatsBinWrongFalsely : Prop := floatsBinRow.holds Try.pinned (OpenSpec.ofChange floatsBinWrong)

/-- 'bodkinlaw03.FloatsSums': WHATEVER THE INPUT: true; the input reads as it did. -/
def floatsSumsSpec : ChangeSpec := { name := "floatsSums", fn := fun _ => fun
  | [d1, d2] => { results := [.lit (.bool true)], args := [d1, d2] }
  | _ => none }
def floatsSumsRow : OpenClaim := { program := "ytjfmomogidgbpaa", sum := "ed1a3e4e6ad0c61ca50fa2cf545d3d81d382908e8bd5d1978f2bea0c5c470cd0", func := "bodkin/bodkinlaw03.FloatsSums", spec := "floatsSums", inPlace := ["math.Float32frombits", "math.Float64frombits", "math.Float64bits", "math.Float32bits"], named := ["math/bits.divideError", "math/bits.overflowError"], apart := false }
def FloatsSumsSaid : Prop := floatsSumsRow.holds Try.pinned (OpenSpec.ofChange floatsSumsSpec)

/-- ITS FALSE NEIGHBOUR: 'it returns false'. Refute it at one input. -/
def floatsSumsWrong : ChangeSpec := { name := "floatsSums", fn := fun _ => fun
  | [d1, d2] => { results := [.lit (.bool false)], args := [d1, d2] }
  | _ => none }
def FloatsSumsWrongFalsely : Prop := floatsSumsRow.holds Try.pinned (OpenSpec.ofChange floatsSumsWrong)

/-- 'bodkinlaw03.FloatsProducts': WHATEVER THE INPUT: true; the input reads as it did. -/
def floatsProductsSpec : ChangeSpec := { name := "floatsProducts", fn := fun _ => fun
  | [d1, d2] => { results := [.lit (.bool true)], args := [d1, d2] }
  | _ => none }
def floatsProductsRow : OpenClaim := { program := "ytjfmomogidgbpaa", sum := "ed1a3e4e6ad0c61ca50fa2cf545d3d81d382908e8bd5d1978f2bea0c5c470cd0", func := "bodkin/bodkinlaw03.FloatsProducts", spec := "floatsProducts", inPlace := ["math.Float32frombits", "math.Float64frombits", "math.Float64bits", "math.Float32bits"], named := ["math/bits.divideError", "math/bits.overflowError"], apart := false }
def FloatsProductsSaid : Prop := floatsProductsRow.holds Try.pinned (OpenSpec.ofChange floatsProductsSpec)

/-- ITS FALSE NEIGHBOUR: 'it returns false'. Refute it at one input. -/
def floatsProductsWrong : ChangeSpec := { name := "floatsProducts", fn := fun _ => fun
  | [d1, d2] => { results := [.lit (.bool false)], args := [d1, d2] }
  | _ => none }
def FloatsProductsWrongFalsely : Prop := floatsProductsRow.holds Try.pinned (OpenSpec.ofChange floatsProductsWrong)

/-- 'bodkinlaw03.FloatsQuotients': WHATEVER THE INPUT: true; the input reads as it did. -/
def floatsQuotientsSpec : ChangeSpec := { name := "floatsQuotients", fn := fun _ => fun
  | [d1, d2] => { results := [.lit (.bool true)], args := [d1, d2] }
  | _ => none }
def floatsQuotientsRow : OpenClaim := { program := "ytjfmomogidgbpaa", sum := "ed1a3e4e6ad0c61ca50fa2cf545d3d81d382908e8bd5d1978f2bea0c5c470cd0", func := "bodkin/bodkinlaw03.FloatsQuotients", spec := "floatsQuotients", inPlace := ["math.Float32frombits", "math.Float64frombits", "math.Float64bits", "math.Float32bits"], named := ["math/bits.divideError", "math/bits.overflowError"], apart := false }
def FloatsQuotientsSaid : Prop := floatsQuotientsRow.holds Try.pinned (OpenSpec.ofChange floatsQuotientsSpec)

/-- ITS FALSE NEIGHBOUR: 'it returns false'. Refute it at one input. -/
def floatsQuotientsWrong : ChangeSpec := { name := "floatsQuotients", fn := fun _ => fun
  | [d1, d2] => { results := [.lit (.bool false)], args := [d1, d2] }
  | _ => none }
def FloatsQuotientsWrongFalsely : Prop := floatsQuotientsRow.holds Try.pinned (OpenSpec.ofChange floatsQuotientsWrong)

/-- 'bodkinlaw03.FloatsEnds': WHATEVER THE INPUT: true; the input reads as it did. -/
def floatsEndsSpec : ChangeSpec := { name := "floatsEnds", fn := fun _ => fun
  | [d1, d2] => { results := [.lit (.bool true)], args := [d1, d2] }
  | _ => none }
def floatsEndsRow : OpenClaim := { program := "ytjfmomogidgbpaa", sum := "ed1a3e4e6ad0c61ca50fa2cf545d3d81d382908e8bd5d1978f2bea0c5c470cd0", func := "bodkin/bodkinlaw03.FloatsEnds", spec := "floatsEnds", inPlace := ["math.Float32frombits", "math.Float64frombits", "math.Float64bits", "math.Float32bits"], named := ["math/bits.divideError", "math/bits.overflowError"], apart := false }
def FloatsEndsSaid : Prop := floatsEndsRow.holds Try.pinned (OpenSpec.ofChange floatsEndsSpec)

/-- ITS FALSE NEIGHBOUR: 'it returns false'. Refute it at one input. -/
def floatsEndsWrong : ChangeSpec := { name := "floatsEnds", fn := fun _ => fun
  | [d1, d2] => { results := [.lit (.bool false)], args := [d1, d2] }
  | _ => none }
def FloatsEndsWrongFalsely : Prop := floatsEndsRow.holds Try.pinned (OpenSpec.ofChange floatsEndsWrong)

/-- 'bodkinlaw03.FloatsParts': WHATEVER THE INPUT: true; the input reads as it did. -/
def floatsPartsSpec : ChangeSpec := { name := "floatsParts", fn := fun _ => fun
  | [d1, d2] => { results := [.lit (.bool true)], args := [d1, d2] }
  | _ => none }
def floatsPartsRow : OpenClaim := { program := "ytjfmomogidgbpaa", sum := "ed1a3e4e6ad0c61ca50fa2cf545d3d81d382908e8bd5d1978f2bea0c5c470cd0", func := "bodkin/bodkinlaw03.FloatsParts", spec := "floatsParts", inPlace := ["math.Float32frombits", "math.Float64frombits"], named := ["math/bits.divideError", "math/bits.overflowError"], apart := false }
def FloatsPartsSaid : Prop := floatsPartsRow.holds Try.pinned (OpenSpec.ofChange floatsPartsSpec)

/-- ITS FALSE NEIGHBOUR: 'it returns false'. Refute it at one input. -/
def floatsPartsWrong : ChangeSpec := { name := "floatsParts", fn := fun _ => fun
  | [d1, d2] => { results := [.lit (.bool false)], args := [d1, d2] }
  | _ => none }
def FloatsPartsWrongFalsely : Prop := floatsPartsRow.holds Try.pinned (OpenSpec.ofChange floatsPartsWrong)

/-- 'bodkinlaw03.FloatsAll': WHATEVER THE INPUT: true; the input reads as it did. -/
def floatsAllSpec : ChangeSpec := { name := "floatsAll", fn := fun _ => fun
  | [d1, d2] => { results := [.lit (.bool true)], args := [d1, d2] }
  | _ => none }
def floatsAllRow : OpenClaim := { program := "ytjfmomogidgbpaa", sum := "ed1a3e4e6ad0c61ca50fa2cf545d3d81d382908e8bd5d1978f2bea0c5c470cd0", func := "bodkin/bodkinlaw03.FloatsAll", spec := "floatsAll", inPlace := ["math.Float32frombits", "math.Float64frombits", "math.Float64bits", "math.Float32bits", "math.sqrt", "math.archCeil", "math.archFloor", "math.archTrunc", "math.RoundToEven"], named := ["math/bits.divideError", "math/bits.overflowError"], apart := false }
def FloatsAllSaid : Prop := floatsAllRow.holds Try.pinned (OpenSpec.ofChange floatsAllSpec)

/-- ITS FALSE NEIGHBOUR: 'it returns false'. Refute it at one input. -/
def floatsAllWrong : ChangeSpec := { name := "floatsAll", fn := fun _ => fun
  | [d1, d2] => { results := [.lit (.bool false)], args := [d1, d2] }
  | _ => none }
def FloatsAllWrongFalsely : Prop := floatsAllRow.holds Try.pinned (OpenSpec.ofChange floatsAllWrong)

/-- 'bodkinlaw03.FloatsOne': WHATEVER THE INPUT: true; the input reads as it did. -/
def floatsOneSpec : ChangeSpec := { name := "floatsOne", fn := fun _ => fun
  | [d1, d2, d3, d4] => { results := [.lit (.bool true)], args := [d1, d2, d3, d4] }
  | _ => none }
def floatsOneRow : OpenClaim := { program := "ytjfmomogidgbpaa", sum := "ed1a3e4e6ad0c61ca50fa2cf545d3d81d382908e8bd5d1978f2bea0c5c470cd0", func := "bodkin/bodkinlaw03.FloatsOne", spec := "floatsOne", inPlace := ["math.Float32frombits", "math.Float64frombits", "math.sqrt", "math.archCeil", "math.archFloor", "math.Float64bits", "math.archTrunc", "math.RoundToEven", "math.Float32bits"], named := ["math/bits.divideError", "math/bits.overflowError"], apart := false }
def FloatsOneSaid : Prop := floatsOneRow.holds Try.pinned (OpenSpec.ofChange floatsOneSpec)

/-- ITS FALSE NEIGHBOUR: 'it returns false'. Refute it at one input. -/
def floatsOneWrong : ChangeSpec := { name := "floatsOne", fn := fun _ => fun
  | [d1, d2, d3, d4] => { results := [.lit (.bool false)], args := [d1, d2, d3, d4] }
  | _ => none }
def FloatsOneWrongFalsely : Prop := floatsOneRow.holds Try.pinned (OpenSpec.ofChange floatsOneWrong)

/-- 'bodkinlaw03.FloatsRoots': WHATEVER THE INPUT: true; the input reads as it did. -/
def floatsRootsSpec : ChangeSpec := { name := "floatsRoots", fn := fun _ => fun
  | [d] => { results := [.lit (.bool true)], args := [d] }
  | _ => none }
def floatsRootsRow : OpenClaim := { program := "ytjfmomogidgbpaa", sum := "ed1a3e4e6ad0c61ca50fa2cf545d3d81d382908e8bd5d1978f2bea0c5c470cd0", func := "bodkin/bodkinlaw03.FloatsRoots", spec := "floatsRoots", inPlace := ["math.Float32frombits", "math.Float64frombits", "math.sqrt", "math.archCeil", "math.archFloor", "math.Float64bits", "math.archTrunc", "math.RoundToEven", "math.Float32bits"], named := ["math/bits.divideError", "math/bits.overflowError"], apart := false }
def FloatsRootsSaid : Prop := floatsRootsRow.holds Try.pinned (OpenSpec.ofChange floatsRootsSpec)

/-- ITS FALSE NEIGHBOUR: 'it returns false'. Refute it at one input. -/
def floatsRootsWrong : ChangeSpec := { name := "floatsRoots", fn := fun _ => fun
  | [d] => { results := [.lit (.bool false)], args := [d] }
  | _ => none }
def FloatsRootsWrongFalsely : Prop := floatsRootsRow.holds Try.pinned (OpenSpec.ofChange floatsRootsWrong)

/-- 'bodkinlaw03.FloatsWhole': WHATEVER THE INPUT: true; the input reads as it did. -/
def floatsWholeSpec : ChangeSpec := { name := "floatsWhole", fn := fun _ => fun
  | [d] => { results := [.lit (.bool true)], args := [d] }
  | _ => none }
def floatsWholeRow : OpenClaim := { program := "ytjfmomogidgbpaa", sum := "ed1a3e4e6ad0c61ca50fa2cf545d3d81d382908e8bd5d1978f2bea0c5c470cd0", func := "bodkin/bodkinlaw03.FloatsWhole", spec := "floatsWhole", inPlace := ["math.Float32frombits", "math.Float64frombits", "math.sqrt", "math.archCeil", "math.archFloor", "math.Float64bits", "math.archTrunc", "math.RoundToEven", "math.Float32bits"], named := ["math/bits.divideError", "math/bits.overflowError"], apart := false }
def FloatsWholeSaid : Prop := floatsWholeRow.holds Try.pinned (OpenSpec.ofChange floatsWholeSpec)

/-- ITS FALSE NEIGHBOUR: 'it returns false'. Refute it at one input. -/
def floatsWholeWrong : ChangeSpec := { name := "floatsWhole", fn := fun _ => fun
  | [d] => { results := [.lit (.bool false)], args := [d] }
  | _ => none }
def FloatsWholeWrongFalsely : Prop := floatsWholeRow.holds Try.pinned (OpenSpec.ofChange floatsWholeWrong)

/- THE SECOND FORM. 'bulk': how many values and letters a reading holds, each counted each time it is reached (what is shared counts as often as it is met; a slice's spare places count too). A statement '..UptoSaid' is the law's where the arguments, and the package variables that the reading takes, are together of bulk at most 1048576: NARROWER than '..Said'. Prove '..Said' where nothing that the law and all that it calls make is longer than what came in: it says more and counts as full. Else prove '..UptoSaid'. A law counts once. -/
mutual
def uptoBulk {H : Type} : DataW H → Nat
  | .lit (.string bytes) => bytes.length + 1
  | .lit _ => 1
  | .nil => 1
  | .ptr d => uptoBulk d + 1
  | .slice elems spare => uptoBulkAll elems + uptoBulkAll spare + 1
  | .agg parts => uptoBulkAll parts + 1
  | .iface _ d => uptoBulk d + 1
  | .map entries => uptoBulkEntries entries + 1
  | .held _ => 1
def uptoBulkAll {H : Type} : List (DataW H) → Nat
  | [] => 0
  | d :: r => uptoBulk d + uptoBulkAll r
def uptoBulkEntries {H : Type} : List (Lit × DataW H) → Nat
  | [] => 0
  | x :: r => uptoBulkEntry x + uptoBulkEntries r
def uptoBulkEntry {H : Type} : Lit × DataW H → Nat
  | (.string bytes, d) => bytes.length + uptoBulk d + 1
  | (_, d) => uptoBulk d + 1
 end
def uptoSmall : (H : Type) → List (DataW H) → Bool := fun _ ds => decide (uptoBulkAll ds ≤ 1048576)
def OpenSpec.upto (s : _root_.Go.ChangeSpec) : _root_.Go.OpenSpec := { _root_.Go.OpenSpec.ofChange s with cond := some uptoSmall }

/-- 'bodkinlaw03.FloatsRounds', WHERE WHAT IT READS IS OF BULK AT MOST 1048576: true; the input reads as it did. -/
def floatsRoundsUptoRow : OpenClaim := { program := "ytjfmomogidgbpaa", sum := "ed1a3e4e6ad0c61ca50fa2cf545d3d81d382908e8bd5d1978f2bea0c5c470cd0", func := "bodkin/bodkinlaw03.FloatsRounds", spec := "floatsRounds", named := ["math/bits.divideError", "math/bits.overflowError"], apart := false, narrowed := true }
def FloatsRoundsUptoSaid : Prop := floatsRoundsUptoRow.holds Try.pinned (OpenSpec.upto floatsRoundsSpec)

/-- 'bodkinlaw03.FloatsTurns', WHERE WHAT IT READS IS OF BULK AT MOST 1048576: true; the input reads as it did. -/
def floatsTurnsUptoRow : OpenClaim := { program := "ytjfmomogidgbpaa", sum := "ed1a3e4e6ad0c61ca50fa2cf545d3d81d382908e8bd5d1978f2bea0c5c470cd0", func := "bodkin/bodkinlaw03.FloatsTurns", spec := "floatsTurns", named := ["math/bits.divideError", "math/bits.overflowError"], apart := false, narrowed := true }
def FloatsTurnsUptoSaid : Prop := floatsTurnsUptoRow.holds Try.pinned (OpenSpec.upto floatsTurnsSpec)

/-- 'bodkinlaw03.FloatsStand', WHERE WHAT IT READS IS OF BULK AT MOST 1048576: true; the input reads as it did. -/
def floatsStandUptoRow : OpenClaim := { program := "ytjfmomogidgbpaa", sum := "ed1a3e4e6ad0c61ca50fa2cf545d3d81d382908e8bd5d1978f2bea0c5c470cd0", func := "bodkin/bodkinlaw03.FloatsStand", spec := "floatsStand", inPlace := ["math.Float32frombits", "math.Float64frombits"], named := ["math/bits.divideError", "math/bits.overflowError"], apart := false, narrowed := true }
def FloatsStandUptoSaid : Prop := floatsStandUptoRow.holds Try.pinned (OpenSpec.upto floatsStandSpec)

/-- 'bodkinlaw03.FloatsBin', WHERE WHAT IT READS IS OF BULK AT MOST 1048576: true; the input reads as it did. -/
def floatsBinUptoRow : OpenClaim := { program := "ytjfmomogidgbpaa", sum := "ed1a3e4e6ad0c61ca50fa2cf545d3d81d382908e8bd5d1978f2bea0c5c470cd0", func := "bodkin/bodkinlaw03.FloatsBin", spec := "floatsBin", inPlace := ["math.Float32frombits", "math.Float64frombits", "math.Float64bits", "math.Float32bits"], named := ["math/bits.divideError", "math/bits.overflowError"], apart := false, narrowed := true }
def FloatsBinUptoSaid : Prop := floatsBinUptoRow.holds Try.pinned (OpenSpec.upto floatsBinSpec)

/-- 'bodkinlaw03.FloatsSums', WHERE WHAT IT READS IS OF BULK AT MOST 1048576: true; the input reads as it did. -/
def floatsSumsUptoRow : OpenClaim := { program := "ytjfmomogidgbpaa", sum := "ed1a3e4e6ad0c61ca50fa2cf545d3d81d382908e8bd5d1978f2bea0c5c470cd0", func := "bodkin/bodkinlaw03.FloatsSums", spec := "floatsSums", inPlace := ["math.Float32frombits", "math.Float64frombits", "math.Float64bits", "math.Float32bits"], named := ["math/bits.divideError", "math/bits.overflowError"], apart := false, narrowed := true }
def FloatsSumsUptoSaid : Prop := floatsSumsUptoRow.holds Try.pinned (OpenSpec.upto floatsSumsSpec)

/-- 'bodkinlaw03.FloatsProducts', WHERE WHAT IT READS IS OF BULK AT MOST 1048576: true; the input reads as it did. -/
def floatsProductsUptoRow : OpenClaim := { program := "ytjfmomogidgbpaa", sum := "ed1a3e4e6ad0c61ca50fa2cf545d3d81d382908e8bd5d1978f2bea0c5c470cd0", func := "bodkin/bodkinlaw03.FloatsProducts", spec := "floatsProducts", inPlace := ["math.Float32frombits", "math.Float64frombits", "math.Float64bits", "math.Float32bits"], named := ["math/bits.divideError", "math/bits.overflowError"], apart := false, narrowed := true }
def FloatsProductsUptoSaid : Prop := floatsProductsUptoRow.holds Try.pinned (OpenSpec.upto floatsProductsSpec)

/-- 'bodkinlaw03.FloatsQuotients', WHERE WHAT IT READS IS OF BULK AT MOST 1048576: true; the input reads as it did. -/
def floatsQuotientsUptoRow : OpenClaim := { program := "ytjfmomogidgbpaa", sum := "ed1a3e4e6ad0c61ca50fa2cf545d3d81d382908e8bd5d1978f2bea0c5c470cd0", func := "bodkin/bodkinlaw03.FloatsQuotients", spec := "floatsQuotients", inPlace := ["math.Float32frombits", "math.Float64frombits", "math.Float64bits", "math.Float32bits"], named := ["math/bits.divideError", "math/bits.overflowError"], apart := false, narrowed := true }
def FloatsQuotientsUptoSaid : Prop := floatsQuotientsUptoRow.holds Try.pinned (OpenSpec.upto floatsQuotientsSpec)

/-- 'bodkinlaw03.FloatsEnds', WHERE WHAT IT READS IS OF BULK AT MOST 1048576: true; the input reads as it did. -/
def floatsEndsUptoRow : OpenClaim := { program := "ytjfmomogidgbpaa", sum := "ed1a3e4e6ad0c61ca50fa2cf545d3d81d382908e8bd5d1978f2bea0c5c470cd0", func := "bodkin/bodkinlaw03.FloatsEnds", spec := "floatsEnds", inPlace := ["math.Float32frombits", "math.Float64frombits", "math.Float64bits", "math.Float32bits"], named := ["math/bits.divideError", "math/bits.overflowError"], apart := false, narrowed := true }
def FloatsEndsUptoSaid : Prop := floatsEndsUptoRow.holds Try.pinned (OpenSpec.upto floatsEndsSpec)

/-- 'bodkinlaw03.FloatsParts', WHERE WHAT IT READS IS OF BULK AT MOST 1048576: true; the input reads as it did. -/
def floatsPartsUptoRow : OpenClaim := { program := "ytjfmomogidgbpaa", sum := "ed1a3e4e6ad0c61ca50fa2cf545d3d81d382908e8bd5d1978f2bea0c5c470cd0", func := "bodkin/bodkinlaw03.FloatsParts", spec := "floatsParts", inPlace := ["math.Float32frombits", "math.Float64frombits"], named := ["math/bits.divideError", "math/bits.overflowError"], apart := false, narrowed := true }
def FloatsPartsUptoSaid : Prop := floatsPartsUptoRow.holds Try.pinned (OpenSpec.upto floatsPartsSpec)

/-- 'bodkinlaw03.FloatsAll', WHERE WHAT IT READS IS OF BULK AT MOST 1048576: true; the input reads as it did. -/
def floatsAllUptoRow : OpenClaim := { program := "ytjfmomogidgbpaa", sum := "ed1a3e4e6ad0c61ca50fa2cf545d3d81d382908e8bd5d1978f2bea0c5c470cd0", func := "bodkin/bodkinlaw03.FloatsAll", spec := "floatsAll", inPlace := ["math.Float32frombits", "math.Float64frombits", "math.Float64bits", "math.Float32bits", "math.sqrt", "math.archCeil", "math.archFloor", "math.archTrunc", "math.RoundToEven"], named := ["math/bits.divideError", "math/bits.overflowError"], apart := false, narrowed := true }
def FloatsAllUptoSaid : Prop := floatsAllUptoRow.holds Try.pinned (OpenSpec.upto floatsAllSpec)

/-- 'bodkinlaw03.FloatsOne', WHERE WHAT IT READS IS OF BULK AT MOST 1048576: true; the input reads as it did. -/
def floatsOneUptoRow : OpenClaim := { program := "ytjfmomogidgbpaa", sum := "ed1a3e4e6ad0c61ca50fa2cf545d3d81d382908e8bd5d1978f2bea0c5c470cd0", func := "bodkin/bodkinlaw03.FloatsOne", spec := "floatsOne", inPlace := ["math.Float32frombits", "math.Float64frombits", "math.sqrt", "math.archCeil", "math.archFloor", "math.Float64bits", "math.archTrunc", "math.RoundToEven", "math.Float32bits"], named := ["math/bits.divideError", "math/bits.overflowError"], apart := false, narrowed := true }
def FloatsOneUptoSaid : Prop := floatsOneUptoRow.holds Try.pinned (OpenSpec.upto floatsOneSpec)

/-- 'bodkinlaw03.FloatsRoots', WHERE WHAT IT READS IS OF BULK AT MOST 1048576: true; the input reads as it did. -/
def floatsRootsUptoRow : OpenClaim := { program := "ytjfmomogidgbpaa", sum := "ed1a3e4e6ad0c61ca50fa2cf545d3d81d382908e8bd5d1978f2bea0c5c470cd0", func := "bodkin/bodkinlaw03.FloatsRoots", spec := "floatsRoots", inPlace := ["math.Float32frombits", "math.Float64frombits", "math.sqrt", "math.archCeil", "math.archFloor", "math.Float64bits", "math.archTrunc", "math.RoundToEven", "math.Float32bits"], named := ["math/bits.divideError", "math/bits.overflowError"], apart := false, narrowed := true }
def FloatsRootsUptoSaid : Prop := floatsRootsUptoRow.holds Try.pinned (OpenSpec.upto floatsRootsSpec)

/-- 'bodkinlaw03.FloatsWhole', WHERE WHAT IT READS IS OF BULK AT MOST 1048576: true; the input reads as it did. -/
def floatsWholeUptoRow : OpenClaim := { program := "ytjfmomogidgbpaa", sum := "ed1a3e4e6ad0c61ca50fa2cf545d3d81d382908e8bd5d1978f2bea0c5c470cd0", func := "bodkin/bodkinlaw03.FloatsWhole", spec := "floatsWhole", inPlace := ["math.Float32frombits", "math.Float64frombits", "math.sqrt", "math.archCeil", "math.archFloor", "math.Float64bits", "math.archTrunc", "math.RoundToEven", "math.Float32bits"], named := ["math/bits.divideError", "math/bits.overflowError"], apart := false, narrowed := true }
def FloatsWholeUptoSaid : Prop := floatsWholeUptoRow.holds Try.pinned (OpenSpec.upto floatsWholeSpec)

end Rows
end Go.Proofs.Ytjfmomogidgbpaa
