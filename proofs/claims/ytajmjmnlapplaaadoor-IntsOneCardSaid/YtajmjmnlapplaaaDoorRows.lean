/-
  NARROWER THAN 'FOR EVERY INPUT', by the rows' own cells (each row's printed sentence says how): IntsBin: laid · IntsAll: laid · IntsOne: laid · IntsDivides: laid · IntsRound: laid · IntsStand: laid · IntsSums: laid · IntsQuotients: laid · IntsBits: laid · IntsMoves: laid · IntsHeld: laid · IntsEnds: laid.
  DERIVED. THE GIVEN ROWS OF THIS SEAT. 12 by the template 'for every input the law returns true; each argument reads behind the call as it read before'; 0 by the template 'total and deterministic' (their statements: YtajmjmnlapplaaaDoorTotals.lean).
  GIVEN WITH THE SEED: the statements are not yours to turn. If you find one false, say at which input.
  Laid BY PROGRAM, IN A SANDBOX (cutbox-rows.mjs): the forced cells as the released guide's own fill.sh prints them over the translation 2f09bb30a92f64df… (all of the seat's roots in one cut). By AI agents, Wed Nov 11 2026. No macro, syntax, notation, axiom, sorry.
-/
import Derived.Test.YtajmjmnlapplaaaDoorChecked
import GoSem.Claim
import GoSem.ClaimJoined
import GoSem.ClaimMapViews
import Derived.JoinedTies
import Derived.KernelRfl
namespace Go.Proofs.YtajmjmnlapplaaaDoor
/- THE CELL 'sum', in the pinned program and in every row, IS THE sha256 OF THE DUMP (.gsa) THAT YtajmjmnlapplaaaDoorProg.lean LOADS. Nothing in Lean hashes anything: it is a label: what it is worth is what the hold of that sum in a sandbox is worth. -/
noncomputable def Tryd.pinned : Pinned := { name := "ytajmjmnlapplaaadoor", sum := "2f09bb30a92f64df35dbcfc5b45216e3eea8d768d28c59b3fe4ba5ab29d1ad49", checked := Tryd.checked }
namespace Rows
def none {H : Type} : Left H := { results := [], args := [] }

/- WHAT THE LISTED PACKAGE-LEVEL VARIABLES READ AS WHEN THE CALL BEGINS. Each datum BY PROGRAM (the guide's laid-datum.mjs) off the statement by which the dump's own 'gosem.cut.vars' lays the variable. In a bare row this is a premise. The card (YtajmjmnlapplaaaDoorCards.lean) ties it to the program's text. -/
def laid_math_bits_deBruijn64tab {H : Type} : DataW H := .agg [.lit (.int .u8 0), .lit (.int .u8 1), .lit (.int .u8 56), .lit (.int .u8 2), .lit (.int .u8 57), .lit (.int .u8 49), .lit (.int .u8 28), .lit (.int .u8 3), .lit (.int .u8 61), .lit (.int .u8 58), .lit (.int .u8 42), .lit (.int .u8 50), .lit (.int .u8 38), .lit (.int .u8 29), .lit (.int .u8 17), .lit (.int .u8 4), .lit (.int .u8 62), .lit (.int .u8 47), .lit (.int .u8 59), .lit (.int .u8 36), .lit (.int .u8 45), .lit (.int .u8 43), .lit (.int .u8 51), .lit (.int .u8 22), .lit (.int .u8 53), .lit (.int .u8 39), .lit (.int .u8 33), .lit (.int .u8 30), .lit (.int .u8 24), .lit (.int .u8 18), .lit (.int .u8 12), .lit (.int .u8 5), .lit (.int .u8 63), .lit (.int .u8 55), .lit (.int .u8 48), .lit (.int .u8 27), .lit (.int .u8 60), .lit (.int .u8 41), .lit (.int .u8 37), .lit (.int .u8 16), .lit (.int .u8 46), .lit (.int .u8 35), .lit (.int .u8 44), .lit (.int .u8 21), .lit (.int .u8 52), .lit (.int .u8 32), .lit (.int .u8 23), .lit (.int .u8 11), .lit (.int .u8 54), .lit (.int .u8 26), .lit (.int .u8 40), .lit (.int .u8 15), .lit (.int .u8 34), .lit (.int .u8 20), .lit (.int .u8 31), .lit (.int .u8 10), .lit (.int .u8 25), .lit (.int .u8 14), .lit (.int .u8 19), .lit (.int .u8 9), .lit (.int .u8 13), .lit (.int .u8 8), .lit (.int .u8 7), .lit (.int .u8 6)]

/-- 'bodkinlaw02.IntsBin': WHATEVER THE INPUT: true; the input reads as it did. -/
def intsBinSpec : ChangeSpec := { name := "intsBin", fn := fun _ => fun
  | [d1, d2, d3, d4] => { results := [.lit (.bool true)], args := [d1, d2, d3, d4] }
  | _ => none }
def intsBinRow : OpenClaim := { program := "ytajmjmnlapplaaadoor", sum := "2f09bb30a92f64df35dbcfc5b45216e3eea8d768d28c59b3fe4ba5ab29d1ad49", func := "bodkin/bodkinlaw02.IntsBin", spec := "intsBin", named := ["math/bits.deBruijn64tab"], apart := false, laid := [("math/bits.deBruijn64tab", laid_math_bits_deBruijn64tab)] }
def IntsBinSaid : Prop := intsBinRow.holds Tryd.pinned (OpenSpec.ofChange intsBinSpec)

/-- ITS FALSE NEIGHBOUR: 'it returns false'. Refute it at one input. -/
def intsBinWrong : ChangeSpec := { name := "intsBin", fn := fun _ => fun
  | [d1, d2, d3, d4] => { results := [.lit (.bool false)], args := [d1, d2, d3, d4] }
  | _ => none }
def IntsBinWrongFalsely : Prop := intsBinRow.holds Tryd.pinned (OpenSpec.ofChange intsBinWrong)

/-- 'bodkinlaw02.IntsAll': WHATEVER THE INPUT: true; the input reads as it did. -/
def intsAllSpec : ChangeSpec := { name := "intsAll", fn := fun _ => fun
  | [d1, d2] => { results := [.lit (.bool true)], args := [d1, d2] }
  | _ => none }
def intsAllRow : OpenClaim := { program := "ytajmjmnlapplaaadoor", sum := "2f09bb30a92f64df35dbcfc5b45216e3eea8d768d28c59b3fe4ba5ab29d1ad49", func := "bodkin/bodkinlaw02.IntsAll", spec := "intsAll", named := ["math/bits.deBruijn64tab"], apart := false, laid := [("math/bits.deBruijn64tab", laid_math_bits_deBruijn64tab)] }
def IntsAllSaid : Prop := intsAllRow.holds Tryd.pinned (OpenSpec.ofChange intsAllSpec)

/-- ITS FALSE NEIGHBOUR: 'it returns false'. Refute it at one input. -/
def intsAllWrong : ChangeSpec := { name := "intsAll", fn := fun _ => fun
  | [d1, d2] => { results := [.lit (.bool false)], args := [d1, d2] }
  | _ => none }
def IntsAllWrongFalsely : Prop := intsAllRow.holds Tryd.pinned (OpenSpec.ofChange intsAllWrong)

/-- 'bodkinlaw02.IntsOne': WHATEVER THE INPUT: true; the input reads as it did. -/
def intsOneSpec : ChangeSpec := { name := "intsOne", fn := fun _ => fun
  | [d1, d2, d3, d4] => { results := [.lit (.bool true)], args := [d1, d2, d3, d4] }
  | _ => none }
def intsOneRow : OpenClaim := { program := "ytajmjmnlapplaaadoor", sum := "2f09bb30a92f64df35dbcfc5b45216e3eea8d768d28c59b3fe4ba5ab29d1ad49", func := "bodkin/bodkinlaw02.IntsOne", spec := "intsOne", named := ["math/bits.deBruijn64tab"], apart := false, laid := [("math/bits.deBruijn64tab", laid_math_bits_deBruijn64tab)] }
def IntsOneSaid : Prop := intsOneRow.holds Tryd.pinned (OpenSpec.ofChange intsOneSpec)

/-- ITS FALSE NEIGHBOUR: 'it returns false'. Refute it at one input. -/
def intsOneWrong : ChangeSpec := { name := "intsOne", fn := fun _ => fun
  | [d1, d2, d3, d4] => { results := [.lit (.bool false)], args := [d1, d2, d3, d4] }
  | _ => none }
def IntsOneWrongFalsely : Prop := intsOneRow.holds Tryd.pinned (OpenSpec.ofChange intsOneWrong)

/-- 'bodkinlaw02.IntsDivides': WHATEVER THE INPUT: true; the input reads as it did. -/
def intsDividesSpec : ChangeSpec := { name := "intsDivides", fn := fun _ => fun
  | [d1, d2] => { results := [.lit (.bool true)], args := [d1, d2] }
  | _ => none }
def intsDividesRow : OpenClaim := { program := "ytajmjmnlapplaaadoor", sum := "2f09bb30a92f64df35dbcfc5b45216e3eea8d768d28c59b3fe4ba5ab29d1ad49", func := "bodkin/bodkinlaw02.IntsDivides", spec := "intsDivides", named := ["math/bits.deBruijn64tab"], apart := false, laid := [("math/bits.deBruijn64tab", laid_math_bits_deBruijn64tab)] }
def IntsDividesSaid : Prop := intsDividesRow.holds Tryd.pinned (OpenSpec.ofChange intsDividesSpec)

/-- ITS FALSE NEIGHBOUR: 'it returns false'. Refute it at one input. -/
def intsDividesWrong : ChangeSpec := { name := "intsDivides", fn := fun _ => fun
  | [d1, d2] => { results := [.lit (.bool false)], args := [d1, d2] }
  | _ => none }
def IntsDividesWrongFalsely : Prop := intsDividesRow.holds Tryd.pinned (OpenSpec.ofChange intsDividesWrong)

/-- 'bodkinlaw02.IntsRound': WHATEVER THE INPUT: true; the input reads as it did. -/
def intsRoundSpec : ChangeSpec := { name := "intsRound", fn := fun _ => fun
  | [d1, d2] => { results := [.lit (.bool true)], args := [d1, d2] }
  | _ => none }
def intsRoundRow : OpenClaim := { program := "ytajmjmnlapplaaadoor", sum := "2f09bb30a92f64df35dbcfc5b45216e3eea8d768d28c59b3fe4ba5ab29d1ad49", func := "bodkin/bodkinlaw02.IntsRound", spec := "intsRound", named := ["math/bits.deBruijn64tab"], apart := false, laid := [("math/bits.deBruijn64tab", laid_math_bits_deBruijn64tab)] }
def IntsRoundSaid : Prop := intsRoundRow.holds Tryd.pinned (OpenSpec.ofChange intsRoundSpec)

/-- ITS FALSE NEIGHBOUR: 'it returns false'. Refute it at one input. -/
def intsRoundWrong : ChangeSpec := { name := "intsRound", fn := fun _ => fun
  | [d1, d2] => { results := [.lit (.bool false)], args := [d1, d2] }
  | _ => none }
def IntsRoundWrongFalsely : Prop := intsRoundRow.holds Tryd.pinned (OpenSpec.ofChange intsRoundWrong)

/-- 'bodkinlaw02.IntsStand': WHATEVER THE INPUT: true; the input reads as it did. -/
def intsStandSpec : ChangeSpec := { name := "intsStand", fn := fun _ => fun
  | [d1, d2, d3] => { results := [.lit (.bool true)], args := [d1, d2, d3] }
  | _ => none }
def intsStandRow : OpenClaim := { program := "ytajmjmnlapplaaadoor", sum := "2f09bb30a92f64df35dbcfc5b45216e3eea8d768d28c59b3fe4ba5ab29d1ad49", func := "bodkin/bodkinlaw02.IntsStand", spec := "intsStand", named := ["math/bits.deBruijn64tab"], apart := false, laid := [("math/bits.deBruijn64tab", laid_math_bits_deBruijn64tab)] }
def IntsStandSaid : Prop := intsStandRow.holds Tryd.pinned (OpenSpec.ofChange intsStandSpec)

/-- ITS FALSE NEIGHBOUR: 'it returns false'. Refute it at one input. -/
def intsStandWrong : ChangeSpec := { name := "intsStand", fn := fun _ => fun
  | [d1, d2, d3] => { results := [.lit (.bool false)], args := [d1, d2, d3] }
  | _ => none }
def IntsStandWrongFalsely : Prop := intsStandRow.holds Tryd.pinned (OpenSpec.ofChange intsStandWrong)

/-- 'bodkinlaw02.IntsSums': WHATEVER THE INPUT: true; the input reads as it did. -/
def intsSumsSpec : ChangeSpec := { name := "intsSums", fn := fun _ => fun
  | [d1, d2] => { results := [.lit (.bool true)], args := [d1, d2] }
  | _ => none }
def intsSumsRow : OpenClaim := { program := "ytajmjmnlapplaaadoor", sum := "2f09bb30a92f64df35dbcfc5b45216e3eea8d768d28c59b3fe4ba5ab29d1ad49", func := "bodkin/bodkinlaw02.IntsSums", spec := "intsSums", named := ["math/bits.deBruijn64tab"], apart := false, laid := [("math/bits.deBruijn64tab", laid_math_bits_deBruijn64tab)] }
def IntsSumsSaid : Prop := intsSumsRow.holds Tryd.pinned (OpenSpec.ofChange intsSumsSpec)

/-- ITS FALSE NEIGHBOUR: 'it returns false'. Refute it at one input. -/
def intsSumsWrong : ChangeSpec := { name := "intsSums", fn := fun _ => fun
  | [d1, d2] => { results := [.lit (.bool false)], args := [d1, d2] }
  | _ => none }
def IntsSumsWrongFalsely : Prop := intsSumsRow.holds Tryd.pinned (OpenSpec.ofChange intsSumsWrong)

/-- 'bodkinlaw02.IntsQuotients': WHATEVER THE INPUT: true; the input reads as it did. -/
def intsQuotientsSpec : ChangeSpec := { name := "intsQuotients", fn := fun _ => fun
  | [d1, d2] => { results := [.lit (.bool true)], args := [d1, d2] }
  | _ => none }
def intsQuotientsRow : OpenClaim := { program := "ytajmjmnlapplaaadoor", sum := "2f09bb30a92f64df35dbcfc5b45216e3eea8d768d28c59b3fe4ba5ab29d1ad49", func := "bodkin/bodkinlaw02.IntsQuotients", spec := "intsQuotients", named := ["math/bits.deBruijn64tab"], apart := false, laid := [("math/bits.deBruijn64tab", laid_math_bits_deBruijn64tab)] }
def IntsQuotientsSaid : Prop := intsQuotientsRow.holds Tryd.pinned (OpenSpec.ofChange intsQuotientsSpec)

/-- ITS FALSE NEIGHBOUR: 'it returns false'. Refute it at one input. -/
def intsQuotientsWrong : ChangeSpec := { name := "intsQuotients", fn := fun _ => fun
  | [d1, d2] => { results := [.lit (.bool false)], args := [d1, d2] }
  | _ => none }
def IntsQuotientsWrongFalsely : Prop := intsQuotientsRow.holds Tryd.pinned (OpenSpec.ofChange intsQuotientsWrong)

/-- 'bodkinlaw02.IntsBits': WHATEVER THE INPUT: true; the input reads as it did. -/
def intsBitsSpec : ChangeSpec := { name := "intsBits", fn := fun _ => fun
  | [d1, d2] => { results := [.lit (.bool true)], args := [d1, d2] }
  | _ => none }
def intsBitsRow : OpenClaim := { program := "ytajmjmnlapplaaadoor", sum := "2f09bb30a92f64df35dbcfc5b45216e3eea8d768d28c59b3fe4ba5ab29d1ad49", func := "bodkin/bodkinlaw02.IntsBits", spec := "intsBits", named := ["math/bits.deBruijn64tab"], apart := false, laid := [("math/bits.deBruijn64tab", laid_math_bits_deBruijn64tab)] }
def IntsBitsSaid : Prop := intsBitsRow.holds Tryd.pinned (OpenSpec.ofChange intsBitsSpec)

/-- ITS FALSE NEIGHBOUR: 'it returns false'. Refute it at one input. -/
def intsBitsWrong : ChangeSpec := { name := "intsBits", fn := fun _ => fun
  | [d1, d2] => { results := [.lit (.bool false)], args := [d1, d2] }
  | _ => none }
def IntsBitsWrongFalsely : Prop := intsBitsRow.holds Tryd.pinned (OpenSpec.ofChange intsBitsWrong)

/-- 'bodkinlaw02.IntsMoves': WHATEVER THE INPUT: true; the input reads as it did. -/
def intsMovesSpec : ChangeSpec := { name := "intsMoves", fn := fun _ => fun
  | [d1, d2] => { results := [.lit (.bool true)], args := [d1, d2] }
  | _ => none }
def intsMovesRow : OpenClaim := { program := "ytajmjmnlapplaaadoor", sum := "2f09bb30a92f64df35dbcfc5b45216e3eea8d768d28c59b3fe4ba5ab29d1ad49", func := "bodkin/bodkinlaw02.IntsMoves", spec := "intsMoves", named := ["math/bits.deBruijn64tab"], apart := false, laid := [("math/bits.deBruijn64tab", laid_math_bits_deBruijn64tab)] }
def IntsMovesSaid : Prop := intsMovesRow.holds Tryd.pinned (OpenSpec.ofChange intsMovesSpec)

/-- ITS FALSE NEIGHBOUR: 'it returns false'. Refute it at one input. -/
def intsMovesWrong : ChangeSpec := { name := "intsMoves", fn := fun _ => fun
  | [d1, d2] => { results := [.lit (.bool false)], args := [d1, d2] }
  | _ => none }
def IntsMovesWrongFalsely : Prop := intsMovesRow.holds Tryd.pinned (OpenSpec.ofChange intsMovesWrong)

/-- 'bodkinlaw02.IntsHeld': WHATEVER THE INPUT: true; the input reads as it did. -/
def intsHeldSpec : ChangeSpec := { name := "intsHeld", fn := fun _ => fun
  | [d1, d2] => { results := [.lit (.bool true)], args := [d1, d2] }
  | _ => none }
def intsHeldRow : OpenClaim := { program := "ytajmjmnlapplaaadoor", sum := "2f09bb30a92f64df35dbcfc5b45216e3eea8d768d28c59b3fe4ba5ab29d1ad49", func := "bodkin/bodkinlaw02.IntsHeld", spec := "intsHeld", named := ["math/bits.deBruijn64tab"], apart := false, laid := [("math/bits.deBruijn64tab", laid_math_bits_deBruijn64tab)] }
def IntsHeldSaid : Prop := intsHeldRow.holds Tryd.pinned (OpenSpec.ofChange intsHeldSpec)

/-- ITS FALSE NEIGHBOUR: 'it returns false'. Refute it at one input. -/
def intsHeldWrong : ChangeSpec := { name := "intsHeld", fn := fun _ => fun
  | [d1, d2] => { results := [.lit (.bool false)], args := [d1, d2] }
  | _ => none }
def IntsHeldWrongFalsely : Prop := intsHeldRow.holds Tryd.pinned (OpenSpec.ofChange intsHeldWrong)

/-- 'bodkinlaw02.IntsEnds': WHATEVER THE INPUT: true; the input reads as it did. -/
def intsEndsSpec : ChangeSpec := { name := "intsEnds", fn := fun _ => fun
  | [d1, d2] => { results := [.lit (.bool true)], args := [d1, d2] }
  | _ => none }
def intsEndsRow : OpenClaim := { program := "ytajmjmnlapplaaadoor", sum := "2f09bb30a92f64df35dbcfc5b45216e3eea8d768d28c59b3fe4ba5ab29d1ad49", func := "bodkin/bodkinlaw02.IntsEnds", spec := "intsEnds", named := ["math/bits.deBruijn64tab"], apart := false, laid := [("math/bits.deBruijn64tab", laid_math_bits_deBruijn64tab)] }
def IntsEndsSaid : Prop := intsEndsRow.holds Tryd.pinned (OpenSpec.ofChange intsEndsSpec)

/-- ITS FALSE NEIGHBOUR: 'it returns false'. Refute it at one input. -/
def intsEndsWrong : ChangeSpec := { name := "intsEnds", fn := fun _ => fun
  | [d1, d2] => { results := [.lit (.bool false)], args := [d1, d2] }
  | _ => none }
def IntsEndsWrongFalsely : Prop := intsEndsRow.holds Tryd.pinned (OpenSpec.ofChange intsEndsWrong)

/- THE SECOND FORM. 'bulk': how many values and letters a reading holds, each counted each time it is reached (what is shared counts as often as it is met; a slice's spare places count too). A statement '..UptoSaid' is the law's where the arguments, and the package variables that the reading takes, are together of bulk at most 1048576: NARROWER than '..Said'. Prove '..Said' where nothing that the law and all that it calls make is longer than what came in: it says more and counts as full. Else prove '..UptoSaid'. A law counts once. -/
mutual
def uptoBulk {H : Type} : DataW H → Nat
  | .lit (.string bytes) => bytes.length + 1
  | .lit _ => 1
  | .nil => 1
  | .ptr d => uptoBulk d + 1
  | .slice elems spare => uptoBulkAll elems + uptoBulkAll spare + 1
  | .agg parts => uptoBulkAll parts + 1
  | .iface _ d => uptoBulk d + 1
  | .map entries => uptoBulkEntries entries + 1
  | .held _ => 1
def uptoBulkAll {H : Type} : List (DataW H) → Nat
  | [] => 0
  | d :: r => uptoBulk d + uptoBulkAll r
def uptoBulkEntries {H : Type} : List (Lit × DataW H) → Nat
  | [] => 0
  | x :: r => uptoBulkEntry x + uptoBulkEntries r
def uptoBulkEntry {H : Type} : Lit × DataW H → Nat
  | (.string bytes, d) => bytes.length + uptoBulk d + 1
  | (_, d) => uptoBulk d + 1
 end
def uptoSmall : (H : Type) → List (DataW H) → Bool := fun _ ds => decide (uptoBulkAll ds ≤ 1048576)
def OpenSpec.upto (s : _root_.Go.ChangeSpec) : _root_.Go.OpenSpec := { _root_.Go.OpenSpec.ofChange s with cond := some uptoSmall }

/-- 'bodkinlaw02.IntsBin', WHERE WHAT IT READS IS OF BULK AT MOST 1048576: true; the input reads as it did. -/
def intsBinUptoRow : OpenClaim := { program := "ytajmjmnlapplaaadoor", sum := "2f09bb30a92f64df35dbcfc5b45216e3eea8d768d28c59b3fe4ba5ab29d1ad49", func := "bodkin/bodkinlaw02.IntsBin", spec := "intsBin", named := ["math/bits.deBruijn64tab"], apart := false, laid := [("math/bits.deBruijn64tab", laid_math_bits_deBruijn64tab)], narrowed := true }
def IntsBinUptoSaid : Prop := intsBinUptoRow.holds Tryd.pinned (OpenSpec.upto intsBinSpec)

/-- 'bodkinlaw02.IntsAll', WHERE WHAT IT READS IS OF BULK AT MOST 1048576: true; the input reads as it did. -/
def intsAllUptoRow : OpenClaim := { program := "ytajmjmnlapplaaadoor", sum := "2f09bb30a92f64df35dbcfc5b45216e3eea8d768d28c59b3fe4ba5ab29d1ad49", func := "bodkin/bodkinlaw02.IntsAll", spec := "intsAll", named := ["math/bits.deBruijn64tab"], apart := false, laid := [("math/bits.deBruijn64tab", laid_math_bits_deBruijn64tab)], narrowed := true }
def IntsAllUptoSaid : Prop := intsAllUptoRow.holds Tryd.pinned (OpenSpec.upto intsAllSpec)

/-- 'bodkinlaw02.IntsOne', WHERE WHAT IT READS IS OF BULK AT MOST 1048576: true; the input reads as it did. -/
def intsOneUptoRow : OpenClaim := { program := "ytajmjmnlapplaaadoor", sum := "2f09bb30a92f64df35dbcfc5b45216e3eea8d768d28c59b3fe4ba5ab29d1ad49", func := "bodkin/bodkinlaw02.IntsOne", spec := "intsOne", named := ["math/bits.deBruijn64tab"], apart := false, laid := [("math/bits.deBruijn64tab", laid_math_bits_deBruijn64tab)], narrowed := true }
def IntsOneUptoSaid : Prop := intsOneUptoRow.holds Tryd.pinned (OpenSpec.upto intsOneSpec)

/-- 'bodkinlaw02.IntsDivides', WHERE WHAT IT READS IS OF BULK AT MOST 1048576: true; the input reads as it did. -/
def intsDividesUptoRow : OpenClaim := { program := "ytajmjmnlapplaaadoor", sum := "2f09bb30a92f64df35dbcfc5b45216e3eea8d768d28c59b3fe4ba5ab29d1ad49", func := "bodkin/bodkinlaw02.IntsDivides", spec := "intsDivides", named := ["math/bits.deBruijn64tab"], apart := false, laid := [("math/bits.deBruijn64tab", laid_math_bits_deBruijn64tab)], narrowed := true }
def IntsDividesUptoSaid : Prop := intsDividesUptoRow.holds Tryd.pinned (OpenSpec.upto intsDividesSpec)

/-- 'bodkinlaw02.IntsRound', WHERE WHAT IT READS IS OF BULK AT MOST 1048576: true; the input reads as it did. -/
def intsRoundUptoRow : OpenClaim := { program := "ytajmjmnlapplaaadoor", sum := "2f09bb30a92f64df35dbcfc5b45216e3eea8d768d28c59b3fe4ba5ab29d1ad49", func := "bodkin/bodkinlaw02.IntsRound", spec := "intsRound", named := ["math/bits.deBruijn64tab"], apart := false, laid := [("math/bits.deBruijn64tab", laid_math_bits_deBruijn64tab)], narrowed := true }
def IntsRoundUptoSaid : Prop := intsRoundUptoRow.holds Tryd.pinned (OpenSpec.upto intsRoundSpec)

/-- 'bodkinlaw02.IntsStand', WHERE WHAT IT READS IS OF BULK AT MOST 1048576: true; the input reads as it did. -/
def intsStandUptoRow : OpenClaim := { program := "ytajmjmnlapplaaadoor", sum := "2f09bb30a92f64df35dbcfc5b45216e3eea8d768d28c59b3fe4ba5ab29d1ad49", func := "bodkin/bodkinlaw02.IntsStand", spec := "intsStand", named := ["math/bits.deBruijn64tab"], apart := false, laid := [("math/bits.deBruijn64tab", laid_math_bits_deBruijn64tab)], narrowed := true }
def IntsStandUptoSaid : Prop := intsStandUptoRow.holds Tryd.pinned (OpenSpec.upto intsStandSpec)

/-- 'bodkinlaw02.IntsSums', WHERE WHAT IT READS IS OF BULK AT MOST 1048576: true; the input reads as it did. -/
def intsSumsUptoRow : OpenClaim := { program := "ytajmjmnlapplaaadoor", sum := "2f09bb30a92f64df35dbcfc5b45216e3eea8d768d28c59b3fe4ba5ab29d1ad49", func := "bodkin/bodkinlaw02.IntsSums", spec := "intsSums", named := ["math/bits.deBruijn64tab"], apart := false, laid := [("math/bits.deBruijn64tab", laid_math_bits_deBruijn64tab)], narrowed := true }
def IntsSumsUptoSaid : Prop := intsSumsUptoRow.holds Tryd.pinned (OpenSpec.upto intsSumsSpec)

/-- 'bodkinlaw02.IntsQuotients', WHERE WHAT IT READS IS OF BULK AT MOST 1048576: true; the input reads as it did. -/
def intsQuotientsUptoRow : OpenClaim := { program := "ytajmjmnlapplaaadoor", sum := "2f09bb30a92f64df35dbcfc5b45216e3eea8d768d28c59b3fe4ba5ab29d1ad49", func := "bodkin/bodkinlaw02.IntsQuotients", spec := "intsQuotients", named := ["math/bits.deBruijn64tab"], apart := false, laid := [("math/bits.deBruijn64tab", laid_math_bits_deBruijn64tab)], narrowed := true }
def IntsQuotientsUptoSaid : Prop := intsQuotientsUptoRow.holds Tryd.pinned (OpenSpec.upto intsQuotientsSpec)

/-- 'bodkinlaw02.IntsBits', WHERE WHAT IT READS IS OF BULK AT MOST 1048576: true; the input reads as it did. -/
def intsBitsUptoRow : OpenClaim := { program := "ytajmjmnlapplaaadoor", sum := "2f09bb30a92f64df35dbcfc5b45216e3eea8d768d28c59b3fe4ba5ab29d1ad49", func := "bodkin/bodkinlaw02.IntsBits", spec := "intsBits", named := ["math/bits.deBruijn64tab"], apart := false, laid := [("math/bits.deBruijn64tab", laid_math_bits_deBruijn64tab)], narrowed := true }
def IntsBitsUptoSaid : Prop := intsBitsUptoRow.holds Tryd.pinned (OpenSpec.upto intsBitsSpec)

/-- 'bodkinlaw02.IntsMoves', WHERE WHAT IT READS IS OF BULK AT MOST 1048576: true; the input reads as it did. -/
def intsMovesUptoRow : OpenClaim := { program := "ytajmjmnlapplaaadoor", sum := "2f09bb30a92f64df35dbcfc5b45216e3eea8d768d28c59b3fe4ba5ab29d1ad49", func := "bodkin/bodkinlaw02.IntsMoves", spec := "intsMoves", named := ["math/bits.deBruijn64tab"], apart := false, laid := [("math/bits.deBruijn64tab", laid_math_bits_deBruijn64tab)], narrowed := true }
def IntsMovesUptoSaid : Prop := intsMovesUptoRow.holds Tryd.pinned (OpenSpec.upto intsMovesSpec)

/-- 'bodkinlaw02.IntsHeld', WHERE WHAT IT READS IS OF BULK AT MOST 1048576: true; the input reads as it did. -/
def intsHeldUptoRow : OpenClaim := { program := "ytajmjmnlapplaaadoor", sum := "2f09bb30a92f64df35dbcfc5b45216e3eea8d768d28c59b3fe4ba5ab29d1ad49", func := "bodkin/bodkinlaw02.IntsHeld", spec := "intsHeld", named := ["math/bits.deBruijn64tab"], apart := false, laid := [("math/bits.deBruijn64tab", laid_math_bits_deBruijn64tab)], narrowed := true }
def IntsHeldUptoSaid : Prop := intsHeldUptoRow.holds Tryd.pinned (OpenSpec.upto intsHeldSpec)

/-- 'bodkinlaw02.IntsEnds', WHERE WHAT IT READS IS OF BULK AT MOST 1048576: true; the input reads as it did. -/
def intsEndsUptoRow : OpenClaim := { program := "ytajmjmnlapplaaadoor", sum := "2f09bb30a92f64df35dbcfc5b45216e3eea8d768d28c59b3fe4ba5ab29d1ad49", func := "bodkin/bodkinlaw02.IntsEnds", spec := "intsEnds", named := ["math/bits.deBruijn64tab"], apart := false, laid := [("math/bits.deBruijn64tab", laid_math_bits_deBruijn64tab)], narrowed := true }
def IntsEndsUptoSaid : Prop := intsEndsUptoRow.holds Tryd.pinned (OpenSpec.upto intsEndsSpec)

end Rows
end Go.Proofs.YtajmjmnlapplaaaDoor
