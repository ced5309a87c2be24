/-
  No cell of these rows narrows 'for every input' (looked for: loops, veiled, ifaces, maps, wideKeys, modest, calm, conditions, laid).
  DERIVED. THE GIVEN ROWS OF THIS SEAT. 6 by the template 'for every input the law returns true; each argument reads behind the call as it read before'; 0 by the template 'total and deterministic' (their statements: YtonofklhapfdpaaTotals.lean).
  GIVEN WITH THE SEED: the statements are not yours to turn. If you find one false, say at which input.
  Laid BY PROGRAM, IN A SANDBOX (cutbox-rows.mjs): the forced cells as the released guide's own fill.sh prints them over the translation 5f7c7c0567032f53… (all of the seat's roots in one cut). By AI agents, Wed Nov 11 2026. No macro, syntax, notation, axiom, sorry.
-/
import Derived.Test.YtonofklhapfdpaaChecked
import GoSem.Claim
import GoSem.ClaimJoined
import GoSem.ClaimMapViews
import Derived.JoinedTies
import Derived.KernelRfl
namespace Go.Proofs.Ytonofklhapfdpaa
/- THE CELL 'sum', in the pinned program and in every row, IS THE sha256 OF THE DUMP (.gsa) THAT YtonofklhapfdpaaProg.lean LOADS. Nothing in Lean hashes anything: it is a label: what it is worth is what the hold of that sum in a sandbox is worth. -/
noncomputable def Try.pinned : Pinned := { name := "ytonofklhapfdpaa", sum := "5f7c7c0567032f530741bad1d743fb85ca577839af94c500b070bf267df380a8", checked := Try.checked }
namespace Rows
def none {H : Type} : Left H := { results := [], args := [] }

/-- 'bodkinlaw04.ConvHeld': WHATEVER THE INPUT: true; the input reads as it did. -/
def convHeldSpec : ChangeSpec := { name := "convHeld", fn := fun _ => fun
  | [d1, d2, d3, d4] => { results := [.lit (.bool true)], args := [d1, d2, d3, d4] }
  | _ => none }
def convHeldRow : OpenClaim := { program := "ytonofklhapfdpaa", sum := "5f7c7c0567032f530741bad1d743fb85ca577839af94c500b070bf267df380a8", func := "bodkin/bodkinlaw04.ConvHeld", spec := "convHeld", apart := false }
def ConvHeldSaid : Prop := convHeldRow.holds Try.pinned (OpenSpec.ofChange convHeldSpec)

/-- ITS FALSE NEIGHBOUR: 'it returns false'. Refute it at one input. -/
def convHeldWrong : ChangeSpec := { name := "convHeld", fn := fun _ => fun
  | [d1, d2, d3, d4] => { results := [.lit (.bool false)], args := [d1, d2, d3, d4] }
  | _ => none }
def ConvHeldWrongFalsely : Prop := convHeldRow.holds Try.pinned (OpenSpec.ofChange convHeldWrong)

/-- 'bodkinlaw04.ConvBack': WHATEVER THE INPUT: true; the input reads as it did. -/
def convBackSpec : ChangeSpec := { name := "convBack", fn := fun _ => fun
  | [d1, d2] => { results := [.lit (.bool true)], args := [d1, d2] }
  | _ => none }
def convBackRow : OpenClaim := { program := "ytonofklhapfdpaa", sum := "5f7c7c0567032f530741bad1d743fb85ca577839af94c500b070bf267df380a8", func := "bodkin/bodkinlaw04.ConvBack", spec := "convBack", inPlace := ["math.Float32frombits", "math.Float64frombits"], apart := false }
def ConvBackSaid : Prop := convBackRow.holds Try.pinned (OpenSpec.ofChange convBackSpec)

/-- ITS FALSE NEIGHBOUR: 'it returns false'. Refute it at one input. -/
def convBackWrong : ChangeSpec := { name := "convBack", fn := fun _ => fun
  | [d1, d2] => { results := [.lit (.bool false)], args := [d1, d2] }
  | _ => none }
def ConvBackWrongFalsely : Prop := convBackRow.holds Try.pinned (OpenSpec.ofChange convBackWrong)

/-- 'bodkinlaw04.ConvWords': WHATEVER THE INPUT: true; the input reads as it did. -/
def convWordsSpec : ChangeSpec := { name := "convWords", fn := fun _ => fun
  | [d] => { results := [.lit (.bool true)], args := [d] }
  | _ => none }
def convWordsRow : OpenClaim := { program := "ytonofklhapfdpaa", sum := "5f7c7c0567032f530741bad1d743fb85ca577839af94c500b070bf267df380a8", func := "bodkin/bodkinlaw04.ConvWords", spec := "convWords", inPlace := ["math.Float32bits", "math.Float64bits"], apart := false }
def ConvWordsSaid : Prop := convWordsRow.holds Try.pinned (OpenSpec.ofChange convWordsSpec)

/-- ITS FALSE NEIGHBOUR: 'it returns false'. Refute it at one input. -/
def convWordsWrong : ChangeSpec := { name := "convWords", fn := fun _ => fun
  | [d] => { results := [.lit (.bool false)], args := [d] }
  | _ => none }
def ConvWordsWrongFalsely : Prop := convWordsRow.holds Try.pinned (OpenSpec.ofChange convWordsWrong)

/-- 'bodkinlaw04.ConvConverts': WHATEVER THE INPUT: true; the input reads as it did. -/
def convConvertsSpec : ChangeSpec := { name := "convConverts", fn := fun _ => fun
  | [d1, d2, d3, d4] => { results := [.lit (.bool true)], args := [d1, d2, d3, d4] }
  | _ => none }
def convConvertsRow : OpenClaim := { program := "ytonofklhapfdpaa", sum := "5f7c7c0567032f530741bad1d743fb85ca577839af94c500b070bf267df380a8", func := "bodkin/bodkinlaw04.ConvConverts", spec := "convConverts", inPlace := ["math.Float32bits", "math.Float64bits", "math.Float32frombits", "math.Float64frombits"], apart := false }
def ConvConvertsSaid : Prop := convConvertsRow.holds Try.pinned (OpenSpec.ofChange convConvertsSpec)

/-- ITS FALSE NEIGHBOUR: 'it returns false'. Refute it at one input. -/
def convConvertsWrong : ChangeSpec := { name := "convConverts", fn := fun _ => fun
  | [d1, d2, d3, d4] => { results := [.lit (.bool false)], args := [d1, d2, d3, d4] }
  | _ => none }
def ConvConvertsWrongFalsely : Prop := convConvertsRow.holds Try.pinned (OpenSpec.ofChange convConvertsWrong)

/-- 'bodkinlaw04.ConvSizes': WHATEVER THE INPUT: true; the input reads as it did. -/
def convSizesSpec : ChangeSpec := { name := "convSizes", fn := fun _ => fun
  | [d] => { results := [.lit (.bool true)], args := [d] }
  | _ => none }
def convSizesRow : OpenClaim := { program := "ytonofklhapfdpaa", sum := "5f7c7c0567032f530741bad1d743fb85ca577839af94c500b070bf267df380a8", func := "bodkin/bodkinlaw04.ConvSizes", spec := "convSizes", inPlace := ["math.Float64frombits", "math.Float32bits", "math.Float32frombits", "math.Float64bits"], apart := false }
def ConvSizesSaid : Prop := convSizesRow.holds Try.pinned (OpenSpec.ofChange convSizesSpec)

/-- ITS FALSE NEIGHBOUR: 'it returns false'. Refute it at one input. -/
def convSizesWrong : ChangeSpec := { name := "convSizes", fn := fun _ => fun
  | [d] => { results := [.lit (.bool false)], args := [d] }
  | _ => none }
def ConvSizesWrongFalsely : Prop := convSizesRow.holds Try.pinned (OpenSpec.ofChange convSizesWrong)

/-- 'bodkinlaw04.ConvTruncs': WHATEVER THE INPUT: true; the input reads as it did. -/
def convTruncsSpec : ChangeSpec := { name := "convTruncs", fn := fun _ => fun
  | [d1, d2, d3, d4, d5] => { results := [.lit (.bool true)], args := [d1, d2, d3, d4, d5] }
  | _ => none }
def convTruncsRow : OpenClaim := { program := "ytonofklhapfdpaa", sum := "5f7c7c0567032f530741bad1d743fb85ca577839af94c500b070bf267df380a8", func := "bodkin/bodkinlaw04.ConvTruncs", spec := "convTruncs", inPlace := ["math.Float32frombits", "math.Float64frombits", "math.archTrunc", "math.Float64bits"], apart := false }
def ConvTruncsSaid : Prop := convTruncsRow.holds Try.pinned (OpenSpec.ofChange convTruncsSpec)

/-- ITS FALSE NEIGHBOUR: 'it returns false'. Refute it at one input. -/
def convTruncsWrong : ChangeSpec := { name := "convTruncs", fn := fun _ => fun
  | [d1, d2, d3, d4, d5] => { results := [.lit (.bool false)], args := [d1, d2, d3, d4, d5] }
  | _ => none }
def ConvTruncsWrongFalsely : Prop := convTruncsRow.holds Try.pinned (OpenSpec.ofChange convTruncsWrong)

/- THE SECOND FORM. 'bulk': how many values and letters a reading holds, each counted each time it is reached (what is shared counts as often as it is met; a slice's spare places count too). A statement '..UptoSaid' is the law's where the arguments, and the package variables that the reading takes, are together of bulk at most 1048576: NARROWER than '..Said'. Prove '..Said' where nothing that the law and all that it calls make is longer than what came in: it says more and counts as full. Else prove '..UptoSaid'. A law counts once. -/
mutual
def uptoBulk {H : Type} : DataW H → Nat
  | .lit (.string bytes) => bytes.length + 1
  | .lit _ => 1
  | .nil => 1
  | .ptr d => uptoBulk d + 1
  | .slice elems spare => uptoBulkAll elems + uptoBulkAll spare + 1
  | .agg parts => uptoBulkAll parts + 1
  | .iface _ d => uptoBulk d + 1
  | .map entries => uptoBulkEntries entries + 1
  | .held _ => 1
def uptoBulkAll {H : Type} : List (DataW H) → Nat
  | [] => 0
  | d :: r => uptoBulk d + uptoBulkAll r
def uptoBulkEntries {H : Type} : List (Lit × DataW H) → Nat
  | [] => 0
  | x :: r => uptoBulkEntry x + uptoBulkEntries r
def uptoBulkEntry {H : Type} : Lit × DataW H → Nat
  | (.string bytes, d) => bytes.length + uptoBulk d + 1
  | (_, d) => uptoBulk d + 1
 end
def uptoSmall : (H : Type) → List (DataW H) → Bool := fun _ ds => decide (uptoBulkAll ds ≤ 1048576)
def OpenSpec.upto (s : _root_.Go.ChangeSpec) : _root_.Go.OpenSpec := { _root_.Go.OpenSpec.ofChange s with cond := some uptoSmall }

/-- 'bodkinlaw04.ConvHeld', WHERE WHAT IT READS IS OF BULK AT MOST 1048576: true; the input reads as it did. -/
def convHeldUptoRow : OpenClaim := { program := "ytonofklhapfdpaa", sum := "5f7c7c0567032f530741bad1d743fb85ca577839af94c500b070bf267df380a8", func := "bodkin/bodkinlaw04.ConvHeld", spec := "convHeld", apart := false, narrowed := true }
def ConvHeldUptoSaid : Prop := convHeldUptoRow.holds Try.pinned (OpenSpec.upto convHeldSpec)

/-- 'bodkinlaw04.ConvBack', WHERE WHAT IT READS IS OF BULK AT MOST 1048576: true; the input reads as it did. -/
def convBackUptoRow : OpenClaim := { program := "ytonofklhapfdpaa", sum := "5f7c7c0567032f530741bad1d743fb85ca577839af94c500b070bf267df380a8", func := "bodkin/bodkinlaw04.ConvBack", spec := "convBack", inPlace := ["math.Float32frombits", "math.Float64frombits"], apart := false, narrowed := true }
def ConvBackUptoSaid : Prop := convBackUptoRow.holds Try.pinned (OpenSpec.upto convBackSpec)

/-- 'bodkinlaw04.ConvWords', WHERE WHAT IT READS IS OF BULK AT MOST 1048576: true; the input reads as it did. -/
def convWordsUptoRow : OpenClaim := { program := "ytonofklhapfdpaa", sum := "5f7c7c0567032f530741bad1d743fb85ca577839af94c500b070bf267df380a8", func := "bodkin/bodkinlaw04.ConvWords", spec := "convWords", inPlace := ["math.Float32bits", "math.Float64bits"], apart := false, narrowed := true }
def ConvWordsUptoSaid : Prop := convWordsUptoRow.holds Try.pinned (OpenSpec.upto convWordsSpec)

/-- 'bodkinlaw04.ConvConverts', WHERE WHAT IT READS IS OF BULK AT MOST 1048576: true; the input reads as it did. -/
def convConvertsUptoRow : OpenClaim := { program := "ytonofklhapfdpaa", sum := "5f7c7c0567032f530741bad1d743fb85ca577839af94c500b070bf267df380a8", func := "bodkin/bodkinlaw04.ConvConverts", spec := "convConverts", inPlace := ["math.Float32bits", "math.Float64bits", "math.Float32frombits", "math.Float64frombits"], apart := false, narrowed := true }
def ConvConvertsUptoSaid : Prop := convConvertsUptoRow.holds Try.pinned (OpenSpec.upto convConvertsSpec)

/-- 'bodkinlaw04.ConvSizes', WHERE WHAT IT READS IS OF BULK AT MOST 1048576: true; the input reads as it did. -/
def convSizesUptoRow : OpenClaim := { program := "ytonofklhapfdpaa", sum := "5f7c7c0567032f530741bad1d743fb85ca577839af94c500b070bf267df380a8", func := "bodkin/bodkinlaw04.ConvSizes", spec := "convSizes", inPlace := ["math.Float64frombits", "math.Float32bits", "math.Float32frombits", "math.Float64bits"], apart := false, narrowed := true }
def ConvSizesUptoSaid : Prop := convSizesUptoRow.holds Try.pinned (OpenSpec.upto convSizesSpec)

/-- 'bodkinlaw04.ConvTruncs', WHERE WHAT IT READS IS OF BULK AT MOST 1048576: true; the input reads as it did. -/
def convTruncsUptoRow : OpenClaim := { program := "ytonofklhapfdpaa", sum := "5f7c7c0567032f530741bad1d743fb85ca577839af94c500b070bf267df380a8", func := "bodkin/bodkinlaw04.ConvTruncs", spec := "convTruncs", inPlace := ["math.Float32frombits", "math.Float64frombits", "math.archTrunc", "math.Float64bits"], apart := false, narrowed := true }
def ConvTruncsUptoSaid : Prop := convTruncsUptoRow.holds Try.pinned (OpenSpec.upto convTruncsSpec)

end Rows
end Go.Proofs.Ytonofklhapfdpaa
