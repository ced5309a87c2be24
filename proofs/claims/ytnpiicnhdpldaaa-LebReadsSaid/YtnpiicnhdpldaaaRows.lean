/-
  No cell of these rows narrows 'for every input' (looked for: loops, veiled, ifaces, maps, wideKeys, modest, calm, conditions, laid).
  DERIVED. THE GIVEN ROWS OF THIS SEAT. 6 by the template 'for every input the law returns true; each argument reads behind the call as it read before'; 0 by the template 'total and deterministic' (their statements: YtnpiicnhdpldaaaTotals.lean).
  GIVEN WITH THE SEED: the statements are not yours to turn. If you find one false, say at which input.
  Laid BY PROGRAM, IN A SANDBOX (cutbox-rows.mjs): the forced cells as the released guide's own fill.sh prints them over the translation df2e3fcecf7fea2f… (all of the seat's roots in one cut). By AI agents, Wed Nov 11 2026. No macro, syntax, notation, axiom, sorry.
-/
import Derived.Test.YtnpiicnhdpldaaaChecked
import GoSem.Claim
import GoSem.ClaimJoined
import GoSem.ClaimMapViews
import Derived.JoinedTies
import Derived.KernelRfl
namespace Go.Proofs.Ytnpiicnhdpldaaa
/- THE CELL 'sum', in the pinned program and in every row, IS THE sha256 OF THE DUMP (.gsa) THAT YtnpiicnhdpldaaaProg.lean LOADS. Nothing in Lean hashes anything: it is a label: what it is worth is what the hold of that sum in a sandbox is worth. -/
noncomputable def Try.pinned : Pinned := { name := "ytnpiicnhdpldaaa", sum := "df2e3fcecf7fea2f17c68f69fdc41442dcb12b4df375213a44931a3c23d4cf89", checked := Try.checked }
namespace Rows
def none {H : Type} : Left H := { results := [], args := [] }

/-- 'bodkinlaw01.LebTexts': WHATEVER THE INPUT: true; the input reads as it did. -/
def lebTextsSpec : ChangeSpec := { name := "lebTexts", fn := fun _ => fun
  | [d] => { results := [.lit (.bool true)], args := [d] }
  | _ => none }
def lebTextsRow : OpenClaim := { program := "ytnpiicnhdpldaaa", sum := "df2e3fcecf7fea2f17c68f69fdc41442dcb12b4df375213a44931a3c23d4cf89", func := "bodkin/bodkinlaw01.LebTexts", spec := "lebTexts", apart := false }
def LebTextsSaid : Prop := lebTextsRow.holds Try.pinned (OpenSpec.ofChange lebTextsSpec)

/-- ITS FALSE NEIGHBOUR: 'it returns false'. Refute it at one input. -/
def lebTextsWrong : ChangeSpec := { name := "lebTexts", fn := fun _ => fun
  | [d] => { results := [.lit (.bool false)], args := [d] }
  | _ => none }
def LebTextsWrongFalsely : Prop := lebTextsRow.holds Try.pinned (OpenSpec.ofChange lebTextsWrong)

/-- 'bodkinlaw01.LebLonger': WHATEVER THE INPUT: true; the input reads as it did. -/
def lebLongerSpec : ChangeSpec := { name := "lebLonger", fn := fun _ => fun
  | [d1, d2] => { results := [.lit (.bool true)], args := [d1, d2] }
  | _ => none }
def lebLongerRow : OpenClaim := { program := "ytnpiicnhdpldaaa", sum := "df2e3fcecf7fea2f17c68f69fdc41442dcb12b4df375213a44931a3c23d4cf89", func := "bodkin/bodkinlaw01.LebLonger", spec := "lebLonger", apart := false }
def LebLongerSaid : Prop := lebLongerRow.holds Try.pinned (OpenSpec.ofChange lebLongerSpec)

/-- ITS FALSE NEIGHBOUR: 'it returns false'. Refute it at one input. -/
def lebLongerWrong : ChangeSpec := { name := "lebLonger", fn := fun _ => fun
  | [d1, d2] => { results := [.lit (.bool false)], args := [d1, d2] }
  | _ => none }
def LebLongerWrongFalsely : Prop := lebLongerRow.holds Try.pinned (OpenSpec.ofChange lebLongerWrong)

/-- 'bodkinlaw01.LebWrites': WHATEVER THE INPUT: true; the input reads as it did. -/
def lebWritesSpec : ChangeSpec := { name := "lebWrites", fn := fun _ => fun
  | [d1, d2, d3, d4] => { results := [.lit (.bool true)], args := [d1, d2, d3, d4] }
  | _ => none }
def lebWritesRow : OpenClaim := { program := "ytnpiicnhdpldaaa", sum := "df2e3fcecf7fea2f17c68f69fdc41442dcb12b4df375213a44931a3c23d4cf89", func := "bodkin/bodkinlaw01.LebWrites", spec := "lebWrites", apart := false }
def LebWritesSaid : Prop := lebWritesRow.holds Try.pinned (OpenSpec.ofChange lebWritesSpec)

/-- ITS FALSE NEIGHBOUR: 'it returns false'. Refute it at one input. -/
def lebWritesWrong : ChangeSpec := { name := "lebWrites", fn := fun _ => fun
  | [d1, d2, d3, d4] => { results := [.lit (.bool false)], args := [d1, d2, d3, d4] }
  | _ => none }
def LebWritesWrongFalsely : Prop := lebWritesRow.holds Try.pinned (OpenSpec.ofChange lebWritesWrong)

/-- 'bodkinlaw01.LebReads': WHATEVER THE INPUT: true; the input reads as it did. -/
def lebReadsSpec : ChangeSpec := { name := "lebReads", fn := fun _ => fun
  | [d1, d2] => { results := [.lit (.bool true)], args := [d1, d2] }
  | _ => none }
def lebReadsRow : OpenClaim := { program := "ytnpiicnhdpldaaa", sum := "df2e3fcecf7fea2f17c68f69fdc41442dcb12b4df375213a44931a3c23d4cf89", func := "bodkin/bodkinlaw01.LebReads", spec := "lebReads", apart := false }
def LebReadsSaid : Prop := lebReadsRow.holds Try.pinned (OpenSpec.ofChange lebReadsSpec)

/-- ITS FALSE NEIGHBOUR: 'it returns false'. Refute it at one input. -/
def lebReadsWrong : ChangeSpec := { name := "lebReads", fn := fun _ => fun
  | [d1, d2] => { results := [.lit (.bool false)], args := [d1, d2] }
  | _ => none }
def LebReadsWrongFalsely : Prop := lebReadsRow.holds Try.pinned (OpenSpec.ofChange lebReadsWrong)

/-- 'bodkinlaw01.LebNone': WHATEVER THE INPUT: true; the input reads as it did. -/
def lebNoneSpec : ChangeSpec := { name := "lebNone", fn := fun _ => fun
  | [d1, d2] => { results := [.lit (.bool true)], args := [d1, d2] }
  | _ => none }
def lebNoneRow : OpenClaim := { program := "ytnpiicnhdpldaaa", sum := "df2e3fcecf7fea2f17c68f69fdc41442dcb12b4df375213a44931a3c23d4cf89", func := "bodkin/bodkinlaw01.LebNone", spec := "lebNone", apart := false }
def LebNoneSaid : Prop := lebNoneRow.holds Try.pinned (OpenSpec.ofChange lebNoneSpec)

/-- ITS FALSE NEIGHBOUR: 'it returns false'. Refute it at one input. -/
def lebNoneWrong : ChangeSpec := { name := "lebNone", fn := fun _ => fun
  | [d1, d2] => { results := [.lit (.bool false)], args := [d1, d2] }
  | _ => none }
def LebNoneWrongFalsely : Prop := lebNoneRow.holds Try.pinned (OpenSpec.ofChange lebNoneWrong)

/-- 'bodkinlaw01.LebBack': WHATEVER THE INPUT: true; the input reads as it did. -/
def lebBackSpec : ChangeSpec := { name := "lebBack", fn := fun _ => fun
  | [d1, d2, d3, d4] => { results := [.lit (.bool true)], args := [d1, d2, d3, d4] }
  | _ => none }
def lebBackRow : OpenClaim := { program := "ytnpiicnhdpldaaa", sum := "df2e3fcecf7fea2f17c68f69fdc41442dcb12b4df375213a44931a3c23d4cf89", func := "bodkin/bodkinlaw01.LebBack", spec := "lebBack", apart := false }
def LebBackSaid : Prop := lebBackRow.holds Try.pinned (OpenSpec.ofChange lebBackSpec)

/-- ITS FALSE NEIGHBOUR: 'it returns false'. Refute it at one input. -/
def lebBackWrong : ChangeSpec := { name := "lebBack", fn := fun _ => fun
  | [d1, d2, d3, d4] => { results := [.lit (.bool false)], args := [d1, d2, d3, d4] }
  | _ => none }
def LebBackWrongFalsely : Prop := lebBackRow.holds Try.pinned (OpenSpec.ofChange lebBackWrong)

/- THE SECOND FORM. 'bulk': how many values and letters a reading holds, each counted each time it is reached (what is shared counts as often as it is met; a slice's spare places count too). A statement '..UptoSaid' is the law's where the arguments, and the package variables that the reading takes, are together of bulk at most 1048576: NARROWER than '..Said'. Prove '..Said' where nothing that the law and all that it calls make is longer than what came in: it says more and counts as full. Else prove '..UptoSaid'. A law counts once. -/
mutual
def uptoBulk {H : Type} : DataW H → Nat
  | .lit (.string bytes) => bytes.length + 1
  | .lit _ => 1
  | .nil => 1
  | .ptr d => uptoBulk d + 1
  | .slice elems spare => uptoBulkAll elems + uptoBulkAll spare + 1
  | .agg parts => uptoBulkAll parts + 1
  | .iface _ d => uptoBulk d + 1
  | .map entries => uptoBulkEntries entries + 1
  | .held _ => 1
def uptoBulkAll {H : Type} : List (DataW H) → Nat
  | [] => 0
  | d :: r => uptoBulk d + uptoBulkAll r
def uptoBulkEntries {H : Type} : List (Lit × DataW H) → Nat
  | [] => 0
  | x :: r => uptoBulkEntry x + uptoBulkEntries r
def uptoBulkEntry {H : Type} : Lit × DataW H → Nat
  | (.string bytes, d) => bytes.length + uptoBulk d + 1
  | (_, d) => uptoBulk d + 1
 end
def uptoSmall : (H : Type) → List (DataW H) → Bool := fun _ ds => decide (uptoBulkAll ds ≤ 1048576)
def OpenSpec.upto (s : _root_.Go.ChangeSpec) : _root_.Go.OpenSpec := { _root_.Go.OpenSpec.ofChange s with cond := some uptoSmall }

/-- 'bodkinlaw01.LebTexts', WHERE WHAT IT READS IS OF BULK AT MOST 1048576: true; the input reads as it did. -/
def lebTextsUptoRow : OpenClaim := { program := "ytnpiicnhdpldaaa", sum := "df2e3fcecf7fea2f17c68f69fdc41442dcb12b4df375213a44931a3c23d4cf89", func := "bodkin/bodkinlaw01.LebTexts", spec := "lebTexts", apart := false, narrowed := true }
def LebTextsUptoSaid : Prop := lebTextsUptoRow.holds Try.pinned (OpenSpec.upto lebTextsSpec)

/-- 'bodkinlaw01.LebLonger', WHERE WHAT IT READS IS OF BULK AT MOST 1048576: true; the input reads as it did. -/
def lebLongerUptoRow : OpenClaim := { program := "ytnpiicnhdpldaaa", sum := "df2e3fcecf7fea2f17c68f69fdc41442dcb12b4df375213a44931a3c23d4cf89", func := "bodkin/bodkinlaw01.LebLonger", spec := "lebLonger", apart := false, narrowed := true }
def LebLongerUptoSaid : Prop := lebLongerUptoRow.holds Try.pinned (OpenSpec.upto lebLongerSpec)

/-- 'bodkinlaw01.LebWrites', WHERE WHAT IT READS IS OF BULK AT MOST 1048576: true; the input reads as it did. -/
def lebWritesUptoRow : OpenClaim := { program := "ytnpiicnhdpldaaa", sum := "df2e3fcecf7fea2f17c68f69fdc41442dcb12b4df375213a44931a3c23d4cf89", func := "bodkin/bodkinlaw01.LebWrites", spec := "lebWrites", apart := false, narrowed := true }
def LebWritesUptoSaid : Prop := lebWritesUptoRow.holds Try.pinned (OpenSpec.upto lebWritesSpec)

/-- 'bodkinlaw01.LebReads', WHERE WHAT IT READS IS OF BULK AT MOST 1048576: true; the input reads as it did. -/
def lebReadsUptoRow : OpenClaim := { program := "ytnpiicnhdpldaaa", sum := "df2e3fcecf7fea2f17c68f69fdc41442dcb12b4df375213a44931a3c23d4cf89", func := "bodkin/bodkinlaw01.LebReads", spec := "lebReads", apart := false, narrowed := true }
def LebReadsUptoSaid : Prop := lebReadsUptoRow.holds Try.pinned (OpenSpec.upto lebReadsSpec)

/-- 'bodkinlaw01.LebNone', WHERE WHAT IT READS IS OF BULK AT MOST 1048576: true; the input reads as it did. -/
def lebNoneUptoRow : OpenClaim := { program := "ytnpiicnhdpldaaa", sum := "df2e3fcecf7fea2f17c68f69fdc41442dcb12b4df375213a44931a3c23d4cf89", func := "bodkin/bodkinlaw01.LebNone", spec := "lebNone", apart := false, narrowed := true }
def LebNoneUptoSaid : Prop := lebNoneUptoRow.holds Try.pinned (OpenSpec.upto lebNoneSpec)

/-- 'bodkinlaw01.LebBack', WHERE WHAT IT READS IS OF BULK AT MOST 1048576: true; the input reads as it did. -/
def lebBackUptoRow : OpenClaim := { program := "ytnpiicnhdpldaaa", sum := "df2e3fcecf7fea2f17c68f69fdc41442dcb12b4df375213a44931a3c23d4cf89", func := "bodkin/bodkinlaw01.LebBack", spec := "lebBack", apart := false, narrowed := true }
def LebBackUptoSaid : Prop := lebBackUptoRow.holds Try.pinned (OpenSpec.upto lebBackSpec)

end Rows
end Go.Proofs.Ytnpiicnhdpldaaa
