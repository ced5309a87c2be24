/-
  No cell of these rows narrows 'for every input' (looked for: loops, veiled, ifaces, maps, wideKeys, modest, calm, conditions, laid).
  DERIVED. THE GIVEN ROWS OF THIS SEAT. 5 by the template 'for every input the law returns true; each argument reads behind the call as it read before'; 0 by the template 'total and deterministic' (their statements: YtlllbgmnheikgaaTotals.lean).
  GIVEN WITH THE SEED: the statements are not yours to turn. If you find one false, say at which input.
  Laid BY PROGRAM, IN A SANDBOX (cutbox-rows.mjs): the forced cells as the released guide's own fill.sh prints them over the translation fcdbdef3c3caa1e2… (all of the seat's roots in one cut). By AI agents, Wed Nov 11 2026. No macro, syntax, notation, axiom, sorry.
-/
import Derived.Test.YtlllbgmnheikgaaChecked
import GoSem.Claim
import GoSem.ClaimJoined
import GoSem.ClaimMapViews
import Derived.JoinedTies
import Derived.KernelRfl
namespace Go.Proofs.Ytlllbgmnheikgaa
/- THE CELL 'sum', in the pinned program and in every row, IS THE sha256 OF THE DUMP (.gsa) THAT YtlllbgmnheikgaaProg.lean LOADS. Nothing in Lean hashes anything: it is a label: what it is worth is what the hold of that sum in a sandbox is worth. -/
noncomputable def Try.pinned : Pinned := { name := "ytlllbgmnheikgaa", sum := "fcdbdef3c3caa1e2bf42241de9a54969810dfc0bb3e837eac885f6e59fc5e6e1", checked := Try.checked }
namespace Rows
def none {H : Type} : Left H := { results := [], args := [] }

/-- 'bodkinlaw13.StoreGrows': WHATEVER THE INPUT: true; the input reads as it did. -/
def storeGrowsSpec : ChangeSpec := { name := "storeGrows", fn := fun _ => fun
  | [d1, d2, d3, d4, d5] => { results := [.lit (.bool true)], args := [d1, d2, d3, d4, d5] }
  | _ => none }
def storeGrowsRow : OpenClaim := { program := "ytlllbgmnheikgaa", sum := "fcdbdef3c3caa1e2bf42241de9a54969810dfc0bb3e837eac885f6e59fc5e6e1", func := "bodkin/bodkinlaw13.StoreGrows", spec := "storeGrows", apart := false }
def StoreGrowsSaid : Prop := storeGrowsRow.holds Try.pinned (OpenSpec.ofChange storeGrowsSpec)

/-- ITS FALSE NEIGHBOUR: 'it returns false'. Refute it at one input. -/
def storeGrowsWrong : ChangeSpec := { name := "storeGrows", fn := fun _ => fun
  | [d1, d2, d3, d4, d5] => { results := [.lit (.bool false)], args := [d1, d2, d3, d4, d5] }
  | _ => none }
def StoreGrowsWrongFalsely : Prop := storeGrowsRow.holds Try.pinned (OpenSpec.ofChange storeGrowsWrong)

/-- 'bodkinlaw13.StoreMem': WHATEVER THE INPUT: true; the input reads as it did. -/
def storeMemSpec : ChangeSpec := { name := "storeMem", fn := fun _ => fun
  | [d1, d2, d3, d4] => { results := [.lit (.bool true)], args := [d1, d2, d3, d4] }
  | _ => none }
def storeMemRow : OpenClaim := { program := "ytlllbgmnheikgaa", sum := "fcdbdef3c3caa1e2bf42241de9a54969810dfc0bb3e837eac885f6e59fc5e6e1", func := "bodkin/bodkinlaw13.StoreMem", spec := "storeMem", apart := false }
def StoreMemSaid : Prop := storeMemRow.holds Try.pinned (OpenSpec.ofChange storeMemSpec)

/-- ITS FALSE NEIGHBOUR: 'it returns false'. Refute it at one input. -/
def storeMemWrong : ChangeSpec := { name := "storeMem", fn := fun _ => fun
  | [d1, d2, d3, d4] => { results := [.lit (.bool false)], args := [d1, d2, d3, d4] }
  | _ => none }
def StoreMemWrongFalsely : Prop := storeMemRow.holds Try.pinned (OpenSpec.ofChange storeMemWrong)

/-- 'bodkinlaw13.StoreBack': WHATEVER THE INPUT: true; the input reads as it did. -/
def storeBackSpec : ChangeSpec := { name := "storeBack", fn := fun _ => fun
  | [d1, d2, d3, d4] => { results := [.lit (.bool true)], args := [d1, d2, d3, d4] }
  | _ => none }
def storeBackRow : OpenClaim := { program := "ytlllbgmnheikgaa", sum := "fcdbdef3c3caa1e2bf42241de9a54969810dfc0bb3e837eac885f6e59fc5e6e1", func := "bodkin/bodkinlaw13.StoreBack", spec := "storeBack", apart := false }
def StoreBackSaid : Prop := storeBackRow.holds Try.pinned (OpenSpec.ofChange storeBackSpec)

/-- ITS FALSE NEIGHBOUR: 'it returns false'. Refute it at one input. -/
def storeBackWrong : ChangeSpec := { name := "storeBack", fn := fun _ => fun
  | [d1, d2, d3, d4] => { results := [.lit (.bool false)], args := [d1, d2, d3, d4] }
  | _ => none }
def StoreBackWrongFalsely : Prop := storeBackRow.holds Try.pinned (OpenSpec.ofChange storeBackWrong)

/-- 'bodkinlaw13.StoreTable': WHATEVER THE INPUT: true; the input reads as it did. -/
def storeTableSpec : ChangeSpec := { name := "storeTable", fn := fun _ => fun
  | [d1, d2, d3, d4] => { results := [.lit (.bool true)], args := [d1, d2, d3, d4] }
  | _ => none }
def storeTableRow : OpenClaim := { program := "ytlllbgmnheikgaa", sum := "fcdbdef3c3caa1e2bf42241de9a54969810dfc0bb3e837eac885f6e59fc5e6e1", func := "bodkin/bodkinlaw13.StoreTable", spec := "storeTable", apart := false }
def StoreTableSaid : Prop := storeTableRow.holds Try.pinned (OpenSpec.ofChange storeTableSpec)

/-- ITS FALSE NEIGHBOUR: 'it returns false'. Refute it at one input. -/
def storeTableWrong : ChangeSpec := { name := "storeTable", fn := fun _ => fun
  | [d1, d2, d3, d4] => { results := [.lit (.bool false)], args := [d1, d2, d3, d4] }
  | _ => none }
def StoreTableWrongFalsely : Prop := storeTableRow.holds Try.pinned (OpenSpec.ofChange storeTableWrong)

/-- 'bodkinlaw13.StoreNone': WHATEVER THE INPUT: true; the input reads as it did. -/
def storeNoneSpec : ChangeSpec := { name := "storeNone", fn := fun _ => fun
  | [d1, d2, d3, d4] => { results := [.lit (.bool true)], args := [d1, d2, d3, d4] }
  | _ => none }
def storeNoneRow : OpenClaim := { program := "ytlllbgmnheikgaa", sum := "fcdbdef3c3caa1e2bf42241de9a54969810dfc0bb3e837eac885f6e59fc5e6e1", func := "bodkin/bodkinlaw13.StoreNone", spec := "storeNone", apart := false }
def StoreNoneSaid : Prop := storeNoneRow.holds Try.pinned (OpenSpec.ofChange storeNoneSpec)

/-- ITS FALSE NEIGHBOUR: 'it returns false'. Refute it at one input. -/
def storeNoneWrong : ChangeSpec := { name := "storeNone", fn := fun _ => fun
  | [d1, d2, d3, d4] => { results := [.lit (.bool false)], args := [d1, d2, d3, d4] }
  | _ => none }
def StoreNoneWrongFalsely : Prop := storeNoneRow.holds Try.pinned (OpenSpec.ofChange storeNoneWrong)

/- THE SECOND FORM. 'bulk': how many values and letters a reading holds, each counted each time it is reached (what is shared counts as often as it is met; a slice's spare places count too). A statement '..UptoSaid' is the law's where the arguments, and the package variables that the reading takes, are together of bulk at most 1048576: NARROWER than '..Said'. Prove '..Said' where nothing that the law and all that it calls make is longer than what came in: it says more and counts as full. Else prove '..UptoSaid'. A law counts once. -/
mutual
def uptoBulk {H : Type} : DataW H → Nat
  | .lit (.string bytes) => bytes.length + 1
  | .lit _ => 1
  | .nil => 1
  | .ptr d => uptoBulk d + 1
  | .slice elems spare => uptoBulkAll elems + uptoBulkAll spare + 1
  | .agg parts => uptoBulkAll parts + 1
  | .iface _ d => uptoBulk d + 1
  | .map entries => uptoBulkEntries entries + 1
  | .held _ => 1
def uptoBulkAll {H : Type} : List (DataW H) → Nat
  | [] => 0
  | d :: r => uptoBulk d + uptoBulkAll r
def uptoBulkEntries {H : Type} : List (Lit × DataW H) → Nat
  | [] => 0
  | x :: r => uptoBulkEntry x + uptoBulkEntries r
def uptoBulkEntry {H : Type} : Lit × DataW H → Nat
  | (.string bytes, d) => bytes.length + uptoBulk d + 1
  | (_, d) => uptoBulk d + 1
 end
def uptoSmall : (H : Type) → List (DataW H) → Bool := fun _ ds => decide (uptoBulkAll ds ≤ 1048576)
def OpenSpec.upto (s : _root_.Go.ChangeSpec) : _root_.Go.OpenSpec := { _root_.Go.OpenSpec.ofChange s with cond := some uptoSmall }

/-- 'bodkinlaw13.StoreGrows', WHERE WHAT IT READS IS OF BULK AT MOST 1048576: true; the input reads as it did. -/
def storeGrowsUptoRow : OpenClaim := { program := "ytlllbgmnheikgaa", sum := "fcdbdef3c3caa1e2bf42241de9a54969810dfc0bb3e837eac885f6e59fc5e6e1", func := "bodkin/bodkinlaw13.StoreGrows", spec := "storeGrows", apart := false, narrowed := true }
def StoreGrowsUptoSaid : Prop := storeGrowsUptoRow.holds Try.pinned (OpenSpec.upto storeGrowsSpec)

/-- 'bodkinlaw13.StoreMem', WHERE WHAT IT READS IS OF BULK AT MOST 1048576: true; the input reads as it did. -/
def storeMemUptoRow : OpenClaim := { program := "ytlllbgmnheikgaa", sum := "fcdbdef3c3caa1e2bf42241de9a54969810dfc0bb3e837eac885f6e59fc5e6e1", func := "bodkin/bodkinlaw13.StoreMem", spec := "storeMem", apart := false, narrowed := true }
def StoreMemUptoSaid : Prop := storeMemUptoRow.holds Try.pinned (OpenSpec.upto storeMemSpec)

/-- 'bodkinlaw13.StoreBack', WHERE WHAT IT READS IS OF BULK AT MOST 1048576: true; the input reads as it did. -/
def storeBackUptoRow : OpenClaim := { program := "ytlllbgmnheikgaa", sum := "fcdbdef3c3caa1e2bf42241de9a54969810dfc0bb3e837eac885f6e59fc5e6e1", func := "bodkin/bodkinlaw13.StoreBack", spec := "storeBack", apart := false, narrowed := true }
def StoreBackUptoSaid : Prop := storeBackUptoRow.holds Try.pinned (OpenSpec.upto storeBackSpec)

/-- 'bodkinlaw13.StoreTable', WHERE WHAT IT READS IS OF BULK AT MOST 1048576: true; the input reads as it did. -/
def storeTableUptoRow : OpenClaim := { program := "ytlllbgmnheikgaa", sum := "fcdbdef3c3caa1e2bf42241de9a54969810dfc0bb3e837eac885f6e59fc5e6e1", func := "bodkin/bodkinlaw13.StoreTable", spec := "storeTable", apart := false, narrowed := true }
def StoreTableUptoSaid : Prop := storeTableUptoRow.holds Try.pinned (OpenSpec.upto storeTableSpec)

/-- 'bodkinlaw13.StoreNone', WHERE WHAT IT READS IS OF BULK AT MOST 1048576: true; the input reads as it did. -/
def storeNoneUptoRow : OpenClaim := { program := "ytlllbgmnheikgaa", sum := "fcdbdef3c3caa1e2bf42241de9a54969810dfc0bb3e837eac885f6e59fc5e6e1", func := "bodkin/bodkinlaw13.StoreNone", spec := "storeNone", apart := false, narrowed := true }
def StoreNoneUptoSaid : Prop := storeNoneUptoRow.holds Try.pinned (OpenSpec.upto storeNoneSpec)

end Rows
end Go.Proofs.Ytlllbgmnheikgaa
