/-
  The law StoreTable, as its row wants it. No condition but those of what came in.
-/
import Derived.Test.YtlllbgmnheikgaaTc
import Derived.Test.YtlllbgmnheikgaaTd
namespace Go.Proofs.Ytlllbgmnheikgaa.St
set_option linter.unusedVariables false
set_option linter.unusedSimpArgs false
open Go.ChangeShapes Go.WideShapes Go.RowKit Go.Proofs.YtlllbgmnheikgaaW.PrintWords Go.Proofs.Ytlllbgmnheikgaa.PStoreNone

theorem tab_walk (b00 b01 : Int) (b02 : Bool) (a1 : Option Addr) (n1 c1 : Nat) (a2 : Option Addr) (n2 c2 : Nat) (S : Option Addr) (ns cs : Nat) (w : World) (w01 : (Lit.int .i64 b01).wf = true) (w1 : ∃ l : List V4, n1 = l.length ∧ Reads4 w a1 l.length (cl l) ∧ l.length ≤ c1) (w2 : ∃ l : List V4, n2 = l.length ∧ Reads4 w a2 l.length (cl l) ∧ l.length ≤ c2)
    (w3 : ∀ i, i < ns → ∃ ad x, S = some ad ∧ ActOk w (ad.add (i * 10)) x) :
    Calls Try.prog 6 #[.agg #[.int .i64 b00, .int .i64 b01, .bool b02], .slice a1 n1 c1, .slice a2 n2 c2, .slice S ns cs] w fun e w' => e = .returned (.bool true) ∧ Below w.heap.size w w' := by
  obtain ⟨l1, rfl, r1, h1⟩ := w1
  obtain ⟨l2, rfl, r2, h2⟩ := w2
  have q := bounds_i64 w01
  by_cases h : 100 < (l1.length : Int) ∨ 100 < (l2.length : Int)
  · exact tab_big b00 b01 b02 a1 a2 S l1.length c1 l2.length c2 ns cs w h
  · exact tab_law b00 b01 b02 a1 a2 S c1 c2 ns cs l1 l2 w q.1 r1 h1 (by omega) r2 h2 (by omega) w3
end Go.Proofs.Ytlllbgmnheikgaa.St
