/-
  The contracts of leb.Valid and of the laws' awake, in the form in which the kit's print uses a function's contract. Valid: for texts of up to 2^47 bytes.
-/
import Derived.Test.YtnpiicnhdpldaaaLbG
namespace Go.Proofs.Ytnpiicnhdpldaaa.PLeb
open Go.RowKit Go.Proofs.YtnpiicnhdpldaaaW.PrintWords Go.Proofs.Ytnpiicnhdpldaaa.Lb

def leb_Valid.f (a0 : ByteArray) : Option Bool := if a0.size ≤ 140737488351232 then some (validG a0 a0.size 0) else none
theorem leb_Valid.calls (a0 : ByteArray) (r : Bool) (w : World) (h : leb_Valid.f a0 = some r) :
    Calls Try.prog 10 #[.string a0] w fun e w' => e = .returned (.bool r) ∧ Below w.heap.size w w' := by
  unfold leb_Valid.f at h
  split at h
  · rename_i hs
    obtain rfl := Option.some.inj h
    exact (valid_w a0 hs w).mono fun e w' hq => by
      obtain ⟨he, pos, rfl⟩ := hq.out
      exact ⟨he, iter_below _ _ _⟩
  · cases h
/-- The document's examples come to true. -/
def bodkinlaw01_awake.f : Option Bool := some true
theorem bodkinlaw01_awake.calls (r : Bool) (w : World) (h : bodkinlaw01_awake.f = some r) :
    Calls Try.prog 9 #[] w fun e w' => e = .returned (.bool r) ∧ Below w.heap.size w w' := by
  obtain rfl := Option.some.inj h
  exact awake_c w
end Go.Proofs.Ytnpiicnhdpldaaa.PLeb
