/-
  The plain law of IntsBin: what any two come to, by any operation, at any size, is the reference's, or its trap, or error. No condition.
-/
import Derived.Test.YtajmjmnlapplaaaDoorPInmx30
import Derived.Test.YtajmjmnlapplaaaDoorA5
namespace Go.Proofs.YtajmjmnlapplaaaDoor.Pure
set_option linter.unusedVariables false
open Go.RowKit Go.Proofs.YtajmjmnlapplaaaDoor.PInts Go.Proofs.YtajmjmnlapplaaaDoor.PInm Go.Proofs.YtajmjmnlapplaaaDoorW.PrintWords Go.Proofs.YtajmjmnlapplaaaDoorW.PrintLast
theorem IntsBin : bodkinlaw02_IntsBin.Pure := by
  intro n op a b hn ho ha hb
  have ha := bounds_u64 ha
  have hb := bounds_u64 hb
  obtain ⟨r, h1, h2⟩ := agree n op a b ha.1 (by omega) hb.1 (by omega)
  refine ⟨20, ?_⟩
  unfold bodkinlaw02_IntsBin.f
  rw [awake_at 20 (by omega), h1 20 (by omega), h2]
  simp only [Option.bind_some, if_true]
  simp
end Go.Proofs.YtajmjmnlapplaaaDoor.Pure
