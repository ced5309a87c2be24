/-
  Any text is UTF-8 just where the document says (LebTexts). No condition but the text's length, at most 2^47 bytes.
-/
import Derived.Test.YtnpiicnhdpldaaaPLecx1
import Derived.Test.YtnpiicnhdpldaaaLbI
namespace Go.Proofs.Ytnpiicnhdpldaaa.Pure
open Go.RowKit Go.Proofs.Ytnpiicnhdpldaaa.PLec Go.Proofs.Ytnpiicnhdpldaaa.PLeb Go.Proofs.Ytnpiicnhdpldaaa.Lb Go.Proofs.YtnpiicnhdpldaaaW.PrintWords Go.Proofs.YtnpiicnhdpldaaaW.PrintLast

theorem LebTexts : bodkinlaw01_LebTexts.Pure := by
  intro s hs
  refine ⟨7 * s.size + 7, ?_⟩
  unfold bodkinlaw01_LebTexts.f bodkinlaw01_awake.f leb_Valid.f
  rw [Option.bind_some, if_pos rfl]
  split
  · rfl
  · rw [Option.bind_some, refValid_f s hs _ (Nat.le_refl _), Option.bind_some]
    simp

end Go.Proofs.Ytnpiicnhdpldaaa.Pure
