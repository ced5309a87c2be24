/-
  The walk of leb.Valid: what a range over a string meets. The one condition is that of every string that is read: it is no longer than 2^47 bytes.
-/
import Derived.Test.YtjecdciabpjgcaaDoorLxC
import Derived.Laws.RangeAny
import Derived.Lib.Hide
import Derived.LoopTactic
namespace Go.Proofs.YtjecdciabpjgcaaDoor.Lb
set_option linter.unusedVariables false
set_option linter.unusedSimpArgs false
open Go.RowKit Go.Proofs.YtjecdciabpjgcaaDoorW.PrintWords

/-- What stands at a place is no UTF-8. -/
def badAt (s : ByteArray) (pos : Nat) : Bool :=
  ((((Utf8.decode s pos).1 : Nat) : Int) == 65533) && (decide ((s.size : Int) - pos < 3) || !((s.extract pos (pos + 3)).toList == [239, 191, 189]))
def validG (s : ByteArray) : Nat → Nat → Bool
  | 0, _ => true
  | b + 1, pos => if pos < s.size then if badAt s pos = true then false else validG s b (pos + (Utf8.decode s pos).2) else true
theorem valid_end (s : ByteArray) (b pos : Nat) (h : ¬ pos < s.size) : validG s b pos = true := by
  cases b with
  | zero => rfl
  | succ b => simp [validG, h]
theorem width_pos (s : ByteArray) (pos : Nat) (h : pos < s.size) : 1 ≤ (Utf8.decode s pos).2 := by
  by_cases ha : (s[pos]'h).toNat < 128
  · rw [decode_ascii s pos h ha]
    exact Nat.le_refl _
  · exact (decode_high s pos h (by omega)).2

structure VldQ (s : ByteArray) (w : World) (b : Bool) (e : Ending) (w' : World) : Prop where mk ::
  (out : e = .returned (.bool b) ∧ ∃ pos, w' = w.iter s pos)
set_option maxRecDepth 1000000 in
theorem valid_w (s : ByteArray) (hs : s.size ≤ 140737488351232) (w : World) :
    Calls Tryd.prog 18 #[.string s] w (VldQ s w (validG s s.size 0)) := by
  generalize hR : validG s s.size 0 = R
  have HR := Lib.hid hR
  clear hR
  go_enter Tryd.func18, Tryd.ntmps18
  go_wp2
  go_loopw [3, 4] (fun v3 v4 w' => ∃ (pos b : Nat), w' = w.iter s pos ∧ Hid (validG s b pos = R) ∧ s.size ≤ pos + b) (fun _ _ w' => s.size - w'.iterPos w.heap.size)
  case atStart => exact ⟨0, s.size, rfl, HR, by omega⟩
  case round =>
    obtain ⟨pos, b, rfl, hc, hb⟩ := hrel
    by_cases hp : pos < s.size
    · have hnx : ∀ ty, (Instr.next (.pointer (some ⟨w.heap.size, 0, none⟩)) true ty).run Tryd.prog (w.iter s pos) = _ := fun ty => run_next_any w s pos ty hp
      have hwd := width_pos s pos hp
      have hbad : Hid (badAt s pos = true → R = false) := Lib.hid fun h => by
        cases b with
        | zero => omega
        | succ b => have := hc.out; unfold validG at this; rw [if_pos hp, if_pos h] at this; exact this.symm
      have hgood : Hid (badAt s pos = false → ∃ b', validG s b' (pos + (Utf8.decode s pos).2) = R ∧ s.size ≤ pos + (Utf8.decode s pos).2 + b') := Lib.hid fun h => by
        cases b with
        | zero => omega
        | succ b => have := hc.out; unfold validG at this; rw [if_pos hp, if_neg (by rw [h]; simp)] at this; exact ⟨b, this, by omega⟩
      by_cases c1 : ((((Utf8.decode s pos).1 : Nat) : Int) == 65533) = true
      · by_cases c2 : (s.size : Int) - pos < 3
        · go_wp2
          go_ret
          rw [hbad.out (by unfold badAt; rw [c1, decide_eq_true c2]; rfl)]
          exact ⟨rfl, _, rfl⟩
        · have hsl : ∀ W, (Instr.slice 9 (.string s) (some (.int .i64 (pos : Int))) (some (.int .i64 ((pos : Int) + 3))) none).run Tryd.prog W = .ok (.string (s.extract pos (pos + 3))) W := fun W => by
            have := run_slice_string (P := Tryd.prog) (w := W) 9 s .i64 .i64 (pos : Int) ((pos : Int) + 3) Tryd.underlying9 (by omega) (by omega) (by omega)
            rw [this]; rfl
          have c2' : 3 ≤ (s.size : Int) - pos := by omega
          by_cases c3 : ((s.extract pos (pos + 3)).toList == [239, 191, 189]) = false
          · have HB : Hid (R = false) := Lib.hid (hbad.out (by unfold badAt; rw [c1, c3]; simp))
            clear hbad hgood c2
            go_wp2
            go_ret
            rw [HB.out]
            exact ⟨rfl, _, rfl⟩
          · have c3' : ((s.extract pos (pos + 3)).toList == [239, 191, 189]) = true := by simpa using c3
            have HG := Lib.hid (hgood.out (by unfold badAt; rw [c1, c3', decide_eq_false c2]; rfl))
            clear hbad hgood c2 c3
            go_wp2
            go_roundw
            case rel =>
              obtain ⟨b', h1, h2⟩ := HG.out
              exact ⟨pos + (Utf8.decode s pos).2, b', rfl, h1, by omega⟩
            case measure =>
              simp
              omega
      · have c1' := Bool.eq_false_iff.2 c1
        have HG := Lib.hid (hgood.out (by unfold badAt; rw [c1']; rfl))
        clear hbad hgood c1
        go_wp2
        go_roundw
        case rel =>
          obtain ⟨b', h1, h2⟩ := HG.out
          exact ⟨pos + (Utf8.decode s pos).2, b', rfl, h1, by omega⟩
        case measure =>
          simp
          omega
    · have hnx : ∀ ty, (Instr.next (.pointer (some ⟨w.heap.size, 0, none⟩)) true ty).run Tryd.prog (w.iter s pos) = _ := fun ty => run_next_end w s pos ty hp
      go_wp2
      go_ret
      have := hc.out
      rw [valid_end s b pos hp] at this
      subst this
      exact ⟨rfl, _, rfl⟩
end Go.Proofs.YtjecdciabpjgcaaDoor.Lb
