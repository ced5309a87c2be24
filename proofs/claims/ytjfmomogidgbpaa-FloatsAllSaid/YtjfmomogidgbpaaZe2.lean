/-
  The contract of math/bits.Len64, which the kit's print does not take, in the words of the kit's Lib.bitLen.
  Walks of the reference's small functions over Go's own floats: bits as floats and back, and a float of 32 bits as one of 64. No condition but that a word is one.
  What a float's bits say of how it stands; walks of the reference's Kind, of what is worked, of Rel. No condition but that a word is one.
  Walks of the reference's Kind, worked and Rel, as closed forms. No condition but that a word is one.
  Walks of the reference's Un and Rel, as closed forms. No condition but that a word is one.
  What one comes to, at an operation of math's own, cut to 32 bits; the walk of the reference's Un. No condition but that a word is one.
  The walk of the reference's Rel. No condition but that a word is one.
  The walk of the reference's Bin. No condition but that a word is one.
-/
import Derived.Test.YtjfmomogidgbpaaProg
import Derived.WalkKit
import Derived.KernelRfl
import Derived.Lib.BitFns
import Derived.WalkLawsBesides
import Derived.Laws.Externs
import Derived.Lib.Hide
import Derived.Below
import Derived.Deep.Draws
import Derived.Deep.AppendLies
import Derived.Maps.AppendAt
import Derived.OwnWalk
import Derived.Laws.BytesArg
import Derived.Laws.MakeOwn
import Derived.Laws.OwnMore
import Derived.Deep.OwnRows
import Derived.Tactics
import Derived.Lib.ConvBytes
import Derived.Laws.Slices
import Derived.RowKit3
import Derived.Deep.LoopGhost
import Derived.Deep.QuietTactic
import Derived.BigQuiet
import Derived.WideLaws
import Derived.Deep.DeepCutAuto
import Derived.Deep.CutBlock
import Derived.Deep.RegionHeld3
import Derived.Laws.Rows
import Derived.Lib.AppendStr
import Derived.ArgAppend
import Derived.Laws.IdiomCopy
import Derived.OrdersHeld
import Derived.Laws.BitsLemmas
import Derived.RowKit
import Derived.Test.YtjfmomogidgbpaaZe0
import Derived.Test.YtjfmomogidgbpaaZe1
namespace Go.Proofs.Ytjfmomogidgbpaa.PFl
open Go.RowKit Go.Proofs.YtjfmomogidgbpaaW.PrintWords
theorem tab_size : Lib.len8tab.size = 256 := by decide +kernel
theorem tab_fin : ∀ n : Fin 256, (Lib.len8tab[n.val]'(by rw [tab_size]; exact n.isLt)).toNat = Lib.bitLen n.val := by decide +kernel
theorem tab_at (i : Nat) (h : i < Lib.len8tab.size) : (Lib.len8tab[i]'h).toNat = Lib.bitLen i := tab_fin ⟨i, by rw [tab_size] at h; exact h⟩
theorem small (i : Nat) (h : i < 256) : Lib.bitLen i ≤ 8 := Lib.bitLen_le i 8 (by decide) h
theorem close (x : Int) (q : Nat) (k : Int) (h : q < Lib.len8tab.size) (hq : q < 256) (e : (Lib.bitLen x.toNat : Int) = k + (Lib.bitLen q : Int)) (hk : 0 ≤ k ∧ k ≤ 56) :
    wrap64 (k + wrap64 ((Lib.len8tab[q]'h).toNat : Int)) = (Lib.bitLen x.toNat : Int) := by
  rw [tab_at, e]
  have := small q hq
  unfold wrap64
  omega
set_option maxHeartbeats 400000 in
set_option maxRecDepth 100000 in
theorem bits_Len64.any (x : Int) (w : World) (h0 : 0 ≤ x) (h1 : x ≤ 18446744073709551615) :
    Calls Try.prog 63 #[.int .u64 x] w fun e w' => e = .returned (.int .i64 (Lib.bitLen x.toNat)) ∧ w' = w := by
  have hT : (256 : Int) ≤ (Lib.len8tab.size : Int) := by rw [tab_size]; decide
  go_enter Try.func63, Try.ntmps63
  go_wp2
  all_goals (go_ret; refine ⟨congrArg Ending.returned (congrArg (Value.int IntKind.i64) ?_), rfl⟩)
  · exact close x _ 56 _ (by omega) (by
      have s := Lib.bitLen_shift56 x.toNat (by omega) (by omega)
      rw [s, show (x / 4294967296 / 65536 / 256).toNat = x.toNat / 72057594037927936 from by omega]
      rfl) (by omega)
  · exact close x _ 48 _ (by omega) (by
      have s := Lib.bitLen_shift48 x.toNat (by omega) (by omega)
      rw [s, show (x / 4294967296 / 65536).toNat = x.toNat / 281474976710656 from by omega]
      rfl) (by omega)
  · exact close x _ 40 _ (by omega) (by
      have s := Lib.bitLen_shift40 x.toNat (by omega) (by omega)
      rw [s, show (x / 4294967296 / 256).toNat = x.toNat / 1099511627776 from by omega]
      rfl) (by omega)
  · exact close x _ 32 _ (by omega) (by
      have s := Lib.bitLen_shift32 x.toNat (by omega) (by omega)
      rw [s, show (x / 4294967296).toNat = x.toNat / 4294967296 from by omega]
      rfl) (by omega)
  · exact close x _ 24 _ (by omega) (by
      have s := Lib.bitLen_shift24 x.toNat (by omega) (by omega)
      rw [s, show (x / 65536 / 256).toNat = x.toNat / 16777216 from by omega]
      rfl) (by omega)
  · exact close x _ 16 _ (by omega) (by
      have s := Lib.bitLen_shift16 x.toNat (by omega) (by omega)
      rw [s, show (x / 65536).toNat = x.toNat / 65536 from by omega]
      rfl) (by omega)
  · exact close x _ 8 _ (by omega) (by
      have s := Lib.bitLen_shift8 x.toNat (by omega) (by omega)
      rw [s, show (x / 256).toNat = x.toNat / 256 from by omega]
      rfl) (by omega)
  · have c := close x x.toNat 0 (by omega) (by omega) (by omega) (by omega)
    rw [Int.zero_add] at c
    rw [← c]
def bits_Len64.f (a0 : Int) : Option Int := if 0 ≤ a0 ∧ a0 ≤ 18446744073709551615 then some (Lib.bitLen a0.toNat) else none
theorem bits_Len64.calls (a0 : Int) (r : Int) (w : World) (h : bits_Len64.f a0 = some r) :
    Calls Try.prog 63 #[.int .u64 a0] w fun e w' => e = .returned (.int .i64 r) ∧ Drawn0 w w' := by
  unfold bits_Len64.f at h
  split at h
  · rename_i hb
    obtain rfl := Option.some.inj h
    refine (bits_Len64.any a0 w hb.1 hb.2).mono fun e w' he => ⟨he.1, ?_⟩
    rw [he.2]
    exact Drawn0.refl w
  · cases h
theorem zsi {α : Type} (l : List α) (i : Nat) (a : α) : l.toArray.setIfInBounds i a = (l.set i a).toArray := List.setIfInBounds_toArray ..
theorem zcz {α : Type} (a : α) (l : List α) (b : α) : (a :: l).set 0 b = b :: l := rfl
theorem zcs {α : Type} (a : α) (l : List α) (n : Nat) (b : α) : (a :: l).set (n + 1) b = a :: l.set n b := rfl
theorem zmt {α β : Type} (f : α → β) (l : List α) : l.toArray.map f = (l.map f).toArray := List.map_toArray ..
theorem zmc {α β : Type} (f : α → β) (a : α) (l : List α) : (a :: l).map f = f a :: l.map f := rfl
theorem zmn {α β : Type} (f : α → β) : ([] : List α).map f = [] := rfl
theorem zob {α β : Type} {o : Option α} {f : α → Option β} {b : β} (h : o.bind f = some b) : ∃ a, o = some a ∧ f a = some b := Option.bind_eq_some_iff.mp h
end Go.Proofs.Ytjfmomogidgbpaa.PFl
namespace Go.Proofs.Ytjfmomogidgbpaa.Ref
set_option linter.unusedVariables false
set_option linter.unusedSimpArgs false
open Go.RowKit Go.Proofs.YtjfmomogidgbpaaW.PrintWords Go.Proofs.Ytjfmomogidgbpaa.Fl
theorem x71 (n : Int) (w : World) : (callFunc 71 #[.int .u32 n]).run Try.prog w = .ok (.value (.float .f32 n.toNat)) w := by
  rw [run_callFunc_extern Try.func71 (by kernel_rfl) (by kernel_rfl) (by kernel_rfl) (e := Extern.MathFloatBits.float32frombits) (by kernel_rfl)]; rfl
theorem x80 (n : Int) (w : World) : (callFunc 80 #[.int .u64 n]).run Try.prog w = .ok (.value (.float .f64 n.toNat)) w := by
  rw [run_callFunc_extern Try.func80 (by kernel_rfl) (by kernel_rfl) (by kernel_rfl) (e := Extern.MathFloatBits.float64frombits) (by kernel_rfl)]; rfl
theorem x72 (b : Nat) (w : World) : (callFunc 72 #[.float .f32 b]).run Try.prog w = .ok (.value (.int .u32 b)) w := by
  rw [run_callFunc_extern Try.func72 (by kernel_rfl) (by kernel_rfl) (by kernel_rfl) (e := Extern.MathFloatBits.float32bits) (by kernel_rfl)]; rfl
theorem x70 (b : Nat) (w : World) : (callFunc 70 #[.float .f64 b]).run Try.prog w = .ok (.value (.int .u64 b)) w := by
  rw [run_callFunc_extern Try.func70 (by kernel_rfl) (by kernel_rfl) (by kernel_rfl) (e := Extern.MathFloatBits.float64bits) (by kernel_rfl)]; rfl
/-- A word of 32 bits, as a number of so many. -/
def s32 (a : Int) : Nat := (a % 4294967296).toNat
theorem F32 (a : Int) (w : World) :
    Calls Try.prog 55 #[.int .u64 a] w fun e w' => e = .returned (.float .f32 (s32 a)) ∧ w' = w := by
  have hx := fun n => x71 n
  go_enter Try.func55, Try.ntmps55
  go_wp2
  go_ret
  exact ⟨rfl, rfl⟩
theorem F64 (a : Int) (w : World) :
    Calls Try.prog 69 #[.int .u64 a] w fun e w' => e = .returned (.float .f64 a.toNat) ∧ w' = w := by
  have hx := fun n => x80 n
  go_enter Try.func69, Try.ntmps69
  go_wp2
  go_ret
  exact ⟨rfl, rfl⟩
/-- A conversion to 64 bits: the value, or of a NaN a NaN of the tape's. -/
theorem run_wide (b : Nat) (h : rungOf Ieee.single b ≤ Ieee.single.infRung) (w : World) : (convert 58 53 (.float .f32 b)).run Try.prog w = .ok (.float .f64 (wd b)) w := by
  refine run_convert_float_float w 58 53 .f32 .f64 b (wd b) (by rw [Try.underlying58]; rfl) Try.underlying53 ?_
  unfold floatToFloatBits
  rw [if_neg (by decide)]
  by_cases c : rungOf Ieee.single b = Ieee.single.infRung
  · rw [show FloatKind.f32.decode b = .infinity (negOf Ieee.single b) from read_inf Ieee.single b bin_single c]
    have : wd b = Ieee.double.word (negOf Ieee.single b) Ieee.double.infRung := by
      unfold wd; rw [read_inf Ieee.single b bin_single c]; rfl
    rw [this]; rfl
  · obtain ⟨k, q, a1, a2, a3, _⟩ := wd_fin b (by omega)
    have hr := read_num Ieee.single b (by omega)
    rw [show FloatKind.f32.decode b = .number (negOf Ieee.single b) (magOf Ieee.single (rungOf Ieee.single b)) (Ieee.single.leastPlace + (plOf Ieee.single (rungOf Ieee.single b) : Nat)) from hr]
    have e : FloatKind.f64.encode (.number (negOf Ieee.single b) (magOf Ieee.single (rungOf Ieee.single b)) (Ieee.single.leastPlace + (plOf Ieee.single (rungOf Ieee.single b) : Nat))) = wd b := by
      unfold wd; rw [hr]; rfl
    simp only [e]
    rw [show FloatKind.f64.decode (wd b) = _ from a2]
    rfl
/-- The NaN that the tape gives. -/
def nanC (w : World) (b : Nat) : Nat := Question.cut (.nanConv .f64 b) (w.tape w.drawn (.nanConv .f64 b))
theorem nan64 (t : Nat) : Ieee.double.infRung < rungOf Ieee.double ((t % 2) * 2 ^ 63 + 0x7ff0000000000000 + 1 + (t / 2) % (2 ^ 52 - 1)) := by
  unfold rungOf
  rw [d_inf, d_sgn]
  have h1 : t % 2 < 2 := Nat.mod_lt _ (by decide)
  have h2 : t / 2 % (2 ^ 52 - 1) < 2 ^ 52 - 1 := Nat.mod_lt _ (by decide)
  generalize t % 2 = u at *
  generalize t / 2 % (2 ^ 52 - 1) = v at *
  omega
theorem nan32 (t : Nat) : Ieee.single.infRung < rungOf Ieee.single ((t % 2) * 2 ^ 31 + 0x7f800000 + 1 + (t / 2) % (2 ^ 23 - 1)) := by
  unfold rungOf
  rw [s_inf, s_sgn]
  have h1 : t % 2 < 2 := Nat.mod_lt _ (by decide)
  have h2 : t / 2 % (2 ^ 23 - 1) < 2 ^ 23 - 1 := Nat.mod_lt _ (by decide)
  generalize t % 2 = u at *
  generalize t / 2 % (2 ^ 23 - 1) = v at *
  omega
theorem run_wide_nan (b : Nat) (h : Ieee.single.infRung < rungOf Ieee.single b) (w : World) : (convert 58 53 (.float .f32 b)).run Try.prog w = .ok (.float .f64 (nanC w b)) w.drew := by
  have hd : FloatKind.f32.decode b = .nan (negOf Ieee.single b) (rungOf Ieee.single b - Ieee.single.infRung) := read_nan Ieee.single b bin_single h
  have hs : Try.prog.underlying 58 = some (.float .f32) := Try.underlying58
  simp [convert, run_underlying hs, run_underlying Try.underlying53, Conv.floatToFloat, hd]
  rfl
/-- What the bits of a float come to, as one of 64. -/
def Val (n a : Int) (x : Nat) : Prop :=
  if n = 32 then (rungOf Ieee.single (s32 a) ≤ Ieee.single.infRung → x = wd (s32 a)) ∧ (Ieee.single.infRung < rungOf Ieee.single (s32 a) → Ieee.double.infRung < rungOf Ieee.double x)
  else x = a.toNat
structure ValQ (n a : Int) (w : World) (e : Ending) (w' : World) : Prop where mk :: (out : ∃ x k, e = .returned (.float .f64 x) ∧ w' = w.drewN k ∧ Val n a x)
theorem value (n a : Int) (w : World) : Calls Try.prog 51 #[.int .i64 n, .int .u64 a] w (ValQ n a w) := by
  by_cases c : n = 32
  · subst c
    by_cases h : rungOf Ieee.single (s32 a) ≤ Ieee.single.infRung
    · have hc := fun w => run_wide (s32 a) h w
      have V : Hid (Val 32 a (wd (s32 a))) := Lib.hid (by unfold Val; rw [if_pos rfl]; exact ⟨fun _ => rfl, fun x => by omega⟩)
      clear h
      go_enter Try.func51, Try.ntmps51
      go_wp2_with (go_at_call 55; refine (F32 _ _).mono ?_; rintro e w' ⟨rfl, rfl⟩)
      go_ret
      exact ⟨_, 0, rfl, rfl, V.out⟩
    · have hc := fun w => run_wide_nan (s32 a) (by omega) w
      have V : Hid (∀ w : World, Val 32 a (nanC w (s32 a))) := Lib.hid (by
        intro w; unfold Val; rw [if_pos rfl]; exact ⟨fun x => by omega, fun _ => nan64 _⟩)
      clear h
      go_enter Try.func51, Try.ntmps51
      go_wp2_with (go_at_call 55; refine (F32 _ _).mono ?_; rintro e w' ⟨rfl, rfl⟩)
      go_ret
      exact ⟨_, 1, rfl, rfl, V.out _⟩
  · have V : Hid (Val n a a.toNat) := Lib.hid (by unfold Val; rw [if_neg c])
    have c1 : (n == 32) = false := beq_eq_false_iff_ne.2 c
    go_enter Try.func51, Try.ntmps51
    go_wp2_with (go_at_call 69; refine (F64 _ _).mono ?_; rintro e w' ⟨rfl, rfl⟩)
    go_ret
    exact ⟨_, 0, rfl, rfl, V.out⟩
/-- The bits of a float. -/
theorem B64_num (b : Nat) (h : Ieee.double.order b b = some .eq) (w : World) : Calls Try.prog 53 #[.float .f64 b] w fun e w' => e = .returned (.int .u64 b) ∧ w' = w := by
  have hc : (FloatKind.f64.format.order b b != some Ordering.eq) = false := by rw [show FloatKind.f64.format.order b b = some .eq from h]; rfl
  have hx := fun b => x70 b
  clear h
  go_enter Try.func53, Try.ntmps53
  go_wp2_with fail
  go_ret
  exact ⟨rfl, rfl⟩
theorem B32_num (b : Nat) (h : Ieee.single.order b b = some .eq) (hb : b < 4294967296) (w : World) : Calls Try.prog 56 #[.float .f32 b] w fun e w' => e = .returned (.int .u64 b) ∧ w' = w := by
  have hc : (FloatKind.f32.format.order b b != some Ordering.eq) = false := by rw [show FloatKind.f32.format.order b b = some .eq from h]; rfl
  have hx := fun b => x72 b
  clear h
  go_enter Try.func56, Try.ntmps56
  go_wp2_with fail
  go_ret
  exact ⟨rfl, rfl⟩
theorem B64_nan (b : Nat) (h : Ieee.double.order b b = none) (w : World) : Calls Try.prog 53 #[.float .f64 b] w fun e w' => e = .returned (.int .u64 9221120237041090560) ∧ w' = w := by
  have hc : (FloatKind.f64.format.order b b != some Ordering.eq) = true := by rw [show FloatKind.f64.format.order b b = none from h]; rfl
  clear h
  go_enter Try.func53, Try.ntmps53
  go_wp2
  go_ret
  exact ⟨rfl, rfl⟩
theorem B32_nan (b : Nat) (h : Ieee.single.order b b = none) (w : World) : Calls Try.prog 56 #[.float .f32 b] w fun e w' => e = .returned (.int .u64 2143289344) ∧ w' = w := by
  have hc : (FloatKind.f32.format.order b b != some Ordering.eq) = true := by rw [show FloatKind.f32.format.order b b = none from h]; rfl
  clear h
  go_enter Try.func56, Try.ntmps56
  go_wp2
  go_ret
  exact ⟨rfl, rfl⟩
end Go.Proofs.Ytjfmomogidgbpaa.Ref
namespace Go.Proofs.Ytjfmomogidgbpaa.Ref
set_option linter.unusedVariables false
set_option linter.unusedSimpArgs false
open Go.RowKit Go.Proofs.YtjfmomogidgbpaaW.PrintWords Go.Proofs.Ytjfmomogidgbpaa.Fl
theorem w64 (n a : Int) (h : n ≠ 32) : fmtOf n = Ieee.double ∧ wOf n a = a.toNat := by unfold fmtOf wOf; rw [if_neg h, if_neg h]; exact ⟨rfl, rfl⟩
theorem w32 (a : Int) : fmtOf 32 = Ieee.single ∧ wOf 32 a = s32 a := ⟨rfl, rfl⟩
theorem bin_of (n : Int) : (fmtOf n).binade ≤ (fmtOf n).infRung := by unfold fmtOf; split; exact bin_single; exact bin_double
theorem val_nan {n a : Int} {x : Nat} (hv : Val n a x) (h : (fmtOf n).infRung < rungOf (fmtOf n) (wOf n a)) : Ieee.double.infRung < rungOf Ieee.double x := by
  unfold Val at hv
  by_cases c : n = 32
  · subst c; rw [if_pos rfl] at hv; exact hv.2 h
  · rw [if_neg c] at hv; subst hv
    rw [(w64 n a c).1, (w64 n a c).2] at h; exact h
theorem val_num {n a : Int} {x : Nat} (hv : Val n a x) (h : rungOf (fmtOf n) (wOf n a) ≤ (fmtOf n).infRung) : (n = 32 → x = wd (s32 a)) ∧ rungOf Ieee.double x ≤ Ieee.double.infRung ∧
    (rungOf Ieee.double x = 0 ↔ rungOf (fmtOf n) (wOf n a) = 0) ∧ (rungOf Ieee.double x = Ieee.double.infRung ↔ rungOf (fmtOf n) (wOf n a) = (fmtOf n).infRung) := by
  unfold Val at hv
  by_cases c : n = 32
  · subst c; rw [if_pos rfl] at hv
    have h' : rungOf Ieee.single (s32 a) ≤ Ieee.single.infRung := h
    rw [(w32 a).1, (w32 a).2]
    have e := hv.1 h'
    refine ⟨fun _ => e, ?_⟩
    rw [e]
    by_cases ci : rungOf Ieee.single (s32 a) = Ieee.single.infRung
    · have := wd_inf (s32 a) ci
      refine ⟨by omega, ?_, ?_⟩
      · rw [this.2.1, ci]; exact ⟨fun x => absurd x (by decide +kernel), fun x => absurd x (by decide +kernel)⟩
      · exact ⟨fun _ => ci, fun _ => this.2.1⟩
    · obtain ⟨k, q, a1, a2, a3, a4, a5⟩ := wd_fin (s32 a) (by omega)
      exact ⟨by omega, a4, by omega, by omega⟩
  · rw [if_neg c] at hv; subst hv
    rw [(w64 n a c).1, (w64 n a c).2] at h ⊢
    exact ⟨fun e => absurd e c, h, Iff.rfl, Iff.rfl⟩
theorem val_order {n a b : Int} {x y : Nat} (hx : Val n a x) (hy : Val n b y) : Ieee.double.order x y = ordOf n a b := by
  unfold ordOf
  by_cases ha : rungOf (fmtOf n) (wOf n a) ≤ (fmtOf n).infRung
  · by_cases hb : rungOf (fmtOf n) (wOf n b) ≤ (fmtOf n).infRung
    · by_cases c : n = 32
      · subst c
        rw [(val_num hx ha).1 rfl, (val_num hy hb).1 rfl]
        exact order_wd _ _ ha hb
      · unfold Val at hx hy
        rw [if_neg c] at hx hy
        rw [(w64 n a c).1, (w64 n a c).2, (w64 n b c).2, hx, hy]
    · rw [order_nan (fmtOf n) _ _ (bin_of n) (.inr (by omega)), order_nan Ieee.double _ _ bin_double (.inr (val_nan hy (by omega)))]
  · rw [order_nan (fmtOf n) _ _ (bin_of n) (.inl (by omega)), order_nan Ieee.double _ _ bin_double (.inl (val_nan hx (by omega)))]
theorem key_zero : Fl.keyOf Ieee.double 0 = 0 := by decide +kernel
theorem rung_zero : rungOf Ieee.double 0 = 0 := by decide +kernel
/-- Is a float nought? -/
theorem val_zero {n a : Int} {x : Nat} (hx : Val n a x) : (Ieee.double.order x 0 == some .eq) = decide (rungOf (fmtOf n) (wOf n a) = 0) := by
  by_cases ha : rungOf (fmtOf n) (wOf n a) ≤ (fmtOf n).infRung
  · obtain ⟨_, h1, h2, _⟩ := val_num hx ha
    rw [order_key Ieee.double x 0 bin_double h1 (by rw [rung_zero]; decide +kernel), key_zero]
    have cmp : ∀ a b : Int, compare a b = if a < b then .lt else if a = b then .eq else .gt := fun a b => rfl
    rw [cmp]
    by_cases z : rungOf (fmtOf n) (wOf n a) = 0
    · rw [decide_eq_true z]
      have : Fl.keyOf Ieee.double x = 0 := by unfold Fl.keyOf; rw [h2.2 z]; split <;> rfl
      rw [this]; rfl
    · rw [decide_eq_false z]
      have : rungOf Ieee.double x ≠ 0 := fun e => z (h2.1 e)
      have : Fl.keyOf Ieee.double x ≠ 0 := by unfold Fl.keyOf; split <;> omega
      rw [if_neg this]
      by_cases l : Fl.keyOf Ieee.double x < 0
      · rw [if_pos l]; rfl
      · rw [if_neg l]; rfl
  · rw [order_nan Ieee.double _ _ bin_double (.inl (val_nan hx (by omega)))]
    have : rungOf (fmtOf n) (wOf n a) ≠ 0 := by omega
    rw [decide_eq_false this]; rfl
theorem order_self (f : Ieee.Format) (w : Nat) (hi : f.binade ≤ f.infRung) (h : rungOf f w ≤ f.infRung) : f.order w w = some .eq := by
  rw [order_key f w w hi h h]
  have cmp : ∀ a b : Int, compare a b = if a < b then .lt else if a = b then .eq else .gt := fun a b => rfl
  rw [cmp, if_neg (by omega), if_pos rfl]
/-- The NaN that the tape gives behind an operation that has no answer. -/
def nanB (w : World) (k : FloatKind) (x y : Nat) : Nat := Question.cut (.nanBits k x y) (w.tape w.drawn (.nanBits k x y))
theorem run_float_nan (op : BinOp) (ho : op = .add ∨ op = .sub ∨ op = .mul ∨ op = .quo) (t : TypeId) (k : FloatKind) (x y : Nat) (h : floatBits op k x y = none) (w : World) :
    (binOp op t (.float k x) (.float k y)).run Try.prog w = .ok (.float k (nanB w k x y)) w.drew := by
  unfold floatBits at h
  rcases ho with rfl | rfl | rfl | rfl <;> simp only at h <;> simp [binOp, Op.floatArith, h] <;> rfl
theorem nanB_64 (w : World) (x y : Nat) : Ieee.double.infRung < rungOf Ieee.double (nanB w .f64 x y) := nan64 _
theorem nanB_32 (w : World) (x y : Nat) : Ieee.single.infRung < rungOf Ieee.single (nanB w .f32 x y) := nan32 _
/-- What is written is no NaN. -/
theorem write_num (f : Ieee.Format) (hi : f.binade ≤ f.infRung) (d : Ieee.Datum) (hd : d.isNaN = false) : rungOf f (f.write d) ≤ f.infRung := by
  cases d with
  | nan => cases hd
  | infinity s => show rungOf f (f.word s f.infRung) ≤ _; rw [(word_rung f s _ (Nat.le_refl _)).1]; exact Nat.le_refl _
  | number s m p =>
    show rungOf f (f.nearest s m p) ≤ _
    by_cases z : m = 0
    · subst z; rw [nearest_zero, (word_rung f s 0 (Nat.zero_le _)).1]; exact Nat.zero_le _
    · rw [nearest_eq f s m p z, (word_rung f s _ (Nat.min_le_right _ _)).1]; exact Nat.min_le_right _ _
theorem sum_ok (d e : Ieee.Datum) (r : Ieee.Datum) (h : d.sum e = some r) : r.isNaN = false := by
  cases d <;> cases e <;> simp only [Ieee.Datum.sum] at h
  all_goals first
    | (cases h; done)
    | (injection h with h; subst h; rfl)
    | (split at h <;> first | (cases h; done) | (injection h with h; subst h; rfl))
theorem product_ok (d e : Ieee.Datum) (r : Ieee.Datum) (h : d.product e = some r) : r.isNaN = false := by
  cases d <;> cases e <;> simp only [Ieee.Datum.product] at h
  all_goals first
    | (cases h; done)
    | (injection h with h; subst h; rfl)
    | (split at h <;> first | (cases h; done) | (injection h with h; subst h; rfl))
theorem quotient_ok (k : Nat) (d e : Ieee.Datum) (r : Ieee.Datum) (h : d.quotient k e = some r) : r.isNaN = false := by
  cases d <;> cases e <;> simp only [Ieee.Datum.quotient] at h
  all_goals first
    | (cases h; done)
    | (injection h with h; subst h; rfl)
    | (repeat' (split at h)) <;> first | (cases h; done) | (injection h with h; subst h; rfl)
theorem root_ok (k : Nat) (d : Ieee.Datum) (r : Ieee.Datum) (h : d.root k = some r) : r.isNaN = false := by
  cases d <;> simp only [Ieee.Datum.root] at h
  all_goals first
    | (cases h; done)
    | (repeat' (split at h)) <;> first | (cases h; done) | (injection h with h; subst h; rfl)
theorem bits_ok (op : BinOp) (k : FloatKind) (x y r : Nat) (h : floatBits op k x y = some r) : rungOf k.format r ≤ k.format.infRung ∧ r < 2 ^ k.format.width := by
  have hi : k.format.binade ≤ k.format.infRung := by cases k; exact bin_single; exact bin_double
  unfold floatBits at h
  cases op <;> simp only at h <;> first | (cases h; done) | skip
  · obtain ⟨d, hd, rfl⟩ := Option.map_eq_some_iff.1 h
    exact ⟨write_num _ hi d (sum_ok _ _ d hd), k.format.write_lt d⟩
  · obtain ⟨d, hd, rfl⟩ := Option.map_eq_some_iff.1 h
    exact ⟨write_num _ hi d (sum_ok _ _ d hd), k.format.write_lt d⟩
  · obtain ⟨d, hd, rfl⟩ := Option.map_eq_some_iff.1 h
    exact ⟨write_num _ hi d (product_ok _ _ d hd), k.format.write_lt d⟩
  · obtain ⟨d, hd, rfl⟩ := Option.map_eq_some_iff.1 h
    exact ⟨write_num _ hi d (quotient_ok _ _ _ d hd), k.format.write_lt d⟩
end Go.Proofs.Ytjfmomogidgbpaa.Ref
namespace Go.Proofs.Ytjfmomogidgbpaa.PFl
open Go.RowKit Go.Proofs.YtjfmomogidgbpaaW.PrintWords Go.Proofs.YtjfmomogidgbpaaW.PrintLast Go.Proofs.YtjfmomogidgbpaaW.PrintMore
attribute [local go_sem] max2_int min2_int max_two min_two max_three min_three max_four min_four
set_option linter.unusedVariables false
set_option linter.unusedSimpArgs false
def errW : Option Int → Value
 | none => .nilIface
 | some c => .iface 0 (.int .i64 c)
theorem errW_none : errW none = .nilIface := rfl
theorem errW_some (c : Int) : errW (some c) = .iface 0 (.int .i64 c) := rfl
-- the values' own types
end Go.Proofs.Ytjfmomogidgbpaa.PFl
namespace Go.Proofs.Ytjfmomogidgbpaa.PFl
open Go.RowKit Go.Proofs.YtjfmomogidgbpaaW.PrintWords Go.Proofs.YtjfmomogidgbpaaW.PrintLast Go.Proofs.YtjfmomogidgbpaaW.PrintMore
attribute [local go_sem] max2_int min2_int max_two min_two max_three min_three max_four min_four
set_option linter.unusedVariables false
set_option linter.unusedSimpArgs false
theorem eqA43 (d : Nat) (w : World) (x0 y0 : Int) (x1 y1 : Int) :
  (Op.equalIn (d + 2) 43 (.agg #[.int .i64 x0, .int .i64 x1]) (.agg #[.int .i64 y0, .int .i64 y1])).run Try.prog w = .ok (x0 == y0 && (x1 == y1)) w := by
 refine eqA_of Try.underlying43 (by kernel_rfl) ?_
 refine eqf_cons (by rfl) (by go_simp; rfl) (by go_simp; rfl) (by go_simp) ?_
 exact eqf_last (by rfl) (by go_simp; rfl) (by go_simp; rfl) (by go_simp)
end Go.Proofs.Ytjfmomogidgbpaa.PFl
namespace Go.Proofs.Ytjfmomogidgbpaa.PFl
open Go.RowKit Go.Proofs.YtjfmomogidgbpaaW.PrintWords Go.Proofs.YtjfmomogidgbpaaW.PrintLast Go.Proofs.YtjfmomogidgbpaaW.PrintMore
attribute [local go_sem] max2_int min2_int max_two min_two max_three min_three max_four min_four
set_option linter.unusedVariables false
set_option linter.unusedSimpArgs false
attribute [local go_sem high] eqA43
def floats_of.f (a0 : Int) : Option (Int × Int) := if a0 = 32 then (some (23, 8)) else (if a0 = 64 then (some (52, 11)) else (some (0, 0)))
set_option maxHeartbeats 8000000 in
set_option maxRecDepth 100000 in
theorem floats_of.calls (a0 : Int) (r1 : Int) (r2 : Int) (w : World) (h : floats_of.f a0 = some (r1, r2)) :
  Calls Try.prog 31 #[.int .i64 a0] w fun e w' => e = .returned (.agg #[.int .i64 r1, .int .i64 r2]) ∧ Below w.heap.size w w' := by
 have hu43 := Try.underlying43
 have HB := As0.mk (Below.refl w.heap.size w)
 have H : (if a0 = 32 then (some (23, 8)) else (if a0 = 64 then (some (52, 11)) else (some (0, 0)))) = some (r1, r2) := h
 clear h
 by_cases c2 : a0 = 32
 ·rw [if_pos c2] at H
  have c2b0 : (a0 == 32) = true := beq_iff_eq.mpr c2
  have c2b1 : (a0 != 32) = false := bne_eq_false_iff_eq.mpr c2
  clear c2
  simp only [Option.some.injEq, Prod.mk.injEq] at H
  obtain ⟨rfl, rfl⟩ := H
  go_enter Try.func31, Try.ntmps31
  go_wp2_with (first | ((with_reducible refine gate_dst (N := 2) rfl ?_); refine box_event ?hg (N := 2) ?hd (cs := #[.int .i64 0, .int .i64 0]) (t := 43) ?hr ?_; (case hd => rfl); (case hg => rfl); (case hr => first | (go_simp; done) | (go_simp; rfl)); intro gb101 hg w3 hbox hb; have n0_ := As0.mk (bst (by repeat (first | (with_reducible first | exact HB.out | apply bal | apply pwB_ | apply bd1) | exact HB.out)) hb); have n1_ := As0.mk (hbox); have n2_ := As0.mk ((by rw [hg]; exact (below_size (by repeat (first | (with_reducible first | exact HB.out | apply bal | apply pwB_ | apply bd1) | exact HB.out))) : w.heap.size ≤ gb101)); have n3_ := As0.mk ((by rw [hg]; exact (below_size (by repeat (first | (with_reducible first | exact HB.out | apply bal | apply pwB_ | apply bd1) | exact HB.out))) : w.heap.size ≤ gb101)); clear HB; have HB := n0_; have BK101 := n1_; have GW101 := n2_; have GE101 := n3_; clear n0_ n1_ n2_ n3_; clear hb hbox hg; have hcz4_0 : w3.cell? ⟨gb101, 0, none⟩ = some (.int .i64 0) := (bce BK101.out 0).trans rfl; have hcz4_1 : w3.cell? ⟨gb101, 1, none⟩ = some (.int .i64 0) := (bce BK101.out 1).trans rfl; have hfz4_0 := bkf BK101.out 0; have hfz4_1 := bkf BK101.out 1))
  refine bodyPost_ret (results_cell_row rfl _ _ gb101 43 #[.int .i64 23, .int .i64 8] (0, 0) _ rfl (by (with_reducible repeat (first | refine bkN ?_ _ | refine bkd ?_ | refine bka ?_ _)); refine blk_put (cs := #[.int .i64 23, .int .i64 0]) ?_ 1 _ rfl; (with_reducible repeat (first | refine bkN ?_ _ | refine bkd ?_ | refine bka ?_ _)); refine blk_put (cs := #[.int .i64 0, .int .i64 0]) ?_ 0 _ rfl; (with_reducible repeat (first | refine bkN ?_ _ | refine bkd ?_ | refine bka ?_ _)); exact BK101.out) Try.underlying43 rfl (by kernel_rfl)) rfl ?_
  exact ⟨by first | rfl | (simp [*] <;> rfl), by repeat (first | (with_reducible first | exact HB.out | apply bal | apply pwB_ | apply bd1 | refine bse ?_ GE101.out) | exact HB.out)⟩
 ·rw [if_neg c2] at H
  have c2b0 : (a0 == 32) = false := beq_eq_false_iff_ne.mpr c2
  have c2b1 : (a0 != 32) = true := bne_iff_ne.mpr c2
  by_cases c5 : a0 = 64
  ·rw [if_pos c5] at H
   have c5b0 : (a0 == 64) = true := beq_iff_eq.mpr c5
   have c5b1 : (a0 != 64) = false := bne_eq_false_iff_eq.mpr c5
   clear c5
   simp only [Option.some.injEq, Prod.mk.injEq] at H
   obtain ⟨rfl, rfl⟩ := H
   go_enter Try.func31, Try.ntmps31
   go_wp2_with (first | ((with_reducible refine gate_dst (N := 2) rfl ?_); refine box_event ?hg (N := 2) ?hd (cs := #[.int .i64 0, .int .i64 0]) (t := 43) ?hr ?_; (case hd => rfl); (case hg => rfl); (case hr => first | (go_simp; done) | (go_simp; rfl)); intro gb101 hg w6 hbox hb; have n0_ := As0.mk (bst (by repeat (first | (with_reducible first | exact HB.out | apply bal | apply pwB_ | apply bd1) | exact HB.out)) hb); have n1_ := As0.mk (hbox); have n2_ := As0.mk ((by rw [hg]; exact (below_size (by repeat (first | (with_reducible first | exact HB.out | apply bal | apply pwB_ | apply bd1) | exact HB.out))) : w.heap.size ≤ gb101)); have n3_ := As0.mk ((by rw [hg]; exact (below_size (by repeat (first | (with_reducible first | exact HB.out | apply bal | apply pwB_ | apply bd1) | exact HB.out))) : w.heap.size ≤ gb101)); clear HB; have HB := n0_; have BK101 := n1_; have GW101 := n2_; have GE101 := n3_; clear n0_ n1_ n2_ n3_; clear hb hbox hg; have hcz7_0 : w6.cell? ⟨gb101, 0, none⟩ = some (.int .i64 0) := (bce BK101.out 0).trans rfl; have hcz7_1 : w6.cell? ⟨gb101, 1, none⟩ = some (.int .i64 0) := (bce BK101.out 1).trans rfl; have hfz7_0 := bkf BK101.out 0; have hfz7_1 := bkf BK101.out 1))
   refine bodyPost_ret (results_cell_row rfl _ _ gb101 43 #[.int .i64 52, .int .i64 11] (0, 0) _ rfl (by (with_reducible repeat (first | refine bkN ?_ _ | refine bkd ?_ | refine bka ?_ _)); refine blk_put (cs := #[.int .i64 52, .int .i64 0]) ?_ 1 _ rfl; (with_reducible repeat (first | refine bkN ?_ _ | refine bkd ?_ | refine bka ?_ _)); refine blk_put (cs := #[.int .i64 0, .int .i64 0]) ?_ 0 _ rfl; (with_reducible repeat (first | refine bkN ?_ _ | refine bkd ?_ | refine bka ?_ _)); exact BK101.out) Try.underlying43 rfl (by kernel_rfl)) rfl ?_
   exact ⟨by first | rfl | (simp [*] <;> rfl), by repeat (first | (with_reducible first | exact HB.out | apply bal | apply pwB_ | apply bd1 | refine bse ?_ GE101.out) | exact HB.out)⟩
  ·rw [if_neg c5] at H
   have c5b0 : (a0 == 64) = false := beq_eq_false_iff_ne.mpr c5
   have c5b1 : (a0 != 64) = true := bne_iff_ne.mpr c5
   simp only [Option.some.injEq, Prod.mk.injEq] at H
   obtain ⟨rfl, rfl⟩ := H
   go_enter Try.func31, Try.ntmps31
   go_wp2_with (first | ((with_reducible refine gate_dst (N := 2) rfl ?_); refine box_event ?hg (N := 2) ?hd (cs := #[.int .i64 0, .int .i64 0]) (t := 43) ?hr ?_; (case hd => rfl); (case hg => rfl); (case hr => first | (go_simp; done) | (go_simp; rfl)); intro gb101 hg w8 hbox hb; have n0_ := As0.mk (bst (by repeat (first | (with_reducible first | exact HB.out | apply bal | apply pwB_ | apply bd1) | exact HB.out)) hb); have n1_ := As0.mk (hbox); have n2_ := As0.mk ((by rw [hg]; exact (below_size (by repeat (first | (with_reducible first | exact HB.out | apply bal | apply pwB_ | apply bd1) | exact HB.out))) : w.heap.size ≤ gb101)); have n3_ := As0.mk ((by rw [hg]; exact (below_size (by repeat (first | (with_reducible first | exact HB.out | apply bal | apply pwB_ | apply bd1) | exact HB.out))) : w.heap.size ≤ gb101)); clear HB; have HB := n0_; have BK101 := n1_; have GW101 := n2_; have GE101 := n3_; clear n0_ n1_ n2_ n3_; clear hb hbox hg; have hcz9_0 : w8.cell? ⟨gb101, 0, none⟩ = some (.int .i64 0) := (bce BK101.out 0).trans rfl; have hcz9_1 : w8.cell? ⟨gb101, 1, none⟩ = some (.int .i64 0) := (bce BK101.out 1).trans rfl; have hfz9_0 := bkf BK101.out 0; have hfz9_1 := bkf BK101.out 1))
   refine bodyPost_ret (results_cell_row rfl _ _ gb101 43 #[.int .i64 0, .int .i64 0] (0, 0) _ rfl (by (with_reducible repeat (first | refine bkN ?_ _ | refine bkd ?_ | refine bka ?_ _)); refine blk_put (cs := #[.int .i64 0, .int .i64 0]) ?_ 1 _ rfl; (with_reducible repeat (first | refine bkN ?_ _ | refine bkd ?_ | refine bka ?_ _)); refine blk_put (cs := #[.int .i64 0, .int .i64 0]) ?_ 0 _ rfl; (with_reducible repeat (first | refine bkN ?_ _ | refine bkd ?_ | refine bka ?_ _)); exact BK101.out) Try.underlying43 rfl (by kernel_rfl)) rfl ?_
   exact ⟨by first | rfl | (simp [*] <;> rfl), by repeat (first | (with_reducible first | exact HB.out | apply bal | apply pwB_ | apply bd1 | refine bse ?_ GE101.out) | exact HB.out)⟩
def ff_none.f (a0_0 : Int) (a0_1 : Int) : Option (Bool) := some (a0_0 == 0 && (a0_1 == 0))
set_option maxHeartbeats 8000000 in
set_option maxRecDepth 100000 in
theorem ff_none.calls (a0_0 : Int) (a0_1 : Int) (r : Bool) (w : World) (h : ff_none.f a0_0 a0_1 = some r) :
  Calls Try.prog 32 #[.agg #[.int .i64 a0_0, .int .i64 a0_1]] w fun e w' => e = .returned (.bool r) ∧ Below w.heap.size w w' := by
 have hu43 := Try.underlying43
 have HB := As0.mk (Below.refl w.heap.size w)
 have H : (some (a0_0 == 0 && (a0_1 == 0))) = some r := h
 clear h
 obtain rfl := Option.some.inj H
 go_enter Try.func32, Try.ntmps32
 go_wp2_with (first | ((with_reducible refine gate_dst (N := 1) rfl ?_); refine box_event ?hg (N := 1) ?hd (cs := #[.int .i64 a0_0, .int .i64 a0_1]) (t := 43) ?hr ?_; (case hd => rfl); (case hg => rfl); (case hr => first | (go_simp; done) | (go_simp; rfl)); intro gb102 hg w2 hbox hb; have n0_ := As0.mk (bst (by repeat (first | (with_reducible first | exact HB.out | apply bal | apply pwB_ | apply bd1) | exact HB.out)) hb); have n1_ := As0.mk (hbox); have n2_ := As0.mk ((by rw [hg]; exact (below_size (by repeat (first | (with_reducible first | exact HB.out | apply bal | apply pwB_ | apply bd1) | exact HB.out))) : w.heap.size ≤ gb102)); have n3_ := As0.mk ((by rw [hg]; exact (below_size (by repeat (first | (with_reducible first | exact HB.out | apply bal | apply pwB_ | apply bd1) | exact HB.out))) : w.heap.size ≤ gb102)); clear HB; have HB := n0_; have BK102 := n1_; have GW102 := n2_; have GE102 := n3_; clear n0_ n1_ n2_ n3_; clear hb hbox hg; have hcz3_0 : w2.cell? ⟨gb102, 0, none⟩ = some (.int .i64 a0_0) := (bce BK102.out 0).trans rfl; have hcz3_1 : w2.cell? ⟨gb102, 1, none⟩ = some (.int .i64 a0_1) := (bce BK102.out 1).trans rfl; have hfz3_0 := bkf BK102.out 0; have hfz3_1 := bkf BK102.out 1))
 go_ret
 exact ⟨by first | rfl | (simp [*] <;> rfl), by repeat (first | (with_reducible first | exact HB.out | apply bal | apply pwB_ | apply bd1 | refine bse ?_ GE102.out) | exact HB.out)⟩
def ff_sign.f (a0_0 : Int) (a0_1 : Int) : Option (Int) := if 0 ≤ (IntKind.u64.wrap (wrap64 (a0_0 + a0_1))) then (some (shl .u64 1 (IntKind.u64.wrap (wrap64 (a0_0 + a0_1))))) else (none)
set_option maxHeartbeats 8000000 in
set_option maxRecDepth 100000 in
theorem ff_sign.calls (a0_0 : Int) (a0_1 : Int) (r : Int) (w : World) (h : ff_sign.f a0_0 a0_1 = some r) :
  Calls Try.prog 43 #[.agg #[.int .i64 a0_0, .int .i64 a0_1]] w fun e w' => e = .returned (.int .u64 r) ∧ Below w.heap.size w w' := by
 have hu43 := Try.underlying43
 have HB := As0.mk (Below.refl w.heap.size w)
 have H : (if 0 ≤ (IntKind.u64.wrap (wrap64 (a0_0 + a0_1))) then (some (shl .u64 1 (IntKind.u64.wrap (wrap64 (a0_0 + a0_1))))) else (none)) = some r := h
 clear h
 obtain ⟨ji2, hji2⟩ : ∃ j_ : Int, (IntKind.u64.wrap (wrap64 (a0_0 + a0_1))) = j_ := ⟨_, rfl⟩
 replace H : (if 0 ≤ (ji2) then (some (shl .u64 1 (ji2))) else (none)) = some r := by first | (rw [hji2] at H; exact H) | (simp only [hji2] at H ⊢; exact H)
 by_cases c3 : 0 ≤ (ji2)
 ·rw [if_pos c3] at H
  have c3b0 := eq_true c3
  have c3b1 : decide (0 ≤ (ji2)) = true := decide_eq_true c3
  clear c3
  obtain ⟨ji4, hji4⟩ : ∃ j_ : Int, (shl .u64 1 (ji2)) = j_ := ⟨_, rfl⟩
  replace H : (some ji4) = some r := by first | (rw [hji4] at H; exact H) | (simp only [hji4] at H ⊢; exact H)
  have hji4_ : (IntKind.u64.wrap (1 * 2 ^ min (ji2).toNat 64)) = ji4 := hji4
  have hji4z : (ji2) ≤ 64 → (IntKind.u64.wrap (1 * 2 ^ (ji2).toNat)) = ji4 := shl_small hji4
  have hji4u : (IntKind.u64.wrap (2 ^ min (ji2).toNat 64)) = ji4 := by have h_ := hji4_; rw [Int.one_mul] at h_; exact h_
  have hji4v : (ji2) ≤ 64 → (IntKind.u64.wrap (2 ^ (ji2).toNat)) = ji4 := fun hle_ => by have h_ := hji4z hle_; rw [Int.one_mul] at h_; exact h_
  obtain rfl := Option.some.inj H
  go_enter Try.func43, Try.ntmps43
  go_wp2_with (first | ((with_reducible refine gate_dst (N := 1) rfl ?_); refine box_event ?hg (N := 1) ?hd (cs := #[.int .i64 a0_0, .int .i64 a0_1]) (t := 43) ?hr ?_; (case hd => rfl); (case hg => rfl); (case hr => first | (go_simp; done) | (go_simp; rfl)); intro gb103 hg w5 hbox hb; have n0_ := As0.mk (bst (by repeat (first | (with_reducible first | exact HB.out | apply bal | apply pwB_ | apply bd1) | exact HB.out)) hb); have n1_ := As0.mk (hbox); have n2_ := As0.mk ((by rw [hg]; exact (below_size (by repeat (first | (with_reducible first | exact HB.out | apply bal | apply pwB_ | apply bd1) | exact HB.out))) : w.heap.size ≤ gb103)); have n3_ := As0.mk ((by rw [hg]; exact (below_size (by repeat (first | (with_reducible first | exact HB.out | apply bal | apply pwB_ | apply bd1) | exact HB.out))) : w.heap.size ≤ gb103)); clear HB; have HB := n0_; have BK103 := n1_; have GW103 := n2_; have GE103 := n3_; clear n0_ n1_ n2_ n3_; clear hb hbox hg; have hcz6_0 : w5.cell? ⟨gb103, 0, none⟩ = some (.int .i64 a0_0) := (bce BK103.out 0).trans rfl; have hcz6_1 : w5.cell? ⟨gb103, 1, none⟩ = some (.int .i64 a0_1) := (bce BK103.out 1).trans rfl; have hfz6_0 := bkf BK103.out 0; have hfz6_1 := bkf BK103.out 1))
  go_ret
  exact ⟨by first | rfl | (simp only [← hji2, ← hji4]; first | rfl) | (simp [*] <;> rfl), by repeat (first | (with_reducible first | exact HB.out | apply bal | apply pwB_ | apply bd1 | refine bse ?_ GE103.out) | exact HB.out)⟩
 ·rw [if_neg c3] at H
  exact absurd H (by simp)
def ff_signed.f (a0_0 : Int) (a0_1 : Int) (a1 : Bool) (a2 : Int) : Option (Int) := if a1 = true then ((ff_sign.f a0_0 a0_1).bind fun t105 => (some (Go.bits .or .u64 a2 t105))) else (some a2)
set_option maxHeartbeats 8000000 in
set_option maxRecDepth 100000 in
theorem ff_signed.calls (a0_0 : Int) (a0_1 : Int) (a1 : Bool) (a2 : Int) (r : Int) (w : World) (h : ff_signed.f a0_0 a0_1 a1 a2 = some r) :
  Calls Try.prog 38 #[.agg #[.int .i64 a0_0, .int .i64 a0_1], .bool a1, .int .u64 a2] w fun e w' => e = .returned (.int .u64 r) ∧ Below w.heap.size w w' := by
 have hu43 := Try.underlying43
 have HB := As0.mk (Below.refl w.heap.size w)
 have H : (if a1 = true then ((ff_sign.f a0_0 a0_1).bind fun t105 => (some (Go.bits .or .u64 a2 t105))) else (some a2)) = some r := h
 clear h
 by_cases c4 : a1 = true
 ·subst c4
  have H1 : ((ff_sign.f a0_0 a0_1).bind fun t105 => (some (Go.bits .or .u64 a2 t105))) = some r := by rw [if_pos rfl] at H; exact H
  clear H
  have H := H1
  clear H1
  replace H := zob H
  obtain ⟨t105, A50, H⟩ := H
  replace H : (some (Go.bits .or .u64 a2 t105)) = some r := H
  have A5 := As0.mk A50
  clear A50
  obtain rfl := Option.some.inj H
  go_enter Try.func38, Try.ntmps38
  go_wp2_with (first | ((with_reducible refine gate_dst (N := 3) rfl ?_); refine box_event ?hg (N := 3) ?hd (cs := #[.int .i64 a0_0, .int .i64 a0_1]) (t := 43) ?hr ?_; (case hd => rfl); (case hg => rfl); (case hr => first | (go_simp; done) | (go_simp; rfl)); intro gb104 hg w6 hbox hb; have n0_ := As0.mk (bst (by repeat (first | (with_reducible first | exact HB.out | apply bal | apply pwB_ | apply bd1) | exact HB.out)) hb); have n1_ := As0.mk (hbox); have n2_ := As0.mk ((by rw [hg]; exact (below_size (by repeat (first | (with_reducible first | exact HB.out | apply bal | apply pwB_ | apply bd1) | exact HB.out))) : w.heap.size ≤ gb104)); have n3_ := As0.mk ((by rw [hg]; exact (below_size (by repeat (first | (with_reducible first | exact HB.out | apply bal | apply pwB_ | apply bd1) | exact HB.out))) : w.heap.size ≤ gb104)); clear HB; have HB := n0_; have BK104 := n1_; have GW104 := n2_; have GE104 := n3_; clear n0_ n1_ n2_ n3_; clear hb hbox hg; have hcz7_0 : w6.cell? ⟨gb104, 0, none⟩ = some (.int .i64 a0_0) := (bce BK104.out 0).trans rfl; have hcz7_1 : w6.cell? ⟨gb104, 1, none⟩ = some (.int .i64 a0_1) := (bce BK104.out 1).trans rfl; have hfz7_0 := bkf BK104.out 0; have hfz7_1 := bkf BK104.out 1) | ((with_reducible refine gcl (f := 43) rfl ?_); refine goesL_ (some 10) rfl rfl Try.func43 (by kernel_rfl) rfl #[.agg #[.int .i64 a0_0, .int .i64 a0_1]] rfl (by (try simp only [zmt, zmc, zmn]); first | done | rfl) ?_; (with_reducible refine (ff_sign.calls a0_0 a0_1 t105 _ A5.out).mono ?_); rintro e w8 ⟨rfl, hb⟩; refine ⟨_, rfl, ?_⟩; have n0_ := As0.mk (bkb (g := gb104) (o := .cells #[.int .i64 a0_0, .int .i64 a0_1] 43 (0, 0)) (by (with_reducible repeat (first | refine bkN ?_ _ | refine bkd ?_ | refine bka ?_ _)); exact BK104.out) hb); have n1_ := As0.mk (bst (by repeat (first | (with_reducible first | exact HB.out | apply bal | apply pwB_ | apply bd1 | refine bse ?_ GE104.out) | exact HB.out)) hb); clear BK104; clear HB; have BK104 := n0_; have HB := n1_; clear n0_ n1_; (try clear hb); (try clear hb2); (try clear hk); (try clear hi)))
  go_ret
  exact ⟨by first | rfl | (simp [*] <;> rfl), by repeat (first | (with_reducible first | exact HB.out | apply bal | apply pwB_ | apply bd1 | refine bse ?_ GE104.out) | exact HB.out)⟩
 ·replace c4 := Bool.eq_false_iff.mpr c4
  subst c4
  have H1 : (some a2) = some r := by rw [if_neg (show ¬ (false = true) by decide)] at H; exact H
  clear H
  have H := H1
  clear H1
  obtain rfl := Option.some.inj H
  go_enter Try.func38, Try.ntmps38
  go_wp2_with (first | ((with_reducible refine gate_dst (N := 3) rfl ?_); refine box_event ?hg (N := 3) ?hd (cs := #[.int .i64 a0_0, .int .i64 a0_1]) (t := 43) ?hr ?_; (case hd => rfl); (case hg => rfl); (case hr => first | (go_simp; done) | (go_simp; rfl)); intro gb104 hg w9 hbox hb; have n0_ := As0.mk (bst (by repeat (first | (with_reducible first | exact HB.out | apply bal | apply pwB_ | apply bd1) | exact HB.out)) hb); have n1_ := As0.mk (hbox); have n2_ := As0.mk ((by rw [hg]; exact (below_size (by repeat (first | (with_reducible first | exact HB.out | apply bal | apply pwB_ | apply bd1) | exact HB.out))) : w.heap.size ≤ gb104)); have n3_ := As0.mk ((by rw [hg]; exact (below_size (by repeat (first | (with_reducible first | exact HB.out | apply bal | apply pwB_ | apply bd1) | exact HB.out))) : w.heap.size ≤ gb104)); clear HB; have HB := n0_; have BK104 := n1_; have GW104 := n2_; have GE104 := n3_; clear n0_ n1_ n2_ n3_; clear hb hbox hg))
  go_ret
  exact ⟨by first | rfl | (simp [*] <;> rfl), by repeat (first | (with_reducible first | exact HB.out | apply bal | apply pwB_ | apply bd1 | refine bse ?_ GE104.out) | exact HB.out)⟩
def ff_infinity.f (a0_0 : Int) (a0_1 : Int) : Option (Int) := if 0 ≤ (IntKind.u64.wrap (a0_1)) then (if 0 ≤ (IntKind.u64.wrap (a0_0)) then (some (shl .u64 (IntKind.u64.wrap ((shl .u64 1 (IntKind.u64.wrap (a0_1))) - 1)) (IntKind.u64.wrap (a0_0)))) else (none)) else (none)
set_option maxHeartbeats 8000000 in
set_option maxRecDepth 100000 in
theorem ff_infinity.calls (a0_0 : Int) (a0_1 : Int) (r : Int) (w : World) (h : ff_infinity.f a0_0 a0_1 = some r) :
  Calls Try.prog 50 #[.agg #[.int .i64 a0_0, .int .i64 a0_1]] w fun e w' => e = .returned (.int .u64 r) ∧ Below w.heap.size w w' := by
 have hu43 := Try.underlying43
 have HB := As0.mk (Below.refl w.heap.size w)
 have H : (if 0 ≤ (IntKind.u64.wrap (a0_1)) then (if 0 ≤ (IntKind.u64.wrap (a0_0)) then (some (shl .u64 (IntKind.u64.wrap ((shl .u64 1 (IntKind.u64.wrap (a0_1))) - 1)) (IntKind.u64.wrap (a0_0)))) else (none)) else (none)) = some r := h
 clear h
 obtain ⟨ji2, hji2⟩ : ∃ j_ : Int, (IntKind.u64.wrap (a0_1)) = j_ := ⟨_, rfl⟩
 replace H : (if 0 ≤ (ji2) then (if 0 ≤ (IntKind.u64.wrap (a0_0)) then (some (shl .u64 (IntKind.u64.wrap ((shl .u64 1 (ji2)) - 1)) (IntKind.u64.wrap (a0_0)))) else (none)) else (none)) = some r := by first | (rw [hji2] at H; exact H) | (simp only [hji2] at H ⊢; exact H)
 by_cases c3 : 0 ≤ (ji2)
 ·rw [if_pos c3] at H
  have c3b0 := eq_true c3
  have c3b1 : decide (0 ≤ (ji2)) = true := decide_eq_true c3
  clear c3
  obtain ⟨ji4, hji4⟩ : ∃ j_ : Int, (shl .u64 1 (ji2)) = j_ := ⟨_, rfl⟩
  replace H : (if 0 ≤ (IntKind.u64.wrap (a0_0)) then (some (shl .u64 (IntKind.u64.wrap ((ji4) - 1)) (IntKind.u64.wrap (a0_0)))) else (none)) = some r := by first | (rw [hji4] at H; exact H) | (simp only [hji4] at H ⊢; exact H)
  have hji4_ : (IntKind.u64.wrap (1 * 2 ^ min (ji2).toNat 64)) = ji4 := hji4
  have hji4z : (ji2) ≤ 64 → (IntKind.u64.wrap (1 * 2 ^ (ji2).toNat)) = ji4 := shl_small hji4
  have hji4u : (IntKind.u64.wrap (2 ^ min (ji2).toNat 64)) = ji4 := by have h_ := hji4_; rw [Int.one_mul] at h_; exact h_
  have hji4v : (ji2) ≤ 64 → (IntKind.u64.wrap (2 ^ (ji2).toNat)) = ji4 := fun hle_ => by have h_ := hji4z hle_; rw [Int.one_mul] at h_; exact h_
  obtain ⟨ji5, hji5⟩ : ∃ j_ : Int, (IntKind.u64.wrap (a0_0)) = j_ := ⟨_, rfl⟩
  replace H : (if 0 ≤ (ji5) then (some (shl .u64 (IntKind.u64.wrap ((ji4) - 1)) (ji5))) else (none)) = some r := by first | (rw [hji5] at H; exact H) | (simp only [hji5] at H ⊢; exact H)
  by_cases c6 : 0 ≤ (ji5)
  ·rw [if_pos c6] at H
   have c6b0 := eq_true c6
   have c6b1 : decide (0 ≤ (ji5)) = true := decide_eq_true c6
   clear c6
   obtain ⟨ji7, hji7⟩ : ∃ j_ : Int, (shl .u64 (IntKind.u64.wrap ((ji4) - 1)) (ji5)) = j_ := ⟨_, rfl⟩
   replace H : (some ji7) = some r := by first | (rw [hji7] at H; exact H) | (simp only [hji7] at H ⊢; exact H)
   have hji7_ : (IntKind.u64.wrap ((IntKind.u64.wrap ((ji4) - 1)) * 2 ^ min (ji5).toNat 64)) = ji7 := hji7
   have hji7z : (ji5) ≤ 64 → (IntKind.u64.wrap ((IntKind.u64.wrap ((ji4) - 1)) * 2 ^ (ji5).toNat)) = ji7 := shl_small hji7
   obtain rfl := Option.some.inj H
   go_enter Try.func50, Try.ntmps50
   go_wp2_with (first | ((with_reducible refine gate_dst (N := 1) rfl ?_); refine box_event ?hg (N := 1) ?hd (cs := #[.int .i64 a0_0, .int .i64 a0_1]) (t := 43) ?hr ?_; (case hd => rfl); (case hg => rfl); (case hr => first | (go_simp; done) | (go_simp; rfl)); intro gb106 hg w8 hbox hb; have n0_ := As0.mk (bst (by repeat (first | (with_reducible first | exact HB.out | apply bal | apply pwB_ | apply bd1) | exact HB.out)) hb); have n1_ := As0.mk (hbox); have n2_ := As0.mk ((by rw [hg]; exact (below_size (by repeat (first | (with_reducible first | exact HB.out | apply bal | apply pwB_ | apply bd1) | exact HB.out))) : w.heap.size ≤ gb106)); have n3_ := As0.mk ((by rw [hg]; exact (below_size (by repeat (first | (with_reducible first | exact HB.out | apply bal | apply pwB_ | apply bd1) | exact HB.out))) : w.heap.size ≤ gb106)); clear HB; have HB := n0_; have BK106 := n1_; have GW106 := n2_; have GE106 := n3_; clear n0_ n1_ n2_ n3_; clear hb hbox hg; have hcz9_0 : w8.cell? ⟨gb106, 0, none⟩ = some (.int .i64 a0_0) := (bce BK106.out 0).trans rfl; have hcz9_1 : w8.cell? ⟨gb106, 1, none⟩ = some (.int .i64 a0_1) := (bce BK106.out 1).trans rfl; have hfz9_0 := bkf BK106.out 0; have hfz9_1 := bkf BK106.out 1))
   go_ret
   exact ⟨by first | rfl | (simp only [← hji2, ← hji4, ← hji5, ← hji7]; first | rfl) | (simp [*] <;> rfl), by repeat (first | (with_reducible first | exact HB.out | apply bal | apply pwB_ | apply bd1 | refine bse ?_ GE106.out) | exact HB.out)⟩
  ·rw [if_neg c6] at H
   exact absurd H (by simp)
 ·rw [if_neg c3] at H
  exact absurd H (by simp)
-- given: function 63 (bits_Len64)
def ff_least.f (a0_0 : Int) (a0_1 : Int) : Option (Int) := if 0 ≤ (IntKind.u64.wrap (wrap64 (a0_1 - 1))) then (some (wrap64 ((wrap64 (2 - (shl .i64 1 (IntKind.u64.wrap (wrap64 (a0_1 - 1)))))) - a0_0))) else (none)
set_option maxHeartbeats 8000000 in
set_option maxRecDepth 100000 in
theorem ff_least.calls (a0_0 : Int) (a0_1 : Int) (r : Int) (w : World) (h : ff_least.f a0_0 a0_1 = some r) :
  Calls Try.prog 64 #[.agg #[.int .i64 a0_0, .int .i64 a0_1]] w fun e w' => e = .returned (.int .i64 r) ∧ Below w.heap.size w w' := by
 have hu43 := Try.underlying43
 have HB := As0.mk (Below.refl w.heap.size w)
 have H : (if 0 ≤ (IntKind.u64.wrap (wrap64 (a0_1 - 1))) then (some (wrap64 ((wrap64 (2 - (shl .i64 1 (IntKind.u64.wrap (wrap64 (a0_1 - 1)))))) - a0_0))) else (none)) = some r := h
 clear h
 obtain ⟨ji2, hji2⟩ : ∃ j_ : Int, (IntKind.u64.wrap (wrap64 (a0_1 - 1))) = j_ := ⟨_, rfl⟩
 replace H : (if 0 ≤ (ji2) then (some (wrap64 ((wrap64 (2 - (shl .i64 1 (ji2)))) - a0_0))) else (none)) = some r := by first | (rw [hji2] at H; exact H) | (simp only [hji2] at H ⊢; exact H)
 by_cases c3 : 0 ≤ (ji2)
 ·rw [if_pos c3] at H
  have c3b0 := eq_true c3
  have c3b1 : decide (0 ≤ (ji2)) = true := decide_eq_true c3
  clear c3
  obtain ⟨ji4, hji4⟩ : ∃ j_ : Int, (shl .i64 1 (ji2)) = j_ := ⟨_, rfl⟩
  replace H : (some (wrap64 ((wrap64 (2 - (ji4))) - a0_0))) = some r := by first | (rw [hji4] at H; exact H) | (simp only [hji4] at H ⊢; exact H)
  have hji4_ : (IntKind.i64.wrap (1 * 2 ^ min (ji2).toNat 64)) = ji4 := hji4
  have hji4z : (ji2) ≤ 64 → (IntKind.i64.wrap (1 * 2 ^ (ji2).toNat)) = ji4 := shl_small hji4
  have hji4u : (IntKind.i64.wrap (2 ^ min (ji2).toNat 64)) = ji4 := by have h_ := hji4_; rw [Int.one_mul] at h_; exact h_
  have hji4v : (ji2) ≤ 64 → (IntKind.i64.wrap (2 ^ (ji2).toNat)) = ji4 := fun hle_ => by have h_ := hji4z hle_; rw [Int.one_mul] at h_; exact h_
  have hji4y : (wrap64 (1 * 2 ^ min (ji2).toNat 64)) = ji4 := (i64_w _).symm.trans hji4_
  have hji4x : (ji2) ≤ 64 → (wrap64 (1 * 2 ^ (ji2).toNat)) = ji4 := fun h_ => (i64_w _).symm.trans (hji4z h_)
  obtain rfl := Option.some.inj H
  go_enter Try.func64, Try.ntmps64
  go_wp2_with (first | ((with_reducible refine gate_dst (N := 1) rfl ?_); refine box_event ?hg (N := 1) ?hd (cs := #[.int .i64 a0_0, .int .i64 a0_1]) (t := 43) ?hr ?_; (case hd => rfl); (case hg => rfl); (case hr => first | (go_simp; done) | (go_simp; rfl)); intro gb107 hg w5 hbox hb; have n0_ := As0.mk (bst (by repeat (first | (with_reducible first | exact HB.out | apply bal | apply pwB_ | apply bd1) | exact HB.out)) hb); have n1_ := As0.mk (hbox); have n2_ := As0.mk ((by rw [hg]; exact (below_size (by repeat (first | (with_reducible first | exact HB.out | apply bal | apply pwB_ | apply bd1) | exact HB.out))) : w.heap.size ≤ gb107)); have n3_ := As0.mk ((by rw [hg]; exact (below_size (by repeat (first | (with_reducible first | exact HB.out | apply bal | apply pwB_ | apply bd1) | exact HB.out))) : w.heap.size ≤ gb107)); clear HB; have HB := n0_; have BK107 := n1_; have GW107 := n2_; have GE107 := n3_; clear n0_ n1_ n2_ n3_; clear hb hbox hg; have hcz6_0 : w5.cell? ⟨gb107, 0, none⟩ = some (.int .i64 a0_0) := (bce BK107.out 0).trans rfl; have hcz6_1 : w5.cell? ⟨gb107, 1, none⟩ = some (.int .i64 a0_1) := (bce BK107.out 1).trans rfl; have hfz6_0 := bkf BK107.out 0; have hfz6_1 := bkf BK107.out 1))
  go_ret
  exact ⟨by first | rfl | (simp only [← hji2, ← hji4]; first | rfl) | (simp [*] <;> rfl), by repeat (first | (with_reducible first | exact HB.out | apply bal | apply pwB_ | apply bd1 | refine bse ?_ GE107.out) | exact HB.out)⟩
 ·rw [if_neg c3] at H
  exact absurd H (by simp)
end Go.Proofs.Ytjfmomogidgbpaa.PFl
namespace Go.Proofs.Ytjfmomogidgbpaa.Ref
set_option linter.unusedVariables false
set_option linter.unusedSimpArgs false
open Go.RowKit Go.Proofs.YtjfmomogidgbpaaW.PrintWords Go.Proofs.Ytjfmomogidgbpaa.Fl
theorem ret_i {k : IntKind} {a b : Int} (h : a = b) : Ending.returned (.int k a) = .returned (.int k b) := by rw [h]
/-- The tests of a size that is right, as the walk asks them. -/
def SizeB (n : Int) : Prop := (n != 32) = false ∨ ((n != 32) = true ∧ (n != 64) = false)
theorem sizeB {n : Int} (h : n = 32 ∨ n = 64) : SizeB n := by
  rcases h with rfl | rfl
  · exact .inl rfl
  · exact .inr ⟨rfl, rfl⟩
/-- A float behind an operation: its bits, or a NaN where there is no answer. -/
structure ArQ (k : FloatKind) (o : Option Nat) (w : World) (e : Ending) (w' : World) : Prop where mk ::
  (out : ∃ r d, e = .returned (.float k r) ∧ w' = w.drewN d ∧ (∀ v, o = some v → r = v) ∧ (o = none → k.format.infRung < rungOf k.format r))
def opOf (op : Int) : BinOp := if op = 1 then .add else if op = 2 then .sub else if op = 3 then .mul else .quo
theorem worked (op : Int) (x y : Nat) (w : World) : Calls Try.prog 54 #[.int .i64 op, .float .f64 x, .float .f64 y] w (ArQ .f64 (floatBits (opOf op) .f64 x y) w) := by
  have key : ∀ (B : BinOp) (hB : B = .add ∨ B = .sub ∨ B = .mul ∨ B = .quo) (c : (B = .add ∧ (op == 1) = true) ∨ (B = .sub ∧ (op == 1) = false ∧ (op == 2) = true) ∨ (B = .mul ∧ (op == 1) = false ∧ (op == 2) = false ∧ (op == 3) = true) ∨ (B = .quo ∧ (op == 1) = false ∧ (op == 2) = false ∧ (op == 3) = false)),
      Calls Try.prog 54 #[.int .i64 op, .float .f64 x, .float .f64 y] w (ArQ .f64 (floatBits B .f64 x y) w) := by
    intro B hB c
    cases hr : floatBits B .f64 x y with
    | none =>
      have S := fun t w => run_float_nan B hB t .f64 x y hr w
      clear hr hB
      rcases c with ⟨rfl, c1⟩ | ⟨rfl, c1, c2⟩ | ⟨rfl, c1, c2, c3⟩ | ⟨rfl, c1, c2, c3⟩
      all_goals
        go_enter Try.func54, Try.ntmps54
        go_wp2
        go_ret
        exact ⟨⟨_, 1, rfl, rfl, (fun v h => nomatch h), (fun _ => nanB_64 _ _ _)⟩⟩
    | some r =>
      have S := fun t w => run_float_arith (P := Try.prog) w B t .f64 x y r hr
      clear hr hB
      rcases c with ⟨rfl, c1⟩ | ⟨rfl, c1, c2⟩ | ⟨rfl, c1, c2, c3⟩ | ⟨rfl, c1, c2, c3⟩
      all_goals
        go_enter Try.func54, Try.ntmps54
        go_wp2
        go_ret
        exact ⟨⟨_, 0, rfl, rfl, (fun v h => Option.some.inj h), (fun h => nomatch h)⟩⟩
  unfold opOf
  by_cases h1 : op = 1
  · rw [if_pos h1]; exact key .add (by decide) (.inl ⟨rfl, beq_iff_eq.2 h1⟩)
  · rw [if_neg h1]
    by_cases h2 : op = 2
    · rw [if_pos h2]; exact key .sub (by decide) (.inr (.inl ⟨rfl, beq_eq_false_iff_ne.2 h1, beq_iff_eq.2 h2⟩))
    · rw [if_neg h2]
      by_cases h3 : op = 3
      · rw [if_pos h3]; exact key .mul (by decide) (.inr (.inr (.inl ⟨rfl, beq_eq_false_iff_ne.2 h1, beq_eq_false_iff_ne.2 h2, beq_iff_eq.2 h3⟩)))
      · rw [if_neg h3]; exact key .quo (by decide) (.inr (.inr (.inr ⟨rfl, beq_eq_false_iff_ne.2 h1, beq_eq_false_iff_ne.2 h2, beq_eq_false_iff_ne.2 h3⟩)))
theorem cut_c (n a : Int) (w : World) (h0 : 0 ≤ a) (h1 : a < 18446744073709551616) : Calls Try.prog 52 #[.int .i64 n, .int .u64 a] w fun e w' => e = .returned (.int .u64 (wOf n a : Int)) ∧ w' = w := by
  have W := Lib.hid (show (n = 32 → (wOf n a : Int) = a % 4294967296) ∧ (n ≠ 32 → (wOf n a : Int) = a) from by unfold wOf; constructor <;> intro h <;> (first | rw [if_pos h] | rw [if_neg h]) <;> omega)
  by_cases c : n = 32
  · have c1 : (n == 32) = true := beq_iff_eq.2 c
    have C := Lib.hid c
    clear c
    go_enter Try.func52, Try.ntmps52
    go_wp2
    go_ret
    exact ⟨ret_i (W.out.1 C.out).symm, rfl⟩
  · have c1 : (n == 32) = false := beq_eq_false_iff_ne.2 c
    have C := Lib.hid c
    clear c
    go_enter Try.func52, Try.ntmps52
    go_wp2
    go_ret
    exact ⟨ret_i (W.out.2 C.out).symm, rfl⟩
theorem sign_c (n : Int) (w : World) : Calls Try.prog 35 #[.int .i64 n] w fun e w' => e = .returned (.int .u64 (sgnI n)) ∧ w' = w := by
  have W := Lib.hid (show (n = 32 → sgnI n = 2147483648) ∧ (n ≠ 32 → sgnI n = 9223372036854775808) from by unfold sgnI; constructor <;> intro h <;> (first | rw [if_pos h] | rw [if_neg h]))
  by_cases c : n = 32
  · have c1 : (n == 32) = true := beq_iff_eq.2 c
    have C := Lib.hid c
    clear c
    go_enter Try.func35, Try.ntmps35
    go_wp2
    go_ret
    exact ⟨ret_i (W.out.1 C.out).symm, rfl⟩
  · have c1 : (n == 32) = false := beq_eq_false_iff_ne.2 c
    have C := Lib.hid c
    clear c
    go_enter Try.func35, Try.ntmps35
    go_wp2
    go_ret
    exact ⟨ret_i (W.out.2 C.out).symm, rfl⟩
theorem canon_c (n : Int) (w : World) (h : n = 32 ∨ n = 64) : Calls Try.prog 27 #[.int .i64 n] w fun e w' => e = .returned (.int .u64 (canon n)) ∧ w' = w := by
  rcases h with rfl | rfl
  all_goals
    go_enter Try.func27, Try.ntmps27
    go_wp2
    go_ret
    exact ⟨rfl, rfl⟩
end Go.Proofs.Ytjfmomogidgbpaa.Ref
namespace Go.Proofs.Ytjfmomogidgbpaa.Ref
set_option linter.unusedVariables false
set_option linter.unusedSimpArgs false
open Go.RowKit Go.Proofs.YtjfmomogidgbpaaW.PrintWords Go.Proofs.Ytjfmomogidgbpaa.Fl
theorem tI_num (name : String) (way : Ieee.Toward) (x : Nat) (d : Ieee.Datum) (h : FloatKind.f64.decode x = d) (hd : d.isNaN = false) (w : World) :
    (Extern.MathFloor.toIntegral name way #[.float .f64 x]).run Try.prog w = .ok (.float .f64 (Ieee.double.write (d.integral way))) w := by
  show Sem.run Try.prog (match FloatKind.f64.decode x with | .nan s t => _ | d => _) w = _
  rw [h]
  cases d <;> first | rfl | (cases hd; done)
theorem xInt (f : FuncId) (fn : Func) (name : String) (way : Ieee.Toward) (hf : Try.prog.funcs[f]? = some fn) (hname : (fn.name == "runtime.NumGoroutine") = false)
    (hb : fn.body.isNone = true) (hn : Extern.findNext fn = none) (he : Extern.find fn = some (Extern.MathFloor.toIntegral name way)) (x : Nat) (h : rungOf Ieee.double x ≤ Ieee.double.infRung) (w : World) :
    (callFunc f #[.float .f64 x]).run Try.prog w = .ok (.value (.float .f64 (Ieee.double.write ((Ieee.double.read x).integral way)))) w := by
  have hd : (Ieee.double.read x).isNaN = false := by
    by_cases c : rungOf Ieee.double x = Ieee.double.infRung
    · rw [read_inf _ x bin_double c]; rfl
    · rw [read_num _ x (by omega)]; rfl
  rw [run_callFunc_extern hf hname hb hn he, tI_num name way x _ rfl hd]
  rfl
/-- The NaN that a NaN is cut to. -/
def nanI (w : World) (x : Nat) : Nat := if w.tape w.drawn (.extern "math.Floor,Ceil,Trunc,RoundToEven.signallingNaN kept" 2) % 2 == 1 then x else Ieee.double.write (.nan (negOf Ieee.double x) (Ieee.double.quiet (rungOf Ieee.double x - Ieee.double.infRung)))
theorem nanI_nan (w : World) (x : Nat) (h : Ieee.double.infRung < rungOf Ieee.double x) : Ieee.double.infRung < rungOf Ieee.double (nanI w x) := by
  unfold nanI
  split
  · exact h
  · show Ieee.double.infRung < rungOf Ieee.double (Ieee.double.word _ (Ieee.double.infRung + (Ieee.double.quiet (rungOf Ieee.double x - Ieee.double.infRung)) % Ieee.double.binade))
    have hq : 0 < Ieee.double.quiet (rungOf Ieee.double x - Ieee.double.infRung) % Ieee.double.binade := by
      have hlt : rungOf Ieee.double x - Ieee.double.infRung < 2 ^ 52 := by
        have : rungOf Ieee.double x < Ieee.double.signWeight := Nat.mod_lt _ (by decide +kernel)
        rw [d_sgn] at this; rw [d_inf]; omega
      have h1 : Ieee.double.quiet (rungOf Ieee.double x - Ieee.double.infRung) < 2 ^ 52 := Nat.or_lt_two_pow hlt (by decide)
      have h2 : 2 ^ 51 ≤ Ieee.double.quiet (rungOf Ieee.double x - Ieee.double.infRung) := Nat.right_le_or
      rw [d_bin, Nat.mod_eq_of_lt h1]
      omega
    have hm : Ieee.double.quiet (rungOf Ieee.double x - Ieee.double.infRung) % Ieee.double.binade < Ieee.double.binade := Nat.mod_lt _ (by decide +kernel)
    generalize Ieee.double.quiet (rungOf Ieee.double x - Ieee.double.infRung) % Ieee.double.binade = q at *
    have := inf_lt Ieee.double
    unfold rungOf Ieee.Format.word
    split
    · rw [Nat.add_mod_left, Nat.mod_eq_of_lt (by omega)]; omega
    · rw [Nat.mod_eq_of_lt (by omega)]; omega
theorem tI_nan (name : String) (way : Ieee.Toward) (x : Nat) (h : Ieee.double.infRung < rungOf Ieee.double x) (w : World) :
    ∃ r d, (Extern.MathFloor.toIntegral name way #[.float .f64 x]).run Try.prog w = .ok (.float .f64 r) (w.drewN d) ∧ Ieee.double.infRung < rungOf Ieee.double r := by
  have e : FloatKind.f64.decode x = .nan (negOf Ieee.double x) (rungOf Ieee.double x - Ieee.double.infRung) := read_nan _ x bin_double h
  by_cases q : FloatKind.f64.format.quiet (rungOf Ieee.double x - Ieee.double.infRung) = rungOf Ieee.double x - Ieee.double.infRung
  · refine ⟨x, 0, ?_, h⟩
    show Sem.run Try.prog (match FloatKind.f64.decode x with | .nan s t => _ | d => _) w = _
    rw [e]
    simp only
    rw [if_pos q]; rfl
  · refine ⟨nanI w x, 1, ?_, nanI_nan w x h⟩
    show Sem.run Try.prog (match FloatKind.f64.decode x with | .nan s t => _ | d => _) w = _
    rw [e]
    simp only
    rw [if_neg q]; rfl
theorem xNan (f : FuncId) (fn : Func) (name : String) (way : Ieee.Toward) (hf : Try.prog.funcs[f]? = some fn) (hname : (fn.name == "runtime.NumGoroutine") = false)
    (hb : fn.body.isNone = true) (hn : Extern.findNext fn = none) (he : Extern.find fn = some (Extern.MathFloor.toIntegral name way)) (x : Nat) (h : Ieee.double.infRung < rungOf Ieee.double x) (w : World) :
    ∃ r d, (callFunc f #[.float .f64 x]).run Try.prog w = .ok (.value (.float .f64 r)) (w.drewN d) ∧ Ieee.double.infRung < rungOf Ieee.double r := by
  obtain ⟨r, d, h1, h2⟩ := tI_nan name way x h w
  refine ⟨r, d, ?_, h2⟩
  rw [run_callFunc_extern hf hname hb hn he, h1]
  rfl
theorem sq_run (x : Nat) (w : World) : (Extern.MathSqrt.sqrt #[.float .f64 x]).run Try.prog w = match Ieee.double.sqrt x with | some r => .ok (.float .f64 r) w | none => .ok (.float .f64 (nanB w .f64 x x)) w.drew := by
  show Sem.run Try.prog (match FloatKind.f64.format.sqrt x with | some r => _ | none => _) w = _
  cases h : Ieee.double.sqrt x with
  | some r => rw [show FloatKind.f64.format.sqrt x = some r from h]; rfl
  | none => rw [show FloatKind.f64.format.sqrt x = none from h]; rfl
/-- What one comes to, at an operation of math's own. -/
def mfun (op : Int) (x : Nat) : Option Nat :=
  if Ieee.double.infRung < rungOf Ieee.double x then none else if op = 3 then Ieee.double.sqrt x else some (Ieee.double.write ((Ieee.double.read x).integral (wayOf op)))
theorem mfun_int (op : Int) (x : Nat) (h : op ≠ 3) (hx : rungOf Ieee.double x ≤ Ieee.double.infRung) : mfun op x = some (Ieee.double.write ((Ieee.double.read x).integral (wayOf op))) := by
  unfold mfun; rw [if_neg (by omega), if_neg h]
theorem mfun_nan (op : Int) (x : Nat) (hx : Ieee.double.infRung < rungOf Ieee.double x) : mfun op x = none := by
  unfold mfun; rw [if_pos hx]
theorem m_ceil (x : Nat) (w : World) : Calls Try.prog 59 #[.float .f64 x] w (ArQ .f64 (mfun 4 x) w) := by
  by_cases h : rungOf Ieee.double x ≤ Ieee.double.infRung
  · have hx := fun w => xInt 74 _ "math.archCeil" .up Try.func74 (by kernel_rfl) (by kernel_rfl) (by kernel_rfl) (by kernel_rfl) x h w
    have M := Lib.hid (mfun_int 4 x (by decide) h)
    clear h
    go_enter Try.func59, Try.ntmps59
    go_wp2
    go_ret
    exact ⟨⟨_, 0, rfl, rfl, (fun v h => by rw [M.out] at h; exact Option.some.inj h), (fun h => by rw [M.out] at h; cases h)⟩⟩
  · obtain ⟨r, d, hx, hr⟩ := xNan 74 _ "math.archCeil" .up Try.func74 (by kernel_rfl) (by kernel_rfl) (by kernel_rfl) (by kernel_rfl) x (by omega) w
    have M := Lib.hid (mfun_nan 4 x (by omega))
    have HR := Lib.hid hr
    clear h hr
    go_enter Try.func59, Try.ntmps59
    go_wp2
    go_ret
    exact ⟨⟨_, d, rfl, rfl, (fun v h => by rw [M.out] at h; cases h), (fun h => HR.out)⟩⟩
theorem m_floor (x : Nat) (w : World) : Calls Try.prog 60 #[.float .f64 x] w (ArQ .f64 (mfun 5 x) w) := by
  by_cases h : rungOf Ieee.double x ≤ Ieee.double.infRung
  · have hx := fun w => xInt 76 _ "math.archFloor" .down Try.func76 (by kernel_rfl) (by kernel_rfl) (by kernel_rfl) (by kernel_rfl) x h w
    have M := Lib.hid (mfun_int 5 x (by decide) h)
    clear h
    go_enter Try.func60, Try.ntmps60
    go_wp2
    go_ret
    exact ⟨⟨_, 0, rfl, rfl, (fun v h => by rw [M.out] at h; exact Option.some.inj h), (fun h => by rw [M.out] at h; cases h)⟩⟩
  · obtain ⟨r, d, hx, hr⟩ := xNan 76 _ "math.archFloor" .down Try.func76 (by kernel_rfl) (by kernel_rfl) (by kernel_rfl) (by kernel_rfl) x (by omega) w
    have M := Lib.hid (mfun_nan 5 x (by omega))
    have HR := Lib.hid hr
    clear h hr
    go_enter Try.func60, Try.ntmps60
    go_wp2
    go_ret
    exact ⟨⟨_, d, rfl, rfl, (fun v h => by rw [M.out] at h; cases h), (fun h => HR.out)⟩⟩
theorem m_trunc (x : Nat) (w : World) : Calls Try.prog 61 #[.float .f64 x] w (ArQ .f64 (mfun 6 x) w) := by
  by_cases h : rungOf Ieee.double x ≤ Ieee.double.infRung
  · have hx := fun w => xInt 78 _ "math.archTrunc" .zero Try.func78 (by kernel_rfl) (by kernel_rfl) (by kernel_rfl) (by kernel_rfl) x h w
    have M := Lib.hid (mfun_int 6 x (by decide) h)
    clear h
    go_enter Try.func61, Try.ntmps61
    go_wp2
    go_ret
    exact ⟨⟨_, 0, rfl, rfl, (fun v h => by rw [M.out] at h; exact Option.some.inj h), (fun h => by rw [M.out] at h; cases h)⟩⟩
  · obtain ⟨r, d, hx, hr⟩ := xNan 78 _ "math.archTrunc" .zero Try.func78 (by kernel_rfl) (by kernel_rfl) (by kernel_rfl) (by kernel_rfl) x (by omega) w
    have M := Lib.hid (mfun_nan 6 x (by omega))
    have HR := Lib.hid hr
    clear h hr
    go_enter Try.func61, Try.ntmps61
    go_wp2
    go_ret
    exact ⟨⟨_, d, rfl, rfl, (fun v h => by rw [M.out] at h; cases h), (fun h => HR.out)⟩⟩
theorem m_sqrt (x : Nat) (w : World) : Calls Try.prog 58 #[.float .f64 x] w (ArQ .f64 (mfun 3 x) w) := by
  have e : mfun 3 x = Ieee.double.sqrt x := by
    unfold mfun
    by_cases h : Ieee.double.infRung < rungOf Ieee.double x
    · rw [if_pos h]; unfold Ieee.Format.sqrt; rw [read_nan _ x bin_double h]; rfl
    · rw [if_neg h]; rfl
  rw [e]
  cases hr : Ieee.double.sqrt x with
  | some r =>
    have hx : ∀ w, (callFunc 73 #[.float .f64 x]).run Try.prog w = .ok (.value (.float .f64 r)) w := by
      intro w
      rw [run_callFunc_extern Try.func73 (by kernel_rfl) (by kernel_rfl) (by kernel_rfl) (e := Extern.MathSqrt.sqrt) (by kernel_rfl)]
      rw [sq_run, hr]
      rfl
    clear hr
    go_enter Try.func58, Try.ntmps58
    go_wp2
    go_ret
    exact ⟨⟨_, 0, rfl, rfl, (fun v h => Option.some.inj h), (fun h => nomatch h)⟩⟩
  | none =>
    have hx : ∀ w, (callFunc 73 #[.float .f64 x]).run Try.prog w = .ok (.value (.float .f64 (nanB w .f64 x x))) w.drew := by
      intro w
      rw [run_callFunc_extern Try.func73 (by kernel_rfl) (by kernel_rfl) (by kernel_rfl) (e := Extern.MathSqrt.sqrt) (by kernel_rfl)]
      rw [sq_run, hr]
      rfl
    clear hr
    go_enter Try.func58, Try.ntmps58
    go_wp2
    go_ret
    exact ⟨⟨_, 1, rfl, rfl, (fun v h => nomatch h), (fun _ => nanB_64 _ _ _)⟩⟩
end Go.Proofs.Ytjfmomogidgbpaa.Ref
namespace Go.Proofs.Ytjfmomogidgbpaa.Ref
set_option linter.unusedVariables false
set_option linter.unusedSimpArgs false
open Go.RowKit Go.Proofs.YtjfmomogidgbpaaW.PrintWords Go.Proofs.Ytjfmomogidgbpaa.Fl
def mres (n op a : Int) : Option Nat :=
  if nanW (fmtOf n) (wOf n a) then none else if op = 3 then (fmtOf n).sqrt (wOf n a) else some ((fmtOf n).write (((fmtOf n).read (wOf n a)).integral (wayOf op)))
theorem narrow_num (v : Nat) (s : Bool) (K : Nat) (q : Int) (hr : Ieee.double.read v = .number s K q) (hl : rungOf Ieee.single (Ieee.single.nearest s K q) < Ieee.single.infRung) :
    floatToFloatBits .f64 v .f32 = some (Ieee.single.nearest s K q) := by
  unfold floatToFloatBits
  rw [if_neg (by decide), show FloatKind.f64.decode v = .number s K q from hr]
  simp only
  have e : FloatKind.f32.encode (.number s K q) = Ieee.single.nearest s K q := rfl
  rw [e, show FloatKind.f32.decode (Ieee.single.nearest s K q) = _ from read_num Ieee.single _ hl]
  rfl
theorem narrow_inf (v : Nat) (s : Bool) (hr : Ieee.double.read v = .infinity s) : floatToFloatBits .f64 v .f32 = some (Ieee.single.word s Ieee.single.infRung) := by
  unfold floatToFloatBits
  rw [if_neg (by decide), show FloatKind.f64.decode v = .infinity s from hr]
  rfl
theorem lt32 (d : Ieee.Datum) : Ieee.single.write d < 4294967296 := Ieee.single.write_lt d
theorem inf_read (s : Bool) : Ieee.double.read (Ieee.double.word s Ieee.double.infRung) = .infinity s := by
  have := word_rung Ieee.double s Ieee.double.infRung (Nat.le_refl _)
  rw [read_inf Ieee.double _ bin_double this.1, this.2]
theorem zero_read (f : Ieee.Format) (s : Bool) (h : 0 < f.infRung) : ∃ p, f.read (f.word s 0) = .number s 0 p := by
  have := word_rung f s 0 (Nat.zero_le _)
  rw [read_num f _ (by rw [this.1]; exact h), this.1, this.2, (mag_zero f 0).2 rfl]
  exact ⟨_, rfl⟩
theorem mres32 (op a : Int) (x : Nat) (hv : Val 32 a x) :
    (mfun op x = none ∧ mres 32 op a = none) ∨ ∃ v r, mfun op x = some v ∧ floatToFloatBits .f64 v .f32 = some r ∧ mres 32 op a = some r ∧ rungOf Ieee.single r ≤ Ieee.single.infRung ∧ r < 4294967296 := by
  by_cases cn : Ieee.single.infRung < rungOf Ieee.single (s32 a)
  · refine .inl ⟨mfun_nan op x (val_nan hv cn), ?_⟩
    unfold mres; rw [if_pos (by unfold nanW; exact decide_eq_true cn)]
  · obtain ⟨hx, v1, _, _⟩ := val_num hv (show rungOf (fmtOf 32) (wOf 32 a) ≤ (fmtOf 32).infRung by rw [(w32 a).1, (w32 a).2]; omega)
    have hx := hx rfl
    subst hx
    have em : mres 32 op a = if op = 3 then Ieee.single.sqrt (s32 a) else some (Ieee.single.write ((Ieee.single.read (s32 a)).integral (wayOf op))) := by
      unfold mres; rw [(w32 a).1, (w32 a).2, if_neg (by unfold nanW; rw [decide_eq_false cn]; decide)]
    have ef : mfun op (wd (s32 a)) = if op = 3 then Ieee.double.sqrt (wd (s32 a)) else some (Ieee.double.write ((Ieee.double.read (wd (s32 a))).integral (wayOf op))) := by
      unfold mfun; rw [if_neg (by omega)]
    rw [em, ef]
    by_cases ci : rungOf Ieee.single (s32 a) = Ieee.single.infRung
    · have ri := (wd_inf (s32 a) ci).1
      have si := read_inf Ieee.single (s32 a) bin_single ci
      have wr : rungOf Ieee.single (Ieee.single.word (negOf Ieee.single (s32 a)) Ieee.single.infRung) ≤ Ieee.single.infRung := by rw [(word_rung Ieee.single _ _ (Nat.le_refl _)).1]; exact Nat.le_refl _
      by_cases h3 : op = 3
      · rw [if_pos h3, if_pos h3]
        unfold Ieee.Format.sqrt
        rw [ri, si]
        cases hs : negOf Ieee.single (s32 a)
        · right
          exact ⟨_, _, rfl, narrow_inf _ false (inf_read false), rfl, by rw [← hs]; exact wr, lt32 (.infinity false)⟩
        · left; exact ⟨rfl, rfl⟩
      · rw [if_neg h3, if_neg h3, ri, si]
        right
        exact ⟨_, _, rfl, narrow_inf _ _ (inf_read _), rfl, wr, lt32 (.infinity _)⟩
    · have hlt : rungOf Ieee.single (s32 a) < Ieee.single.infRung := by omega
      by_cases h3 : op = 3
      · rw [if_pos h3, if_pos h3]
        by_cases c0 : rungOf Ieee.single (s32 a) = 0
        · obtain ⟨k, q, a1, a2, _⟩ := wd_fin (s32 a) hlt
          have m0 := (mag_zero Ieee.single (rungOf Ieee.single (s32 a))).2 c0
          right
          unfold Ieee.Format.sqrt
          rw [a2, read_num Ieee.single (s32 a) hlt, m0, Nat.zero_mul]
          obtain ⟨p, hp⟩ := zero_read Ieee.double (negOf Ieee.single (s32 a)) (by decide +kernel)
          have w0 : rungOf Ieee.single (Ieee.single.nearest (negOf Ieee.single (s32 a)) 0 p) = 0 := by rw [nearest_zero, (word_rung Ieee.single _ 0 (Nat.zero_le _)).1]
          refine ⟨Ieee.double.word (negOf Ieee.single (s32 a)) 0, _, ?_, narrow_num _ _ _ _ hp (by rw [w0]; decide +kernel), ?_, by rw [w0]; exact Nat.zero_le _, lt32 (.number _ 0 p)⟩
          · show some (Ieee.double.nearest _ 0 _) = _; rw [nearest_zero]
          · show some (Ieee.single.nearest _ 0 _) = _; rw [nearest_zero, nearest_zero]
        · cases hs : negOf Ieee.single (s32 a)
          · obtain ⟨x, K, q, b1, b2, b3, b4, _⟩ := root_wd (s32 a) hlt c0 hs
            right
            exact ⟨x, _, b1, narrow_num x _ K q b2 b4, b3, by omega, lt32 (.number false K q)⟩
          · obtain ⟨k, q, a1, a2, _⟩ := wd_fin (s32 a) hlt
            have m0 : magOf Ieee.single (rungOf Ieee.single (s32 a)) ≠ 0 := fun e => c0 ((mag_zero _ _).1 e)
            left
            unfold Ieee.Format.sqrt
            rw [a2, read_num Ieee.single (s32 a) hlt, hs]
            have m1 : magOf Ieee.single (rungOf Ieee.single (s32 a)) * 2 ^ k ≠ 0 := by
              have := Nat.mul_pos (Nat.pos_of_ne_zero m0) (pw_pos k); omega
            constructor
            · simp only [Ieee.Datum.root]; rw [if_neg m1]; rfl
            · simp only [Ieee.Datum.root]; rw [if_neg m0]; rfl
      · rw [if_neg h3, if_neg h3]
        obtain ⟨s, K, q, b1, b2, b3, _⟩ := integral_wd (wayOf op) (s32 a) hlt
        right
        exact ⟨_, _, rfl, narrow_num _ s K q b1 b3, by rw [b2], by omega, lt32 (.number s K q)⟩
theorem mres64 (op a : Int) (x : Nat) (hv : Val 64 a x) : mfun op x = mres 64 op a ∧ (∀ r, mres 64 op a = some r → rungOf Ieee.double r ≤ Ieee.double.infRung) := by
  unfold Val at hv
  rw [if_neg (by decide)] at hv
  subst hv
  have e : mfun op a.toNat = mres 64 op a := by
    unfold mfun mres
    rw [(w64 64 a (by decide)).1, (w64 64 a (by decide)).2]
    by_cases h : Ieee.double.infRung < rungOf Ieee.double a.toNat
    · rw [if_pos h, if_pos (by unfold nanW; exact decide_eq_true h)]
    · have hn : nanW Ieee.double a.toNat = false := by unfold nanW; exact decide_eq_false h
      rw [if_neg h, hn, if_neg (show ¬ (false = true) by decide)]
  refine ⟨e, ?_⟩
  intro r hr
  rw [← e] at hr
  unfold mfun at hr
  split at hr
  · cases hr
  · rename_i h
    split at hr
    · obtain ⟨d, hd, rfl⟩ := Option.map_eq_some_iff.1 hr
      exact write_num _ bin_double d (root_ok _ _ d hd)
    · injection hr with hr
      subst hr
      refine write_num _ bin_double _ ?_
      by_cases ci : rungOf Ieee.double a.toNat = Ieee.double.infRung
      · rw [read_inf _ _ bin_double ci]; rfl
      · rw [read_num _ _ (by omega)]; rfl
/-- The NaN of 32 bits that the tape gives. -/
def nanC32 (w : World) (b : Nat) : Nat := Question.cut (.nanConv .f32 b) (w.tape w.drawn (.nanConv .f32 b))
theorem run_narrow_nan (b : Nat) (h : Ieee.double.infRung < rungOf Ieee.double b) (w : World) : (convert 53 58 (.float .f64 b)).run Try.prog w = .ok (.float .f32 (nanC32 w b)) w.drew := by
  have hd : FloatKind.f64.decode b = .nan (negOf Ieee.double b) (rungOf Ieee.double b - Ieee.double.infRung) := read_nan Ieee.double b bin_double h
  have hs : Try.prog.underlying 53 = some (.float .f64) := Try.underlying53
  simp [convert, run_underlying hs, run_underlying Try.underlying58, Conv.floatToFloat, hd]
  rfl
theorem wOf_idem (n a : Int) : wOf n (wOf n a : Int) = wOf n a := by
  unfold wOf
  split <;> omega
theorem val_cut {n a : Int} {x : Nat} (h : Val n (wOf n a : Int) x) (h0 : 0 ≤ a) : Val n a x := by
  unfold Val at *
  by_cases c : n = 32
  · subst c
    rw [if_pos rfl] at *
    have : s32 ((wOf 32 a : Nat) : Int) = s32 a := wOf_idem 32 a
    rw [this] at h
    exact h
  · rw [if_neg c] at *
    rw [h]
    unfold wOf
    rw [if_neg c]
    omega
structure Pq (r : Int × Int) (w : World) (e : Ending) (w' : World) : Prop where mk :: (out : e = .returned (.tuple #[.int .u64 r.1, .int .i64 r.2]) ∧ Below w.heap.size w w')
theorem un_wrong (n op a : Int) (w : World) (c : (n != 32) = true ∧ (n != 64) = true) : Calls Try.prog 30 #[.int .i64 n, .int .i64 op, .int .u64 a] w (Pq (0, 1) w) := by
  obtain ⟨c1, c2⟩ := c
  go_enter Try.func30, Try.ntmps30
  go_wp2_with fail
  go_ret2
  exact ⟨⟨rfl, Below.refl _ _⟩⟩
theorem un_op (n op a : Int) (w : World) (c : SizeB n) (h : op < 1 ∨ 7 < op) : Calls Try.prog 30 #[.int .i64 n, .int .i64 op, .int .u64 a] w (Pq (0, 1) w) := by
  unfold SizeB at c
  rcases h with h | h
  · have d1 : decide (op < 1) = true := decide_eq_true h
    clear h
    rcases c with c1 | ⟨c1, c2⟩
    all_goals
      go_enter Try.func30, Try.ntmps30
      go_wp2_with fail
      go_ret2
      exact ⟨⟨rfl, Below.refl _ _⟩⟩
  · have d1 : decide (op < 1) = false := decide_eq_false (by omega)
    have d2 : decide (7 < op) = true := decide_eq_true h
    clear h
    rcases c with c1 | ⟨c1, c2⟩
    all_goals
      go_enter Try.func30, Try.ntmps30
      go_wp2_with fail
      go_ret2
      exact ⟨⟨rfl, Below.refl _ _⟩⟩
theorem sg_pos (n : Int) : 0 < sgnI n ∧ sgnI n ≤ 9223372036854775808 := by unfold sgnI; split <;> omega
theorem wOf_lt (n a : Int) (h0 : 0 ≤ a) (h1 : a < 18446744073709551616) : (wOf n a : Int) < 2 * sgnI n := by unfold wOf sgnI; split <;> omega
theorem un1 (n a : Int) (w : World) (c : SizeB n) (h0 : 0 ≤ a) (h1 : a < 18446744073709551616) : Calls Try.prog 30 #[.int .i64 n, .int .i64 1, .int .u64 a] w (Pq ((wOf n a : Int) % sgnI n, 0) w) := by
  have sp := sg_pos n
  have wl := wOf_lt n a h0 h1
  have w0 : (0 : Int) ≤ (wOf n a : Int) := by omega
  unfold SizeB at c
  rcases c with c1 | ⟨c1, c2⟩
  all_goals
    go_enter Try.func30, Try.ntmps30
    go_wp2_with fail
    refine (cut_c n a _ h0 h1).mono ?_
    rintro e w' ⟨rfl, rfl⟩
    go_wp2_with fail
    refine (sign_c n _).mono ?_
    rintro e w' ⟨rfl, rfl⟩
    generalize (wOf n a : Int) = x at *
    generalize sgnI n = s at *
    go_wp2_with fail
    go_ret2
    exact ⟨⟨rfl, Below.refl _ _⟩⟩
theorem un2y (n a : Int) (w : World) (c : SizeB n) (h0 : 0 ≤ a) (h1 : a < 18446744073709551616) (hs : sgnI n ≤ (wOf n a : Int)) : Calls Try.prog 30 #[.int .i64 n, .int .i64 2, .int .u64 a] w (Pq ((wOf n a : Int) - sgnI n, 0) w) := by
  have sp := sg_pos n
  have wl := wOf_lt n a h0 h1
  have w0 : (0 : Int) ≤ (wOf n a : Int) := by omega
  unfold SizeB at c
  rcases c with c1 | ⟨c1, c2⟩
  all_goals
    go_enter Try.func30, Try.ntmps30
    go_wp2_with fail
    refine (cut_c n a _ h0 h1).mono ?_
    rintro e w' ⟨rfl, rfl⟩
    go_wp2_with fail
    refine (sign_c n _).mono ?_
    rintro e w' ⟨rfl, rfl⟩
    generalize (wOf n a : Int) = x at *
    generalize sgnI n = s at *
    go_wp2_with fail
    go_ret2
    exact ⟨⟨rfl, Below.refl _ _⟩⟩
theorem un2n (n a : Int) (w : World) (c : SizeB n) (h0 : 0 ≤ a) (h1 : a < 18446744073709551616) (hs : (wOf n a : Int) < sgnI n) : Calls Try.prog 30 #[.int .i64 n, .int .i64 2, .int .u64 a] w (Pq ((wOf n a : Int) + sgnI n, 0) w) := by
  have sp := sg_pos n
  have wl := wOf_lt n a h0 h1
  have w0 : (0 : Int) ≤ (wOf n a : Int) := by omega
  unfold SizeB at c
  rcases c with c1 | ⟨c1, c2⟩
  all_goals
    go_enter Try.func30, Try.ntmps30
    go_wp2_with fail
    refine (cut_c n a _ h0 h1).mono ?_
    rintro e w' ⟨rfl, rfl⟩
    go_wp2_with fail
    refine (sign_c n _).mono ?_
    rintro e w' ⟨rfl, rfl⟩
    generalize (wOf n a : Int) = x at *
    generalize sgnI n = s at *
    go_wp2_with fail
    go_ret2
    exact ⟨⟨rfl, Below.refl _ _⟩⟩
theorem below_n {w : World} (k : Nat) : Below w.heap.size w (w.drewN k) := below_drewN (Below.refl _ _) k
theorem round_x (x : Nat) : ∃ (Y : World → Nat) (D : World → Nat), ∀ w, (callFunc 62 #[.float .f64 x]).run Try.prog w = .ok (.value (.float .f64 (Y w))) (w.drewN (D w)) ∧ (∀ v, mfun 7 x = some v → Y w = v) ∧ (mfun 7 x = none → Ieee.double.infRung < rungOf Ieee.double (Y w)) := by
  have h : ∀ w : World, ∃ y : Nat × Nat, (callFunc 62 #[.float .f64 x]).run Try.prog w = .ok (.value (.float .f64 y.1)) (w.drewN y.2) ∧ (∀ v, mfun 7 x = some v → y.1 = v) ∧ (mfun 7 x = none → Ieee.double.infRung < rungOf Ieee.double y.1) := by
    intro w
    by_cases h : rungOf Ieee.double x ≤ Ieee.double.infRung
    · refine ⟨(_, 0), xInt 62 _ "math.RoundToEven" .even Try.func62 (by kernel_rfl) (by kernel_rfl) (by kernel_rfl) (by kernel_rfl) x h w, ?_, ?_⟩
      · intro v hv; rw [mfun_int 7 x (by decide) h] at hv; exact Option.some.inj hv
      · intro hv; rw [mfun_int 7 x (by decide) h] at hv; cases hv
    · obtain ⟨r, d, hx, hr⟩ := xNan 62 _ "math.RoundToEven" .even Try.func62 (by kernel_rfl) (by kernel_rfl) (by kernel_rfl) (by kernel_rfl) x (by omega) w
      refine ⟨(r, d), hx, ?_, fun _ => hr⟩
      intro v hv; rw [mfun_nan 7 x (by omega)] at hv; cases hv
  exact ⟨fun w => (Classical.choose (h w)).1, fun w => (Classical.choose (h w)).2, fun w => Classical.choose_spec (h w)⟩
theorem un3_32 (a : Int) (w : World) (h0 : 0 ≤ a) (h1 : a < 18446744073709551616) : Calls Try.prog 30 #[.int .i64 32, .int .i64 3, .int .u64 a] w (Pq (resOf 32 (mres 32 3 a), 0) w) := by
  go_enter Try.func30, Try.ntmps30
  go_wp2_with fail
  refine (cut_c 32 a _ h0 h1).mono ?_
  rintro e w' ⟨rfl, rfl⟩
  go_wp2_with fail
  refine (sign_c 32 _).mono ?_
  rintro e w' ⟨rfl, rfl⟩
  go_wp2_with fail
  refine (value 32 (wOf 32 a : Int) _).mono ?_
  rintro e w' ⟨x, k, rfl, rfl, hv⟩
  have hv := val_cut hv h0
  go_wp2_with fail
  refine (m_sqrt _ _).mono ?_
  rintro e w' ⟨⟨y, d, rfl, rfl, y1, y2⟩⟩
  rcases mres32 3 a x hv with ⟨m1, m⟩ | ⟨v, r, m1, m2, m, m4, m5⟩
  · have M := Lib.hid m
    clear m hv
    have hn := y2 m1
    have S := fun w => run_narrow_nan y hn w
    clear hn y1 y2 m1
    go_wp2_with fail
    refine (B32_nan _ (order_nan Ieee.single _ _ bin_single (.inl (nan32 _))) _).mono ?_
    rintro e w' ⟨rfl, rfl⟩
    go_wp2_with fail
    go_ret2
    exact ⟨⟨by rw [M.out]; rfl, below_n _⟩⟩
  · have M := Lib.hid m
    clear m hv
    obtain rfl := y1 v m1
    have S := fun w => run_convert_float_float (P := Try.prog) w 53 58 .f64 .f32 y r (by rw [Try.underlying53]; rfl) Try.underlying58 m2
    clear y1 y2 m1 m2
    go_wp2_with fail
    refine (B32_num r (order_self Ieee.single r bin_single m4) m5 _).mono ?_
    rintro e w' ⟨rfl, rfl⟩
    go_wp2_with fail
    go_ret2
    exact ⟨⟨by rw [M.out]; rfl, below_n _⟩⟩
theorem un3_64 (a : Int) (w : World) (h0 : 0 ≤ a) (h1 : a < 18446744073709551616) : Calls Try.prog 30 #[.int .i64 64, .int .i64 3, .int .u64 a] w (Pq (resOf 64 (mres 64 3 a), 0) w) := by
  go_enter Try.func30, Try.ntmps30
  go_wp2_with fail
  refine (cut_c 64 a _ h0 h1).mono ?_
  rintro e w' ⟨rfl, rfl⟩
  go_wp2_with fail
  refine (sign_c 64 _).mono ?_
  rintro e w' ⟨rfl, rfl⟩
  go_wp2_with fail
  refine (value 64 (wOf 64 a : Int) _).mono ?_
  rintro e w' ⟨x, k, rfl, rfl, hv⟩
  have hv := val_cut hv h0
  go_wp2_with fail
  refine (m_sqrt _ _).mono ?_
  rintro e w' ⟨⟨y, d, rfl, rfl, y1, y2⟩⟩
  obtain ⟨m1, m2⟩ := mres64 3 a x hv
  clear hv
  cases m : mres 64 3 a with
  | none =>
    have M := Lib.hid m
    rw [m] at m1
    have hn := order_nan Ieee.double y y bin_double (.inl (y2 m1))
    clear m m1 m2 y1 y2
    go_wp2_with fail
    refine (B64_nan _ hn _).mono ?_
    rintro e w' ⟨rfl, rfl⟩
    go_wp2_with fail
    go_ret2
    exact ⟨⟨by rw [M.out]; rfl, below_n _⟩⟩
  | some r =>
    have M := Lib.hid m
    rw [m] at m1
    obtain rfl := y1 r m1
    have hn := order_self Ieee.double y bin_double (m2 y m)
    clear m m1 m2 y1 y2
    go_wp2_with fail
    refine (B64_num _ hn _).mono ?_
    rintro e w' ⟨rfl, rfl⟩
    go_wp2_with fail
    go_ret2
    exact ⟨⟨by rw [M.out]; rfl, below_n _⟩⟩
theorem un4_32 (a : Int) (w : World) (h0 : 0 ≤ a) (h1 : a < 18446744073709551616) : Calls Try.prog 30 #[.int .i64 32, .int .i64 4, .int .u64 a] w (Pq (resOf 32 (mres 32 4 a), 0) w) := by
  go_enter Try.func30, Try.ntmps30
  go_wp2_with fail
  refine (cut_c 32 a _ h0 h1).mono ?_
  rintro e w' ⟨rfl, rfl⟩
  go_wp2_with fail
  refine (sign_c 32 _).mono ?_
  rintro e w' ⟨rfl, rfl⟩
  go_wp2_with fail
  refine (value 32 (wOf 32 a : Int) _).mono ?_
  rintro e w' ⟨x, k, rfl, rfl, hv⟩
  have hv := val_cut hv h0
  go_wp2_with fail
  refine (m_ceil _ _).mono ?_
  rintro e w' ⟨⟨y, d, rfl, rfl, y1, y2⟩⟩
  rcases mres32 4 a x hv with ⟨m1, m⟩ | ⟨v, r, m1, m2, m, m4, m5⟩
  · have M := Lib.hid m
    clear m hv
    have hn := y2 m1
    have S := fun w => run_narrow_nan y hn w
    clear hn y1 y2 m1
    go_wp2_with fail
    refine (B32_nan _ (order_nan Ieee.single _ _ bin_single (.inl (nan32 _))) _).mono ?_
    rintro e w' ⟨rfl, rfl⟩
    go_wp2_with fail
    go_ret2
    exact ⟨⟨by rw [M.out]; rfl, below_n _⟩⟩
  · have M := Lib.hid m
    clear m hv
    obtain rfl := y1 v m1
    have S := fun w => run_convert_float_float (P := Try.prog) w 53 58 .f64 .f32 y r (by rw [Try.underlying53]; rfl) Try.underlying58 m2
    clear y1 y2 m1 m2
    go_wp2_with fail
    refine (B32_num r (order_self Ieee.single r bin_single m4) m5 _).mono ?_
    rintro e w' ⟨rfl, rfl⟩
    go_wp2_with fail
    go_ret2
    exact ⟨⟨by rw [M.out]; rfl, below_n _⟩⟩
theorem un4_64 (a : Int) (w : World) (h0 : 0 ≤ a) (h1 : a < 18446744073709551616) : Calls Try.prog 30 #[.int .i64 64, .int .i64 4, .int .u64 a] w (Pq (resOf 64 (mres 64 4 a), 0) w) := by
  go_enter Try.func30, Try.ntmps30
  go_wp2_with fail
  refine (cut_c 64 a _ h0 h1).mono ?_
  rintro e w' ⟨rfl, rfl⟩
  go_wp2_with fail
  refine (sign_c 64 _).mono ?_
  rintro e w' ⟨rfl, rfl⟩
  go_wp2_with fail
  refine (value 64 (wOf 64 a : Int) _).mono ?_
  rintro e w' ⟨x, k, rfl, rfl, hv⟩
  have hv := val_cut hv h0
  go_wp2_with fail
  refine (m_ceil _ _).mono ?_
  rintro e w' ⟨⟨y, d, rfl, rfl, y1, y2⟩⟩
  obtain ⟨m1, m2⟩ := mres64 4 a x hv
  clear hv
  cases m : mres 64 4 a with
  | none =>
    have M := Lib.hid m
    rw [m] at m1
    have hn := order_nan Ieee.double y y bin_double (.inl (y2 m1))
    clear m m1 m2 y1 y2
    go_wp2_with fail
    refine (B64_nan _ hn _).mono ?_
    rintro e w' ⟨rfl, rfl⟩
    go_wp2_with fail
    go_ret2
    exact ⟨⟨by rw [M.out]; rfl, below_n _⟩⟩
  | some r =>
    have M := Lib.hid m
    rw [m] at m1
    obtain rfl := y1 r m1
    have hn := order_self Ieee.double y bin_double (m2 y m)
    clear m m1 m2 y1 y2
    go_wp2_with fail
    refine (B64_num _ hn _).mono ?_
    rintro e w' ⟨rfl, rfl⟩
    go_wp2_with fail
    go_ret2
    exact ⟨⟨by rw [M.out]; rfl, below_n _⟩⟩
theorem un5_32 (a : Int) (w : World) (h0 : 0 ≤ a) (h1 : a < 18446744073709551616) : Calls Try.prog 30 #[.int .i64 32, .int .i64 5, .int .u64 a] w (Pq (resOf 32 (mres 32 5 a), 0) w) := by
  go_enter Try.func30, Try.ntmps30
  go_wp2_with fail
  refine (cut_c 32 a _ h0 h1).mono ?_
  rintro e w' ⟨rfl, rfl⟩
  go_wp2_with fail
  refine (sign_c 32 _).mono ?_
  rintro e w' ⟨rfl, rfl⟩
  go_wp2_with fail
  refine (value 32 (wOf 32 a : Int) _).mono ?_
  rintro e w' ⟨x, k, rfl, rfl, hv⟩
  have hv := val_cut hv h0
  go_wp2_with fail
  refine (m_floor _ _).mono ?_
  rintro e w' ⟨⟨y, d, rfl, rfl, y1, y2⟩⟩
  rcases mres32 5 a x hv with ⟨m1, m⟩ | ⟨v, r, m1, m2, m, m4, m5⟩
  · have M := Lib.hid m
    clear m hv
    have hn := y2 m1
    have S := fun w => run_narrow_nan y hn w
    clear hn y1 y2 m1
    go_wp2_with fail
    refine (B32_nan _ (order_nan Ieee.single _ _ bin_single (.inl (nan32 _))) _).mono ?_
    rintro e w' ⟨rfl, rfl⟩
    go_wp2_with fail
    go_ret2
    exact ⟨⟨by rw [M.out]; rfl, below_n _⟩⟩
  · have M := Lib.hid m
    clear m hv
    obtain rfl := y1 v m1
    have S := fun w => run_convert_float_float (P := Try.prog) w 53 58 .f64 .f32 y r (by rw [Try.underlying53]; rfl) Try.underlying58 m2
    clear y1 y2 m1 m2
    go_wp2_with fail
    refine (B32_num r (order_self Ieee.single r bin_single m4) m5 _).mono ?_
    rintro e w' ⟨rfl, rfl⟩
    go_wp2_with fail
    go_ret2
    exact ⟨⟨by rw [M.out]; rfl, below_n _⟩⟩
theorem un5_64 (a : Int) (w : World) (h0 : 0 ≤ a) (h1 : a < 18446744073709551616) : Calls Try.prog 30 #[.int .i64 64, .int .i64 5, .int .u64 a] w (Pq (resOf 64 (mres 64 5 a), 0) w) := by
  go_enter Try.func30, Try.ntmps30
  go_wp2_with fail
  refine (cut_c 64 a _ h0 h1).mono ?_
  rintro e w' ⟨rfl, rfl⟩
  go_wp2_with fail
  refine (sign_c 64 _).mono ?_
  rintro e w' ⟨rfl, rfl⟩
  go_wp2_with fail
  refine (value 64 (wOf 64 a : Int) _).mono ?_
  rintro e w' ⟨x, k, rfl, rfl, hv⟩
  have hv := val_cut hv h0
  go_wp2_with fail
  refine (m_floor _ _).mono ?_
  rintro e w' ⟨⟨y, d, rfl, rfl, y1, y2⟩⟩
  obtain ⟨m1, m2⟩ := mres64 5 a x hv
  clear hv
  cases m : mres 64 5 a with
  | none =>
    have M := Lib.hid m
    rw [m] at m1
    have hn := order_nan Ieee.double y y bin_double (.inl (y2 m1))
    clear m m1 m2 y1 y2
    go_wp2_with fail
    refine (B64_nan _ hn _).mono ?_
    rintro e w' ⟨rfl, rfl⟩
    go_wp2_with fail
    go_ret2
    exact ⟨⟨by rw [M.out]; rfl, below_n _⟩⟩
  | some r =>
    have M := Lib.hid m
    rw [m] at m1
    obtain rfl := y1 r m1
    have hn := order_self Ieee.double y bin_double (m2 y m)
    clear m m1 m2 y1 y2
    go_wp2_with fail
    refine (B64_num _ hn _).mono ?_
    rintro e w' ⟨rfl, rfl⟩
    go_wp2_with fail
    go_ret2
    exact ⟨⟨by rw [M.out]; rfl, below_n _⟩⟩
theorem un6_32 (a : Int) (w : World) (h0 : 0 ≤ a) (h1 : a < 18446744073709551616) : Calls Try.prog 30 #[.int .i64 32, .int .i64 6, .int .u64 a] w (Pq (resOf 32 (mres 32 6 a), 0) w) := by
  go_enter Try.func30, Try.ntmps30
  go_wp2_with fail
  refine (cut_c 32 a _ h0 h1).mono ?_
  rintro e w' ⟨rfl, rfl⟩
  go_wp2_with fail
  refine (sign_c 32 _).mono ?_
  rintro e w' ⟨rfl, rfl⟩
  go_wp2_with fail
  refine (value 32 (wOf 32 a : Int) _).mono ?_
  rintro e w' ⟨x, k, rfl, rfl, hv⟩
  have hv := val_cut hv h0
  go_wp2_with fail
  refine (m_trunc _ _).mono ?_
  rintro e w' ⟨⟨y, d, rfl, rfl, y1, y2⟩⟩
  rcases mres32 6 a x hv with ⟨m1, m⟩ | ⟨v, r, m1, m2, m, m4, m5⟩
  · have M := Lib.hid m
    clear m hv
    have hn := y2 m1
    have S := fun w => run_narrow_nan y hn w
    clear hn y1 y2 m1
    go_wp2_with fail
    refine (B32_nan _ (order_nan Ieee.single _ _ bin_single (.inl (nan32 _))) _).mono ?_
    rintro e w' ⟨rfl, rfl⟩
    go_wp2_with fail
    go_ret2
    exact ⟨⟨by rw [M.out]; rfl, below_n _⟩⟩
  · have M := Lib.hid m
    clear m hv
    obtain rfl := y1 v m1
    have S := fun w => run_convert_float_float (P := Try.prog) w 53 58 .f64 .f32 y r (by rw [Try.underlying53]; rfl) Try.underlying58 m2
    clear y1 y2 m1 m2
    go_wp2_with fail
    refine (B32_num r (order_self Ieee.single r bin_single m4) m5 _).mono ?_
    rintro e w' ⟨rfl, rfl⟩
    go_wp2_with fail
    go_ret2
    exact ⟨⟨by rw [M.out]; rfl, below_n _⟩⟩
theorem un6_64 (a : Int) (w : World) (h0 : 0 ≤ a) (h1 : a < 18446744073709551616) : Calls Try.prog 30 #[.int .i64 64, .int .i64 6, .int .u64 a] w (Pq (resOf 64 (mres 64 6 a), 0) w) := by
  go_enter Try.func30, Try.ntmps30
  go_wp2_with fail
  refine (cut_c 64 a _ h0 h1).mono ?_
  rintro e w' ⟨rfl, rfl⟩
  go_wp2_with fail
  refine (sign_c 64 _).mono ?_
  rintro e w' ⟨rfl, rfl⟩
  go_wp2_with fail
  refine (value 64 (wOf 64 a : Int) _).mono ?_
  rintro e w' ⟨x, k, rfl, rfl, hv⟩
  have hv := val_cut hv h0
  go_wp2_with fail
  refine (m_trunc _ _).mono ?_
  rintro e w' ⟨⟨y, d, rfl, rfl, y1, y2⟩⟩
  obtain ⟨m1, m2⟩ := mres64 6 a x hv
  clear hv
  cases m : mres 64 6 a with
  | none =>
    have M := Lib.hid m
    rw [m] at m1
    have hn := order_nan Ieee.double y y bin_double (.inl (y2 m1))
    clear m m1 m2 y1 y2
    go_wp2_with fail
    refine (B64_nan _ hn _).mono ?_
    rintro e w' ⟨rfl, rfl⟩
    go_wp2_with fail
    go_ret2
    exact ⟨⟨by rw [M.out]; rfl, below_n _⟩⟩
  | some r =>
    have M := Lib.hid m
    rw [m] at m1
    obtain rfl := y1 r m1
    have hn := order_self Ieee.double y bin_double (m2 y m)
    clear m m1 m2 y1 y2
    go_wp2_with fail
    refine (B64_num _ hn _).mono ?_
    rintro e w' ⟨rfl, rfl⟩
    go_wp2_with fail
    go_ret2
    exact ⟨⟨by rw [M.out]; rfl, below_n _⟩⟩
theorem un7_32 (a : Int) (w : World) (h0 : 0 ≤ a) (h1 : a < 18446744073709551616) : Calls Try.prog 30 #[.int .i64 32, .int .i64 7, .int .u64 a] w (Pq (resOf 32 (mres 32 7 a), 0) w) := by
  go_enter Try.func30, Try.ntmps30
  go_wp2_with fail
  refine (cut_c 32 a _ h0 h1).mono ?_
  rintro e w' ⟨rfl, rfl⟩
  go_wp2_with fail
  refine (sign_c 32 _).mono ?_
  rintro e w' ⟨rfl, rfl⟩
  go_wp2_with fail
  refine (value 32 (wOf 32 a : Int) _).mono ?_
  rintro e w' ⟨x, k, rfl, rfl, hv⟩
  have hv := val_cut hv h0
  obtain ⟨Y, D, hY⟩ := round_x x
  rcases mres32 7 a x hv with ⟨m1, m⟩ | ⟨v, r, m1, m2, m, m4, m5⟩
  · have M := Lib.hid m
    clear m hv
    have hn := fun w => (hY w).2.2 m1
    have hx := fun w => (hY w).1
    have S := fun w0 w => run_narrow_nan (Y w0) (hn w0) w
    clear hn hY m1
    go_wp2_with fail
    refine (B32_nan _ (order_nan Ieee.single _ _ bin_single (.inl (nan32 _))) _).mono ?_
    rintro e w' ⟨rfl, rfl⟩
    go_wp2_with fail
    go_ret2
    exact ⟨⟨by rw [M.out]; rfl, below_n _⟩⟩
  · have M := Lib.hid m
    clear m hv
    have hx : ∀ w, (callFunc 62 #[.float .f64 x]).run Try.prog w = .ok (.value (.float .f64 v)) (w.drewN (D w)) := fun w => by rw [(hY w).1, (hY w).2.1 v m1]
    have S := fun w => run_convert_float_float (P := Try.prog) w 53 58 .f64 .f32 v r (by rw [Try.underlying53]; rfl) Try.underlying58 m2
    clear hY m1 m2
    go_wp2_with fail
    refine (B32_num r (order_self Ieee.single r bin_single m4) m5 _).mono ?_
    rintro e w' ⟨rfl, rfl⟩
    go_wp2_with fail
    go_ret2
    exact ⟨⟨by rw [M.out]; rfl, below_n _⟩⟩
theorem un7_64 (a : Int) (w : World) (h0 : 0 ≤ a) (h1 : a < 18446744073709551616) : Calls Try.prog 30 #[.int .i64 64, .int .i64 7, .int .u64 a] w (Pq (resOf 64 (mres 64 7 a), 0) w) := by
  go_enter Try.func30, Try.ntmps30
  go_wp2_with fail
  refine (cut_c 64 a _ h0 h1).mono ?_
  rintro e w' ⟨rfl, rfl⟩
  go_wp2_with fail
  refine (sign_c 64 _).mono ?_
  rintro e w' ⟨rfl, rfl⟩
  go_wp2_with fail
  refine (value 64 (wOf 64 a : Int) _).mono ?_
  rintro e w' ⟨x, k, rfl, rfl, hv⟩
  have hv := val_cut hv h0
  obtain ⟨Y, D, hY⟩ := round_x x
  obtain ⟨m1, m2⟩ := mres64 7 a x hv
  clear hv
  cases m : mres 64 7 a with
  | none =>
    have M := Lib.hid m
    rw [m] at m1
    have hn := fun w => order_nan Ieee.double (Y w) (Y w) bin_double (.inl ((hY w).2.2 m1))
    have hx := fun w => (hY w).1
    clear m m1 m2 hY
    go_wp2_with fail
    refine (B64_nan _ (hn _) _).mono ?_
    rintro e w' ⟨rfl, rfl⟩
    go_wp2_with fail
    go_ret2
    exact ⟨⟨by rw [M.out]; rfl, below_n _⟩⟩
  | some r =>
    have M := Lib.hid m
    rw [m] at m1
    have hx : ∀ w, (callFunc 62 #[.float .f64 x]).run Try.prog w = .ok (.value (.float .f64 r)) (w.drewN (D w)) := fun w => by rw [(hY w).1, (hY w).2.1 r m1]
    have hn := order_self Ieee.double r bin_double (m2 r m)
    clear m m1 m2 hY
    go_wp2_with fail
    refine (B64_num _ hn _).mono ?_
    rintro e w' ⟨rfl, rfl⟩
    go_wp2_with fail
    go_ret2
    exact ⟨⟨by rw [M.out]; rfl, below_n _⟩⟩
end Go.Proofs.Ytjfmomogidgbpaa.Ref
namespace Go.Proofs.Ytjfmomogidgbpaa.Ref
set_option linter.unusedVariables false
set_option linter.unusedSimpArgs false
open Go.RowKit Go.Proofs.YtjfmomogidgbpaaW.PrintWords Go.Proofs.Ytjfmomogidgbpaa.Fl
structure Pb (r : Bool × Int) (w : World) (e : Ending) (w' : World) : Prop where mk :: (out : e = .returned (.tuple #[.bool r.1, .int .i64 r.2]) ∧ Below w.heap.size w w')
theorem rel_wrong (n op a b : Int) (w : World) (c : (n != 32) = true ∧ (n != 64) = true) : Calls Try.prog 23 #[.int .i64 n, .int .i64 op, .int .u64 a, .int .u64 b] w (Pb (false, 1) w) := by
  obtain ⟨c1, c2⟩ := c
  go_enter Try.func23, Try.ntmps23
  go_wp2_with fail
  go_ret2
  exact ⟨⟨rfl, Below.refl _ _⟩⟩
theorem rel_op (n op a b : Int) (w : World) (c : SizeB n) (h : op < 1 ∨ 6 < op) : Calls Try.prog 23 #[.int .i64 n, .int .i64 op, .int .u64 a, .int .u64 b] w (Pb (false, 1) w) := by
  unfold SizeB at c
  rcases h with h | h
  · have d1 : decide (op < 1) = true := decide_eq_true h
    clear h
    rcases c with c1 | ⟨c1, c2⟩
    all_goals
      go_enter Try.func23, Try.ntmps23
      go_wp2_with fail
      go_ret2
      exact ⟨⟨rfl, Below.refl _ _⟩⟩
  · have d1 : decide (op < 1) = false := decide_eq_false (by omega)
    have d2 : decide (6 < op) = true := decide_eq_true h
    clear h
    rcases c with c1 | ⟨c1, c2⟩
    all_goals
      go_enter Try.func23, Try.ntmps23
      go_wp2_with fail
      go_ret2
      exact ⟨⟨rfl, Below.refl _ _⟩⟩
theorem rel1 (n a b : Int) (w : World) (c : SizeB n) : Calls Try.prog 23 #[.int .i64 n, .int .i64 1, .int .u64 a, .int .u64 b] w (Pb (ordOf n a b == some .eq, 0) w) := by
  unfold SizeB at c
  rcases c with c1 | ⟨c1, c2⟩
  all_goals
    go_enter Try.func23, Try.ntmps23
    go_wp2_with fail
    refine (value n a _).mono ?_
    rintro e w' ⟨x, k, rfl, rfl, hx⟩
    go_wp2_with fail
    refine (value n b _).mono ?_
    rintro e w1 ⟨y, k2, rfl, hw1, hy⟩
    have O := Lib.hid (val_order hx hy)
    have B := Lib.hid (show Below w.heap.size w w1 from by rw [hw1]; exact below_drewN (below_n _) _)
    clear hx hy hw1
    go_wp2_with fail
    go_ret2
    exact ⟨⟨by rw [← O.out]; rfl, B.out.alloc B.out.size _⟩⟩
theorem rel2 (n a b : Int) (w : World) (c : SizeB n) : Calls Try.prog 23 #[.int .i64 n, .int .i64 2, .int .u64 a, .int .u64 b] w (Pb (ordOf n a b != some .eq, 0) w) := by
  unfold SizeB at c
  rcases c with c1 | ⟨c1, c2⟩
  all_goals
    go_enter Try.func23, Try.ntmps23
    go_wp2_with fail
    refine (value n a _).mono ?_
    rintro e w' ⟨x, k, rfl, rfl, hx⟩
    go_wp2_with fail
    refine (value n b _).mono ?_
    rintro e w1 ⟨y, k2, rfl, hw1, hy⟩
    have O := Lib.hid (val_order hx hy)
    have B := Lib.hid (show Below w.heap.size w w1 from by rw [hw1]; exact below_drewN (below_n _) _)
    clear hx hy hw1
    go_wp2_with fail
    go_ret2
    exact ⟨⟨by rw [← O.out]; rfl, B.out.alloc B.out.size _⟩⟩
theorem rel3 (n a b : Int) (w : World) (c : SizeB n) : Calls Try.prog 23 #[.int .i64 n, .int .i64 3, .int .u64 a, .int .u64 b] w (Pb (ordOf n a b == some .lt, 0) w) := by
  unfold SizeB at c
  rcases c with c1 | ⟨c1, c2⟩
  all_goals
    go_enter Try.func23, Try.ntmps23
    go_wp2_with fail
    refine (value n a _).mono ?_
    rintro e w' ⟨x, k, rfl, rfl, hx⟩
    go_wp2_with fail
    refine (value n b _).mono ?_
    rintro e w1 ⟨y, k2, rfl, hw1, hy⟩
    have O := Lib.hid (val_order hx hy)
    have B := Lib.hid (show Below w.heap.size w w1 from by rw [hw1]; exact below_drewN (below_n _) _)
    clear hx hy hw1
    go_wp2_with fail
    go_ret2
    exact ⟨⟨by rw [← O.out]; rfl, B.out.alloc B.out.size _⟩⟩
theorem rel4 (n a b : Int) (w : World) (c : SizeB n) : Calls Try.prog 23 #[.int .i64 n, .int .i64 4, .int .u64 a, .int .u64 b] w (Pb (ordOf n a b == some .gt, 0) w) := by
  unfold SizeB at c
  rcases c with c1 | ⟨c1, c2⟩
  all_goals
    go_enter Try.func23, Try.ntmps23
    go_wp2_with fail
    refine (value n a _).mono ?_
    rintro e w' ⟨x, k, rfl, rfl, hx⟩
    go_wp2_with fail
    refine (value n b _).mono ?_
    rintro e w1 ⟨y, k2, rfl, hw1, hy⟩
    have O := Lib.hid (val_order hx hy)
    have B := Lib.hid (show Below w.heap.size w w1 from by rw [hw1]; exact below_drewN (below_n _) _)
    clear hx hy hw1
    go_wp2_with fail
    go_ret2
    exact ⟨⟨by rw [← O.out]; rfl, B.out.alloc B.out.size _⟩⟩
theorem rel5 (n a b : Int) (w : World) (c : SizeB n) : Calls Try.prog 23 #[.int .i64 n, .int .i64 5, .int .u64 a, .int .u64 b] w (Pb (ordOf n a b == some .lt || ordOf n a b == some .eq, 0) w) := by
  unfold SizeB at c
  rcases c with c1 | ⟨c1, c2⟩
  all_goals
    go_enter Try.func23, Try.ntmps23
    go_wp2_with fail
    refine (value n a _).mono ?_
    rintro e w' ⟨x, k, rfl, rfl, hx⟩
    go_wp2_with fail
    refine (value n b _).mono ?_
    rintro e w1 ⟨y, k2, rfl, hw1, hy⟩
    have O := Lib.hid (val_order hx hy)
    have B := Lib.hid (show Below w.heap.size w w1 from by rw [hw1]; exact below_drewN (below_n _) _)
    clear hx hy hw1
    go_wp2_with fail
    go_ret2
    exact ⟨⟨by rw [← O.out]; rfl, B.out.alloc B.out.size _⟩⟩
theorem rel6 (n a b : Int) (w : World) (c : SizeB n) : Calls Try.prog 23 #[.int .i64 n, .int .i64 6, .int .u64 a, .int .u64 b] w (Pb (ordOf n a b == some .gt || ordOf n a b == some .eq, 0) w) := by
  unfold SizeB at c
  rcases c with c1 | ⟨c1, c2⟩
  all_goals
    go_enter Try.func23, Try.ntmps23
    go_wp2_with fail
    refine (value n a _).mono ?_
    rintro e w' ⟨x, k, rfl, rfl, hx⟩
    go_wp2_with fail
    refine (value n b _).mono ?_
    rintro e w1 ⟨y, k2, rfl, hw1, hy⟩
    have O := Lib.hid (val_order hx hy)
    have B := Lib.hid (show Below w.heap.size w w1 from by rw [hw1]; exact below_drewN (below_n _) _)
    clear hx hy hw1
    go_wp2_with fail
    go_ret2
    exact ⟨⟨by rw [← O.out]; rfl, B.out.alloc B.out.size _⟩⟩
theorem rel_all (n op a b : Int) (w : World) : Calls Try.prog 23 #[.int .i64 n, .int .i64 op, .int .u64 a, .int .u64 b] w (Pb (relF n op a b) w) := by
  by_cases hn : n = 32 ∨ n = 64
  · have c := sizeB hn
    by_cases ho : op < 1 ∨ 6 < op
    · have e : relF n op a b = (false, 1) := by unfold relF; rw [if_pos (by omega)]
      rw [e]; exact rel_op n op a b w c ho
    · have e : relF n op a b = (if op = 1 then ordOf n a b == some .eq else if op = 2 then ordOf n a b != some .eq else if op = 3 then ordOf n a b == some .lt else if op = 4 then ordOf n a b == some .gt
          else if op = 5 then ordOf n a b == some .lt || ordOf n a b == some .eq else ordOf n a b == some .gt || ordOf n a b == some .eq, 0) := by unfold relF; rw [if_neg (by omega)]
      rw [e]
      have : op = 1 ∨ op = 2 ∨ op = 3 ∨ op = 4 ∨ op = 5 ∨ op = 6 := by omega
      rcases this with rfl | rfl | rfl | rfl | rfl | rfl
      · exact rel1 n a b w c
      · exact rel2 n a b w c
      · exact rel3 n a b w c
      · exact rel4 n a b w c
      · exact rel5 n a b w c
      · exact rel6 n a b w c
  · have e : relF n op a b = (false, 1) := by unfold relF; rw [if_pos (by omega)]
    rw [e]; exact rel_wrong n op a b w ⟨bne_iff_ne.2 (by omega), bne_iff_ne.2 (by omega)⟩
theorem un_all (n op a : Int) (w : World) (h0 : 0 ≤ a) (h1 : a < 18446744073709551616) : Calls Try.prog 30 #[.int .i64 n, .int .i64 op, .int .u64 a] w (Pq (unF n op a) w) := by
  by_cases hn : n = 32 ∨ n = 64
  · have c := sizeB hn
    by_cases ho : op < 1 ∨ 7 < op
    · have e : unF n op a = (0, 1) := by unfold unF; rw [if_pos (by omega)]
      rw [e]; exact un_op n op a w c ho
    · by_cases o1 : op = 1
      · subst o1
        have e : unF n 1 a = ((wOf n a : Int) % sgnI n, 0) := by unfold unF; rw [if_neg (by omega)]; rfl
        rw [e]; exact un1 n a w c h0 h1
      · by_cases o2 : op = 2
        · subst o2
          have e : unF n 2 a = (if sgnI n ≤ (wOf n a : Int) then (wOf n a : Int) - sgnI n else (wOf n a : Int) + sgnI n, 0) := by unfold unF; rw [if_neg (by omega)]; rfl
          rw [e]
          by_cases hs : sgnI n ≤ (wOf n a : Int)
          · rw [if_pos hs]; exact un2y n a w c h0 h1 hs
          · rw [if_neg hs]; exact un2n n a w c h0 h1 (by omega)
        · have e : unF n op a = (resOf n (mres n op a), 0) := by
            unfold unF mres
            rw [if_neg (by omega)]
            simp only
            rw [if_neg o1, if_neg o2]
            by_cases h : nanW (fmtOf n) (wOf n a) = true
            · rw [if_pos h, if_pos h]; rfl
            · rw [if_neg h, if_neg h]
              by_cases o3 : op = 3
              · rw [if_pos o3, if_pos o3]
              · rw [if_neg o3, if_neg o3]; rfl
          rw [e]
          have : op = 3 ∨ op = 4 ∨ op = 5 ∨ op = 6 ∨ op = 7 := by omega
          rcases this with rfl | rfl | rfl | rfl | rfl <;> rcases hn with rfl | rfl
          · exact un3_32 a w h0 h1
          · exact un3_64 a w h0 h1
          · exact un4_32 a w h0 h1
          · exact un4_64 a w h0 h1
          · exact un5_32 a w h0 h1
          · exact un5_64 a w h0 h1
          · exact un6_32 a w h0 h1
          · exact un6_64 a w h0 h1
          · exact un7_32 a w h0 h1
          · exact un7_64 a w h0 h1
  · have e : unF n op a = (0, 1) := by unfold unF; rw [if_pos (by omega)]
    rw [e]; exact un_wrong n op a w ⟨bne_iff_ne.2 (by omega), bne_iff_ne.2 (by omega)⟩
end Go.Proofs.Ytjfmomogidgbpaa.Ref
namespace Go.Proofs.Ytjfmomogidgbpaa.Ref
set_option linter.unusedVariables false
set_option linter.unusedSimpArgs false
open Go.RowKit Go.Proofs.YtjfmomogidgbpaaW.PrintWords Go.Proofs.Ytjfmomogidgbpaa.Fl
theorem ret2w {x y : Int} (h : x = y) : Ending.returned (.tuple #[.int .u64 x, .int .i64 0]) = .returned (.tuple #[.int .u64 y, .int .i64 0]) := by rw [h]
theorem wrap2 (A B : Int) (wa : A < 2 * 9223372036854775808) (wb : B < 2 * 9223372036854775808) (pa : 0 ≤ A) (pb : 0 ≤ B) :
    IntKind.u64.wrap (IntKind.u64.wrap (A % 9223372036854775808 + B) - B % 9223372036854775808) = A % 9223372036854775808 + B - B % 9223372036854775808 := by
  rw [IntKind.wrap_u64, IntKind.wrap_u64]
  omega
theorem bin_wrong (n op a b : Int) (w : World) (c : (n != 32) = true ∧ (n != 64) = true) : Calls Try.prog 24 #[.int .i64 n, .int .i64 op, .int .u64 a, .int .u64 b] w (Pq (0, 1) w) := by
  obtain ⟨c1, c2⟩ := c
  go_enter Try.func24, Try.ntmps24
  go_wp2_with fail
  go_ret2
  exact ⟨⟨rfl, Below.refl _ _⟩⟩
theorem bin_op (n op a b : Int) (w : World) (c : SizeB n) (h : op < 1 ∨ 9 < op) : Calls Try.prog 24 #[.int .i64 n, .int .i64 op, .int .u64 a, .int .u64 b] w (Pq (0, 1) w) := by
  unfold SizeB at c
  rcases h with h | h
  · have d1 : decide (op < 1) = true := decide_eq_true h
    clear h
    rcases c with c1 | ⟨c1, c2⟩
    all_goals
      go_enter Try.func24, Try.ntmps24
      go_wp2_with fail
      go_ret2
      exact ⟨⟨rfl, Below.refl _ _⟩⟩
  · have d1 : decide (op < 1) = false := decide_eq_false (by omega)
    have d2 : decide (9 < op) = true := decide_eq_true h
    clear h
    rcases c with c1 | ⟨c1, c2⟩
    all_goals
      go_enter Try.func24, Try.ntmps24
      go_wp2_with fail
      go_ret2
      exact ⟨⟨rfl, Below.refl _ _⟩⟩
theorem bin7s (n a b : Int) (w : World) (c : SizeB n) (a0 : 0 ≤ a) (a1 : a < 18446744073709551616) (b0 : 0 ≤ b) (b1 : b < 18446744073709551616) (S : Int) (hS : sgnI n = S) (h2 : S = 2147483648 ∨ S = 9223372036854775808) : Calls Try.prog 24 #[.int .i64 n, .int .i64 7, .int .u64 a, .int .u64 b] w (Pq ((wOf n a : Int) % S + (wOf n b : Int) - (wOf n b : Int) % S, 0) w) := by
  have HS := Lib.hid hS
  have wa := wOf_lt n a a0 a1
  have wb := wOf_lt n b b0 b1
  have pa : (0 : Int) ≤ (wOf n a : Int) := by omega
  have pb : (0 : Int) ≤ (wOf n b : Int) := by omega
  rw [hS] at wa wb
  clear hS
  unfold SizeB at c
  rcases h2 with rfl | rfl <;> rcases c with c1 | ⟨c1, c2⟩
  all_goals
    go_enter Try.func24, Try.ntmps24
    go_wp2_with fail
    refine (cut_c n a _ a0 a1).mono ?_
    rintro e w' ⟨rfl, rfl⟩
    go_wp2_with fail
    refine (cut_c n b _ b0 b1).mono ?_
    rintro e w' ⟨rfl, rfl⟩
    go_wp2_with fail
    refine (value n (wOf n a : Int) _).mono ?_
    rintro e w0 ⟨x, k, rfl, rfl, hx⟩
    have hx := val_cut hx a0
    go_wp2_with fail
    refine (value n (wOf n b : Int) _).mono ?_
    rintro e w1 ⟨y, k2, rfl, hw1, hy⟩
    have hy := val_cut hy b0
    have BW := Lib.hid (show Below w'.heap.size w' w1 from by rw [hw1]; exact below_drewN (below_n _) _)
    clear hw1
    go_wp2_with fail
    refine (sign_c n _).mono ?_
    rintro e w' ⟨rfl, rfl⟩
    rw [HS.out]
    clear hx hy
    generalize (wOf n a : Int) = A at *
    generalize (wOf n b : Int) = B at *
    go_wp2_with fail
    go_quiet (fail)
    go_wp2_with fail
    go_ret2
    first | exact ⟨⟨rfl, below_drewN BW.out _⟩⟩ | exact ⟨⟨ret2w (wrap2 A B wa wb pa pb), below_drewN BW.out _⟩⟩
theorem bin7 (n a b : Int) (w : World) (c : SizeB n) (a0 : 0 ≤ a) (a1 : a < 18446744073709551616) (b0 : 0 ≤ b) (b1 : b < 18446744073709551616) : Calls Try.prog 24 #[.int .i64 n, .int .i64 7, .int .u64 a, .int .u64 b] w (Pq ((wOf n a : Int) % sgnI n + (wOf n b : Int) - (wOf n b : Int) % sgnI n, 0) w) :=
  bin7s n a b w c a0 a1 b0 b1 _ rfl (by unfold sgnI; split <;> omega)
theorem bin8y (n a b : Int) (w : World) (c : SizeB n) (a0 : 0 ≤ a) (a1 : a < 18446744073709551616) (b0 : 0 ≤ b) (b1 : b < 18446744073709551616) (h : ordOf n b a = some .lt) : Calls Try.prog 24 #[.int .i64 n, .int .i64 8, .int .u64 a, .int .u64 b] w (Pq (wOf n b, 0) w) := by
  have H := Lib.hid h
  clear h
  unfold SizeB at c
  rcases c with c1 | ⟨c1, c2⟩
  all_goals
    go_enter Try.func24, Try.ntmps24
    go_wp2_with fail
    refine (cut_c n a _ a0 a1).mono ?_
    rintro e w' ⟨rfl, rfl⟩
    go_wp2_with fail
    refine (cut_c n b _ b0 b1).mono ?_
    rintro e w' ⟨rfl, rfl⟩
    go_wp2_with fail
    refine (value n (wOf n a : Int) _).mono ?_
    rintro e w0 ⟨x, k, rfl, rfl, hx⟩
    have hx := val_cut hx a0
    go_wp2_with fail
    refine (value n (wOf n b : Int) _).mono ?_
    rintro e w1 ⟨y, k2, rfl, hw1, hy⟩
    have hy := val_cut hy b0
    have BW := Lib.hid (show Below w'.heap.size w' w1 from by rw [hw1]; exact below_drewN (below_n _) _)
    clear hw1
    go_wp2_with fail
    refine (sign_c n _).mono ?_
    rintro e w' ⟨rfl, rfl⟩
    have L : (FloatKind.f64.format.order y x == some Ordering.lt) = true := by rw [show FloatKind.f64.format.order y x = _ from val_order hy hx, H.out]; rfl
    clear hx hy
    go_wp2_with fail
    go_ret2
    exact ⟨⟨rfl, BW.out⟩⟩
theorem bin8n (n a b : Int) (w : World) (c : SizeB n) (a0 : 0 ≤ a) (a1 : a < 18446744073709551616) (b0 : 0 ≤ b) (b1 : b < 18446744073709551616) (h : ordOf n b a ≠ some .lt) : Calls Try.prog 24 #[.int .i64 n, .int .i64 8, .int .u64 a, .int .u64 b] w (Pq (wOf n a, 0) w) := by
  have H := Lib.hid h
  clear h
  unfold SizeB at c
  rcases c with c1 | ⟨c1, c2⟩
  all_goals
    go_enter Try.func24, Try.ntmps24
    go_wp2_with fail
    refine (cut_c n a _ a0 a1).mono ?_
    rintro e w' ⟨rfl, rfl⟩
    go_wp2_with fail
    refine (cut_c n b _ b0 b1).mono ?_
    rintro e w' ⟨rfl, rfl⟩
    go_wp2_with fail
    refine (value n (wOf n a : Int) _).mono ?_
    rintro e w0 ⟨x, k, rfl, rfl, hx⟩
    have hx := val_cut hx a0
    go_wp2_with fail
    refine (value n (wOf n b : Int) _).mono ?_
    rintro e w1 ⟨y, k2, rfl, hw1, hy⟩
    have hy := val_cut hy b0
    have BW := Lib.hid (show Below w'.heap.size w' w1 from by rw [hw1]; exact below_drewN (below_n _) _)
    clear hw1
    go_wp2_with fail
    refine (sign_c n _).mono ?_
    rintro e w' ⟨rfl, rfl⟩
    have L : (FloatKind.f64.format.order y x == some Ordering.lt) = false := by rw [show FloatKind.f64.format.order y x = _ from val_order hy hx]; exact beq_eq_false_iff_ne.2 H.out
    clear hx hy
    go_wp2_with fail
    go_ret2
    exact ⟨⟨rfl, BW.out⟩⟩
theorem bin9y (n a b : Int) (w : World) (c : SizeB n) (a0 : 0 ≤ a) (a1 : a < 18446744073709551616) (b0 : 0 ≤ b) (b1 : b < 18446744073709551616) (h : ordOf n a b = some .lt) : Calls Try.prog 24 #[.int .i64 n, .int .i64 9, .int .u64 a, .int .u64 b] w (Pq (wOf n b, 0) w) := by
  have H := Lib.hid h
  clear h
  unfold SizeB at c
  rcases c with c1 | ⟨c1, c2⟩
  all_goals
    go_enter Try.func24, Try.ntmps24
    go_wp2_with fail
    refine (cut_c n a _ a0 a1).mono ?_
    rintro e w' ⟨rfl, rfl⟩
    go_wp2_with fail
    refine (cut_c n b _ b0 b1).mono ?_
    rintro e w' ⟨rfl, rfl⟩
    go_wp2_with fail
    refine (value n (wOf n a : Int) _).mono ?_
    rintro e w0 ⟨x, k, rfl, rfl, hx⟩
    have hx := val_cut hx a0
    go_wp2_with fail
    refine (value n (wOf n b : Int) _).mono ?_
    rintro e w1 ⟨y, k2, rfl, hw1, hy⟩
    have hy := val_cut hy b0
    have BW := Lib.hid (show Below w'.heap.size w' w1 from by rw [hw1]; exact below_drewN (below_n _) _)
    clear hw1
    go_wp2_with fail
    refine (sign_c n _).mono ?_
    rintro e w' ⟨rfl, rfl⟩
    have L : (FloatKind.f64.format.order x y == some Ordering.lt) = true := by rw [show FloatKind.f64.format.order x y = _ from val_order hx hy, H.out]; rfl
    clear hx hy
    go_wp2_with fail
    go_ret2
    exact ⟨⟨rfl, BW.out⟩⟩
theorem bin9n (n a b : Int) (w : World) (c : SizeB n) (a0 : 0 ≤ a) (a1 : a < 18446744073709551616) (b0 : 0 ≤ b) (b1 : b < 18446744073709551616) (h : ordOf n a b ≠ some .lt) : Calls Try.prog 24 #[.int .i64 n, .int .i64 9, .int .u64 a, .int .u64 b] w (Pq (wOf n a, 0) w) := by
  have H := Lib.hid h
  clear h
  unfold SizeB at c
  rcases c with c1 | ⟨c1, c2⟩
  all_goals
    go_enter Try.func24, Try.ntmps24
    go_wp2_with fail
    refine (cut_c n a _ a0 a1).mono ?_
    rintro e w' ⟨rfl, rfl⟩
    go_wp2_with fail
    refine (cut_c n b _ b0 b1).mono ?_
    rintro e w' ⟨rfl, rfl⟩
    go_wp2_with fail
    refine (value n (wOf n a : Int) _).mono ?_
    rintro e w0 ⟨x, k, rfl, rfl, hx⟩
    have hx := val_cut hx a0
    go_wp2_with fail
    refine (value n (wOf n b : Int) _).mono ?_
    rintro e w1 ⟨y, k2, rfl, hw1, hy⟩
    have hy := val_cut hy b0
    have BW := Lib.hid (show Below w'.heap.size w' w1 from by rw [hw1]; exact below_drewN (below_n _) _)
    clear hw1
    go_wp2_with fail
    refine (sign_c n _).mono ?_
    rintro e w' ⟨rfl, rfl⟩
    have L : (FloatKind.f64.format.order x y == some Ordering.lt) = false := by rw [show FloatKind.f64.format.order x y = _ from val_order hx hy]; exact beq_eq_false_iff_ne.2 H.out
    clear hx hy
    go_wp2_with fail
    go_ret2
    exact ⟨⟨rfl, BW.out⟩⟩
theorem bin_nan (n op a b : Int) (w : World) (c : SizeB n) (a0 : 0 ≤ a) (a1 : a < 18446744073709551616) (b0 : 0 ≤ b) (b1 : b < 18446744073709551616) (o1 : 1 ≤ op) (o2 : op ≤ 6) (hn : n = 32 ∨ n = 64)
    (h : (nanW (fmtOf n) (wOf n a) || nanW (fmtOf n) (wOf n b)) = true) : Calls Try.prog 24 #[.int .i64 n, .int .i64 op, .int .u64 a, .int .u64 b] w (Pq (canon n, 0) w) := by
  have C := Lib.hid hn
  have d7 : (op == 7) = false := beq_eq_false_iff_ne.2 (by omega)
  have d8 : (op == 8) = false := beq_eq_false_iff_ne.2 (by omega)
  have d9 : (op == 9) = false := beq_eq_false_iff_ne.2 (by omega)
  clear hn
  cases hA : nanW (fmtOf n) (wOf n a)
  · rw [hA, Bool.false_or] at h
    have HA := Lib.hid (of_decide_eq_false hA); have HB := Lib.hid (of_decide_eq_true h)
    clear hA h
    unfold SizeB at c
    rcases c with c1 | ⟨c1, c2⟩
    all_goals
      go_enter Try.func24, Try.ntmps24
      go_wp2_with fail
      refine (cut_c n a _ a0 a1).mono ?_
      rintro e w' ⟨rfl, rfl⟩
      go_wp2_with fail
      refine (cut_c n b _ b0 b1).mono ?_
      rintro e w' ⟨rfl, rfl⟩
      go_wp2_with fail
      refine (value n (wOf n a : Int) _).mono ?_
      rintro e w0 ⟨x, k, rfl, rfl, hx⟩
      have hx := val_cut hx a0
      go_wp2_with fail
      refine (value n (wOf n b : Int) _).mono ?_
      rintro e w1 ⟨y, k2, rfl, hw1, hy⟩
      have hy := val_cut hy b0
      have BW := Lib.hid (show Below w'.heap.size w' w1 from by rw [hw1]; exact below_drewN (below_n _) _)
      clear hw1
      go_wp2_with fail
      refine (sign_c n _).mono ?_
      rintro e w' ⟨rfl, rfl⟩
      have v1 := val_num hx (by have := HA.out; omega)
      have N1 : (FloatKind.f64.format.order x x != some Ordering.eq) = false := by rw [show FloatKind.f64.format.order x x = some .eq from order_self Ieee.double x bin_double v1.2.1]; rfl
      have N2 : (FloatKind.f64.format.order y y != some Ordering.eq) = true := by rw [show FloatKind.f64.format.order y y = none from order_nan Ieee.double y y bin_double (.inl (val_nan hy HB.out))]; rfl
      clear hx hy v1
      go_wp2_with fail
      refine (canon_c n _ C.out).mono ?_
      rintro e w' ⟨rfl, rfl⟩
      go_wp2_with fail
      go_ret2
      exact ⟨⟨rfl, BW.out⟩⟩
  · have HA := Lib.hid (of_decide_eq_true hA)
    clear hA h
    unfold SizeB at c
    rcases c with c1 | ⟨c1, c2⟩
    all_goals
      go_enter Try.func24, Try.ntmps24
      go_wp2_with fail
      refine (cut_c n a _ a0 a1).mono ?_
      rintro e w' ⟨rfl, rfl⟩
      go_wp2_with fail
      refine (cut_c n b _ b0 b1).mono ?_
      rintro e w' ⟨rfl, rfl⟩
      go_wp2_with fail
      refine (value n (wOf n a : Int) _).mono ?_
      rintro e w0 ⟨x, k, rfl, rfl, hx⟩
      have hx := val_cut hx a0
      go_wp2_with fail
      refine (value n (wOf n b : Int) _).mono ?_
      rintro e w1 ⟨y, k2, rfl, hw1, hy⟩
      have hy := val_cut hy b0
      have BW := Lib.hid (show Below w'.heap.size w' w1 from by rw [hw1]; exact below_drewN (below_n _) _)
      clear hw1
      go_wp2_with fail
      refine (sign_c n _).mono ?_
      rintro e w' ⟨rfl, rfl⟩
      have N1 : (FloatKind.f64.format.order x x != some Ordering.eq) = true := by rw [show FloatKind.f64.format.order x x = none from order_nan Ieee.double x x bin_double (.inl (val_nan hx HA.out))]; rfl
      clear hx hy
      go_wp2_with fail
      refine (canon_c n _ C.out).mono ?_
      rintro e w' ⟨rfl, rfl⟩
      go_wp2_with fail
      go_ret2
      exact ⟨⟨rfl, BW.out⟩⟩
theorem bin5zg (n a b : Int) (w : World) (c : SizeB n) (a0 : 0 ≤ a) (a1 : a < 18446744073709551616) (b0 : 0 ≤ b) (b1 : b < 18446744073709551616) (hA : ¬ (fmtOf n).infRung < rungOf (fmtOf n) (wOf n a)) (hB : ¬ (fmtOf n).infRung < rungOf (fmtOf n) (wOf n b))
    (z1 : rungOf (fmtOf n) (wOf n a) = 0) (z2 : rungOf (fmtOf n) (wOf n b) = 0) (hs : sgnI n ≤ (wOf n a : Int)) : Calls Try.prog 24 #[.int .i64 n, .int .i64 5, .int .u64 a, .int .u64 b] w (Pq (wOf n a, 0) w) := by
  have HA := Lib.hid hA; have HB := Lib.hid hB; have H1 := Lib.hid z1; have H2 := Lib.hid z2
  clear hA hB z1 z2
  unfold SizeB at c
  rcases c with c1 | ⟨c1, c2⟩
  all_goals
    go_enter Try.func24, Try.ntmps24
    go_wp2_with fail
    refine (cut_c n a _ a0 a1).mono ?_
    rintro e w' ⟨rfl, rfl⟩
    go_wp2_with fail
    refine (cut_c n b _ b0 b1).mono ?_
    rintro e w' ⟨rfl, rfl⟩
    go_wp2_with fail
    refine (value n (wOf n a : Int) _).mono ?_
    rintro e w0 ⟨x, k, rfl, rfl, hx⟩
    have hx := val_cut hx a0
    go_wp2_with fail
    refine (value n (wOf n b : Int) _).mono ?_
    rintro e w1 ⟨y, k2, rfl, hw1, hy⟩
    have hy := val_cut hy b0
    have BW := Lib.hid (show Below w'.heap.size w' w1 from by rw [hw1]; exact below_drewN (below_n _) _)
    clear hw1
    go_wp2_with fail
    refine (sign_c n _).mono ?_
    rintro e w' ⟨rfl, rfl⟩
    have v1 := val_num hx (by have := HA.out; omega)
    have v2 := val_num hy (by have := HB.out; omega)
    have N1 : (FloatKind.f64.format.order x x != some Ordering.eq) = false := by rw [show FloatKind.f64.format.order x x = some .eq from order_self Ieee.double x bin_double v1.2.1]; rfl
    have N2 : (FloatKind.f64.format.order y y != some Ordering.eq) = false := by rw [show FloatKind.f64.format.order y y = some .eq from order_self Ieee.double y bin_double v2.2.1]; rfl
    have sp := sg_pos n
    have wa := wOf_lt n a a0 a1
    have wb := wOf_lt n b b0 b1
    have pa : (0 : Int) ≤ (wOf n a : Int) := by omega
    have pb : (0 : Int) ≤ (wOf n b : Int) := by omega
    have Z1 : (FloatKind.f64.format.order x 0 == some Ordering.eq) = true := by rw [show (FloatKind.f64.format.order x 0 == some Ordering.eq) = _ from val_zero hx]; exact decide_eq_true H1.out
    have Z2 : (FloatKind.f64.format.order y 0 == some Ordering.eq) = true := by rw [show (FloatKind.f64.format.order y 0 == some Ordering.eq) = _ from val_zero hy]; exact decide_eq_true H2.out
    clear hx hy v1 v2
    generalize (wOf n a : Int) = A at *
    generalize (wOf n b : Int) = B at *
    generalize sgnI n = S at *
    have D : decide (S ≤ A) = true := decide_eq_true hs
    go_wp2_with fail
    go_ret2
    exact ⟨⟨rfl, BW.out⟩⟩
theorem bin5zl (n a b : Int) (w : World) (c : SizeB n) (a0 : 0 ≤ a) (a1 : a < 18446744073709551616) (b0 : 0 ≤ b) (b1 : b < 18446744073709551616) (hA : ¬ (fmtOf n).infRung < rungOf (fmtOf n) (wOf n a)) (hB : ¬ (fmtOf n).infRung < rungOf (fmtOf n) (wOf n b))
    (z1 : rungOf (fmtOf n) (wOf n a) = 0) (z2 : rungOf (fmtOf n) (wOf n b) = 0) (hs : (wOf n a : Int) < sgnI n) : Calls Try.prog 24 #[.int .i64 n, .int .i64 5, .int .u64 a, .int .u64 b] w (Pq (wOf n b, 0) w) := by
  have HA := Lib.hid hA; have HB := Lib.hid hB; have H1 := Lib.hid z1; have H2 := Lib.hid z2
  clear hA hB z1 z2
  unfold SizeB at c
  rcases c with c1 | ⟨c1, c2⟩
  all_goals
    go_enter Try.func24, Try.ntmps24
    go_wp2_with fail
    refine (cut_c n a _ a0 a1).mono ?_
    rintro e w' ⟨rfl, rfl⟩
    go_wp2_with fail
    refine (cut_c n b _ b0 b1).mono ?_
    rintro e w' ⟨rfl, rfl⟩
    go_wp2_with fail
    refine (value n (wOf n a : Int) _).mono ?_
    rintro e w0 ⟨x, k, rfl, rfl, hx⟩
    have hx := val_cut hx a0
    go_wp2_with fail
    refine (value n (wOf n b : Int) _).mono ?_
    rintro e w1 ⟨y, k2, rfl, hw1, hy⟩
    have hy := val_cut hy b0
    have BW := Lib.hid (show Below w'.heap.size w' w1 from by rw [hw1]; exact below_drewN (below_n _) _)
    clear hw1
    go_wp2_with fail
    refine (sign_c n _).mono ?_
    rintro e w' ⟨rfl, rfl⟩
    have v1 := val_num hx (by have := HA.out; omega)
    have v2 := val_num hy (by have := HB.out; omega)
    have N1 : (FloatKind.f64.format.order x x != some Ordering.eq) = false := by rw [show FloatKind.f64.format.order x x = some .eq from order_self Ieee.double x bin_double v1.2.1]; rfl
    have N2 : (FloatKind.f64.format.order y y != some Ordering.eq) = false := by rw [show FloatKind.f64.format.order y y = some .eq from order_self Ieee.double y bin_double v2.2.1]; rfl
    have sp := sg_pos n
    have wa := wOf_lt n a a0 a1
    have wb := wOf_lt n b b0 b1
    have pa : (0 : Int) ≤ (wOf n a : Int) := by omega
    have pb : (0 : Int) ≤ (wOf n b : Int) := by omega
    have Z1 : (FloatKind.f64.format.order x 0 == some Ordering.eq) = true := by rw [show (FloatKind.f64.format.order x 0 == some Ordering.eq) = _ from val_zero hx]; exact decide_eq_true H1.out
    have Z2 : (FloatKind.f64.format.order y 0 == some Ordering.eq) = true := by rw [show (FloatKind.f64.format.order y 0 == some Ordering.eq) = _ from val_zero hy]; exact decide_eq_true H2.out
    clear hx hy v1 v2
    generalize (wOf n a : Int) = A at *
    generalize (wOf n b : Int) = B at *
    generalize sgnI n = S at *
    have D : decide (S ≤ A) = false := decide_eq_false (by omega)
    go_wp2_with fail
    go_ret2
    exact ⟨⟨rfl, BW.out⟩⟩
theorem bin5l (n a b : Int) (w : World) (c : SizeB n) (a0 : 0 ≤ a) (a1 : a < 18446744073709551616) (b0 : 0 ≤ b) (b1 : b < 18446744073709551616) (hA : ¬ (fmtOf n).infRung < rungOf (fmtOf n) (wOf n a)) (hB : ¬ (fmtOf n).infRung < rungOf (fmtOf n) (wOf n b))
    (zz : ¬ (rungOf (fmtOf n) (wOf n a) = 0 ∧ rungOf (fmtOf n) (wOf n b) = 0)) (h : ordOf n a b = some .lt) : Calls Try.prog 24 #[.int .i64 n, .int .i64 5, .int .u64 a, .int .u64 b] w (Pq (wOf n a, 0) w) := by
  have HA := Lib.hid hA; have HB := Lib.hid hB; have H := Lib.hid h
  clear hA hB h
  by_cases z1 : rungOf (fmtOf n) (wOf n a) = 0
  · have z2 : ¬ rungOf (fmtOf n) (wOf n b) = 0 := fun e => zz ⟨z1, e⟩
    have H1 := Lib.hid z1; have H2 := Lib.hid z2
    clear zz z1 z2
    unfold SizeB at c
    rcases c with c1 | ⟨c1, c2⟩
    all_goals
      go_enter Try.func24, Try.ntmps24
      go_wp2_with fail
      refine (cut_c n a _ a0 a1).mono ?_
      rintro e w' ⟨rfl, rfl⟩
      go_wp2_with fail
      refine (cut_c n b _ b0 b1).mono ?_
      rintro e w' ⟨rfl, rfl⟩
      go_wp2_with fail
      refine (value n (wOf n a : Int) _).mono ?_
      rintro e w0 ⟨x, k, rfl, rfl, hx⟩
      have hx := val_cut hx a0
      go_wp2_with fail
      refine (value n (wOf n b : Int) _).mono ?_
      rintro e w1 ⟨y, k2, rfl, hw1, hy⟩
      have hy := val_cut hy b0
      have BW := Lib.hid (show Below w'.heap.size w' w1 from by rw [hw1]; exact below_drewN (below_n _) _)
      clear hw1
      go_wp2_with fail
      refine (sign_c n _).mono ?_
      rintro e w' ⟨rfl, rfl⟩
      have v1 := val_num hx (by have := HA.out; omega)
      have v2 := val_num hy (by have := HB.out; omega)
      have N1 : (FloatKind.f64.format.order x x != some Ordering.eq) = false := by rw [show FloatKind.f64.format.order x x = some .eq from order_self Ieee.double x bin_double v1.2.1]; rfl
      have N2 : (FloatKind.f64.format.order y y != some Ordering.eq) = false := by rw [show FloatKind.f64.format.order y y = some .eq from order_self Ieee.double y bin_double v2.2.1]; rfl
      have sp := sg_pos n
      have wa := wOf_lt n a a0 a1
      have wb := wOf_lt n b b0 b1
      have pa : (0 : Int) ≤ (wOf n a : Int) := by omega
      have pb : (0 : Int) ≤ (wOf n b : Int) := by omega
      have Z1 : (FloatKind.f64.format.order x 0 == some Ordering.eq) = true := by rw [show (FloatKind.f64.format.order x 0 == some Ordering.eq) = _ from val_zero hx]; exact decide_eq_true H1.out
      have Z2 : (FloatKind.f64.format.order y 0 == some Ordering.eq) = false := by rw [show (FloatKind.f64.format.order y 0 == some Ordering.eq) = _ from val_zero hy]; exact decide_eq_false H2.out
      have L : (FloatKind.f64.format.order x y == some Ordering.lt) = true := by rw [show FloatKind.f64.format.order x y = _ from val_order hx hy, H.out]; rfl
      clear hx hy v1 v2
      go_wp2_with fail
      go_ret2
      exact ⟨⟨rfl, BW.out⟩⟩
  · have H1 := Lib.hid z1
    clear zz z1
    unfold SizeB at c
    rcases c with c1 | ⟨c1, c2⟩
    all_goals
      go_enter Try.func24, Try.ntmps24
      go_wp2_with fail
      refine (cut_c n a _ a0 a1).mono ?_
      rintro e w' ⟨rfl, rfl⟩
      go_wp2_with fail
      refine (cut_c n b _ b0 b1).mono ?_
      rintro e w' ⟨rfl, rfl⟩
      go_wp2_with fail
      refine (value n (wOf n a : Int) _).mono ?_
      rintro e w0 ⟨x, k, rfl, rfl, hx⟩
      have hx := val_cut hx a0
      go_wp2_with fail
      refine (value n (wOf n b : Int) _).mono ?_
      rintro e w1 ⟨y, k2, rfl, hw1, hy⟩
      have hy := val_cut hy b0
      have BW := Lib.hid (show Below w'.heap.size w' w1 from by rw [hw1]; exact below_drewN (below_n _) _)
      clear hw1
      go_wp2_with fail
      refine (sign_c n _).mono ?_
      rintro e w' ⟨rfl, rfl⟩
      have v1 := val_num hx (by have := HA.out; omega)
      have v2 := val_num hy (by have := HB.out; omega)
      have N1 : (FloatKind.f64.format.order x x != some Ordering.eq) = false := by rw [show FloatKind.f64.format.order x x = some .eq from order_self Ieee.double x bin_double v1.2.1]; rfl
      have N2 : (FloatKind.f64.format.order y y != some Ordering.eq) = false := by rw [show FloatKind.f64.format.order y y = some .eq from order_self Ieee.double y bin_double v2.2.1]; rfl
      have sp := sg_pos n
      have wa := wOf_lt n a a0 a1
      have wb := wOf_lt n b b0 b1
      have pa : (0 : Int) ≤ (wOf n a : Int) := by omega
      have pb : (0 : Int) ≤ (wOf n b : Int) := by omega
      have Z1 : (FloatKind.f64.format.order x 0 == some Ordering.eq) = false := by rw [show (FloatKind.f64.format.order x 0 == some Ordering.eq) = _ from val_zero hx]; exact decide_eq_false H1.out
      have L : (FloatKind.f64.format.order x y == some Ordering.lt) = true := by rw [show FloatKind.f64.format.order x y = _ from val_order hx hy, H.out]; rfl
      clear hx hy v1 v2
      go_wp2_with fail
      go_ret2
      exact ⟨⟨rfl, BW.out⟩⟩
theorem bin5g (n a b : Int) (w : World) (c : SizeB n) (a0 : 0 ≤ a) (a1 : a < 18446744073709551616) (b0 : 0 ≤ b) (b1 : b < 18446744073709551616) (hA : ¬ (fmtOf n).infRung < rungOf (fmtOf n) (wOf n a)) (hB : ¬ (fmtOf n).infRung < rungOf (fmtOf n) (wOf n b))
    (zz : ¬ (rungOf (fmtOf n) (wOf n a) = 0 ∧ rungOf (fmtOf n) (wOf n b) = 0)) (h : ordOf n a b ≠ some .lt) : Calls Try.prog 24 #[.int .i64 n, .int .i64 5, .int .u64 a, .int .u64 b] w (Pq (wOf n b, 0) w) := by
  have HA := Lib.hid hA; have HB := Lib.hid hB; have H := Lib.hid h
  clear hA hB h
  by_cases z1 : rungOf (fmtOf n) (wOf n a) = 0
  · have z2 : ¬ rungOf (fmtOf n) (wOf n b) = 0 := fun e => zz ⟨z1, e⟩
    have H1 := Lib.hid z1; have H2 := Lib.hid z2
    clear zz z1 z2
    unfold SizeB at c
    rcases c with c1 | ⟨c1, c2⟩
    all_goals
      go_enter Try.func24, Try.ntmps24
      go_wp2_with fail
      refine (cut_c n a _ a0 a1).mono ?_
      rintro e w' ⟨rfl, rfl⟩
      go_wp2_with fail
      refine (cut_c n b _ b0 b1).mono ?_
      rintro e w' ⟨rfl, rfl⟩
      go_wp2_with fail
      refine (value n (wOf n a : Int) _).mono ?_
      rintro e w0 ⟨x, k, rfl, rfl, hx⟩
      have hx := val_cut hx a0
      go_wp2_with fail
      refine (value n (wOf n b : Int) _).mono ?_
      rintro e w1 ⟨y, k2, rfl, hw1, hy⟩
      have hy := val_cut hy b0
      have BW := Lib.hid (show Below w'.heap.size w' w1 from by rw [hw1]; exact below_drewN (below_n _) _)
      clear hw1
      go_wp2_with fail
      refine (sign_c n _).mono ?_
      rintro e w' ⟨rfl, rfl⟩
      have v1 := val_num hx (by have := HA.out; omega)
      have v2 := val_num hy (by have := HB.out; omega)
      have N1 : (FloatKind.f64.format.order x x != some Ordering.eq) = false := by rw [show FloatKind.f64.format.order x x = some .eq from order_self Ieee.double x bin_double v1.2.1]; rfl
      have N2 : (FloatKind.f64.format.order y y != some Ordering.eq) = false := by rw [show FloatKind.f64.format.order y y = some .eq from order_self Ieee.double y bin_double v2.2.1]; rfl
      have sp := sg_pos n
      have wa := wOf_lt n a a0 a1
      have wb := wOf_lt n b b0 b1
      have pa : (0 : Int) ≤ (wOf n a : Int) := by omega
      have pb : (0 : Int) ≤ (wOf n b : Int) := by omega
      have Z1 : (FloatKind.f64.format.order x 0 == some Ordering.eq) = true := by rw [show (FloatKind.f64.format.order x 0 == some Ordering.eq) = _ from val_zero hx]; exact decide_eq_true H1.out
      have Z2 : (FloatKind.f64.format.order y 0 == some Ordering.eq) = false := by rw [show (FloatKind.f64.format.order y 0 == some Ordering.eq) = _ from val_zero hy]; exact decide_eq_false H2.out
      have L : (FloatKind.f64.format.order x y == some Ordering.lt) = false := by rw [show FloatKind.f64.format.order x y = _ from val_order hx hy]; exact beq_eq_false_iff_ne.2 H.out
      clear hx hy v1 v2
      go_wp2_with fail
      go_ret2
      exact ⟨⟨rfl, BW.out⟩⟩
  · have H1 := Lib.hid z1
    clear zz z1
    unfold SizeB at c
    rcases c with c1 | ⟨c1, c2⟩
    all_goals
      go_enter Try.func24, Try.ntmps24
      go_wp2_with fail
      refine (cut_c n a _ a0 a1).mono ?_
      rintro e w' ⟨rfl, rfl⟩
      go_wp2_with fail
      refine (cut_c n b _ b0 b1).mono ?_
      rintro e w' ⟨rfl, rfl⟩
      go_wp2_with fail
      refine (value n (wOf n a : Int) _).mono ?_
      rintro e w0 ⟨x, k, rfl, rfl, hx⟩
      have hx := val_cut hx a0
      go_wp2_with fail
      refine (value n (wOf n b : Int) _).mono ?_
      rintro e w1 ⟨y, k2, rfl, hw1, hy⟩
      have hy := val_cut hy b0
      have BW := Lib.hid (show Below w'.heap.size w' w1 from by rw [hw1]; exact below_drewN (below_n _) _)
      clear hw1
      go_wp2_with fail
      refine (sign_c n _).mono ?_
      rintro e w' ⟨rfl, rfl⟩
      have v1 := val_num hx (by have := HA.out; omega)
      have v2 := val_num hy (by have := HB.out; omega)
      have N1 : (FloatKind.f64.format.order x x != some Ordering.eq) = false := by rw [show FloatKind.f64.format.order x x = some .eq from order_self Ieee.double x bin_double v1.2.1]; rfl
      have N2 : (FloatKind.f64.format.order y y != some Ordering.eq) = false := by rw [show FloatKind.f64.format.order y y = some .eq from order_self Ieee.double y bin_double v2.2.1]; rfl
      have sp := sg_pos n
      have wa := wOf_lt n a a0 a1
      have wb := wOf_lt n b b0 b1
      have pa : (0 : Int) ≤ (wOf n a : Int) := by omega
      have pb : (0 : Int) ≤ (wOf n b : Int) := by omega
      have Z1 : (FloatKind.f64.format.order x 0 == some Ordering.eq) = false := by rw [show (FloatKind.f64.format.order x 0 == some Ordering.eq) = _ from val_zero hx]; exact decide_eq_false H1.out
      have L : (FloatKind.f64.format.order x y == some Ordering.lt) = false := by rw [show FloatKind.f64.format.order x y = _ from val_order hx hy]; exact beq_eq_false_iff_ne.2 H.out
      clear hx hy v1 v2
      go_wp2_with fail
      go_ret2
      exact ⟨⟨rfl, BW.out⟩⟩
theorem bin6zg (n a b : Int) (w : World) (c : SizeB n) (a0 : 0 ≤ a) (a1 : a < 18446744073709551616) (b0 : 0 ≤ b) (b1 : b < 18446744073709551616) (hA : ¬ (fmtOf n).infRung < rungOf (fmtOf n) (wOf n a)) (hB : ¬ (fmtOf n).infRung < rungOf (fmtOf n) (wOf n b))
    (z1 : rungOf (fmtOf n) (wOf n a) = 0) (z2 : rungOf (fmtOf n) (wOf n b) = 0) (hs : sgnI n ≤ (wOf n a : Int)) : Calls Try.prog 24 #[.int .i64 n, .int .i64 6, .int .u64 a, .int .u64 b] w (Pq (wOf n b, 0) w) := by
  have HA := Lib.hid hA; have HB := Lib.hid hB; have H1 := Lib.hid z1; have H2 := Lib.hid z2
  clear hA hB z1 z2
  unfold SizeB at c
  rcases c with c1 | ⟨c1, c2⟩
  all_goals
    go_enter Try.func24, Try.ntmps24
    go_wp2_with fail
    refine (cut_c n a _ a0 a1).mono ?_
    rintro e w' ⟨rfl, rfl⟩
    go_wp2_with fail
    refine (cut_c n b _ b0 b1).mono ?_
    rintro e w' ⟨rfl, rfl⟩
    go_wp2_with fail
    refine (value n (wOf n a : Int) _).mono ?_
    rintro e w0 ⟨x, k, rfl, rfl, hx⟩
    have hx := val_cut hx a0
    go_wp2_with fail
    refine (value n (wOf n b : Int) _).mono ?_
    rintro e w1 ⟨y, k2, rfl, hw1, hy⟩
    have hy := val_cut hy b0
    have BW := Lib.hid (show Below w'.heap.size w' w1 from by rw [hw1]; exact below_drewN (below_n _) _)
    clear hw1
    go_wp2_with fail
    refine (sign_c n _).mono ?_
    rintro e w' ⟨rfl, rfl⟩
    have v1 := val_num hx (by have := HA.out; omega)
    have v2 := val_num hy (by have := HB.out; omega)
    have N1 : (FloatKind.f64.format.order x x != some Ordering.eq) = false := by rw [show FloatKind.f64.format.order x x = some .eq from order_self Ieee.double x bin_double v1.2.1]; rfl
    have N2 : (FloatKind.f64.format.order y y != some Ordering.eq) = false := by rw [show FloatKind.f64.format.order y y = some .eq from order_self Ieee.double y bin_double v2.2.1]; rfl
    have sp := sg_pos n
    have wa := wOf_lt n a a0 a1
    have wb := wOf_lt n b b0 b1
    have pa : (0 : Int) ≤ (wOf n a : Int) := by omega
    have pb : (0 : Int) ≤ (wOf n b : Int) := by omega
    have Z1 : (FloatKind.f64.format.order x 0 == some Ordering.eq) = true := by rw [show (FloatKind.f64.format.order x 0 == some Ordering.eq) = _ from val_zero hx]; exact decide_eq_true H1.out
    have Z2 : (FloatKind.f64.format.order y 0 == some Ordering.eq) = true := by rw [show (FloatKind.f64.format.order y 0 == some Ordering.eq) = _ from val_zero hy]; exact decide_eq_true H2.out
    clear hx hy v1 v2
    generalize (wOf n a : Int) = A at *
    generalize (wOf n b : Int) = B at *
    generalize sgnI n = S at *
    have D : decide (S ≤ A) = true := decide_eq_true hs
    go_wp2_with fail
    go_ret2
    exact ⟨⟨rfl, BW.out⟩⟩
theorem bin6zl (n a b : Int) (w : World) (c : SizeB n) (a0 : 0 ≤ a) (a1 : a < 18446744073709551616) (b0 : 0 ≤ b) (b1 : b < 18446744073709551616) (hA : ¬ (fmtOf n).infRung < rungOf (fmtOf n) (wOf n a)) (hB : ¬ (fmtOf n).infRung < rungOf (fmtOf n) (wOf n b))
    (z1 : rungOf (fmtOf n) (wOf n a) = 0) (z2 : rungOf (fmtOf n) (wOf n b) = 0) (hs : (wOf n a : Int) < sgnI n) : Calls Try.prog 24 #[.int .i64 n, .int .i64 6, .int .u64 a, .int .u64 b] w (Pq (wOf n a, 0) w) := by
  have HA := Lib.hid hA; have HB := Lib.hid hB; have H1 := Lib.hid z1; have H2 := Lib.hid z2
  clear hA hB z1 z2
  unfold SizeB at c
  rcases c with c1 | ⟨c1, c2⟩
  all_goals
    go_enter Try.func24, Try.ntmps24
    go_wp2_with fail
    refine (cut_c n a _ a0 a1).mono ?_
    rintro e w' ⟨rfl, rfl⟩
    go_wp2_with fail
    refine (cut_c n b _ b0 b1).mono ?_
    rintro e w' ⟨rfl, rfl⟩
    go_wp2_with fail
    refine (value n (wOf n a : Int) _).mono ?_
    rintro e w0 ⟨x, k, rfl, rfl, hx⟩
    have hx := val_cut hx a0
    go_wp2_with fail
    refine (value n (wOf n b : Int) _).mono ?_
    rintro e w1 ⟨y, k2, rfl, hw1, hy⟩
    have hy := val_cut hy b0
    have BW := Lib.hid (show Below w'.heap.size w' w1 from by rw [hw1]; exact below_drewN (below_n _) _)
    clear hw1
    go_wp2_with fail
    refine (sign_c n _).mono ?_
    rintro e w' ⟨rfl, rfl⟩
    have v1 := val_num hx (by have := HA.out; omega)
    have v2 := val_num hy (by have := HB.out; omega)
    have N1 : (FloatKind.f64.format.order x x != some Ordering.eq) = false := by rw [show FloatKind.f64.format.order x x = some .eq from order_self Ieee.double x bin_double v1.2.1]; rfl
    have N2 : (FloatKind.f64.format.order y y != some Ordering.eq) = false := by rw [show FloatKind.f64.format.order y y = some .eq from order_self Ieee.double y bin_double v2.2.1]; rfl
    have sp := sg_pos n
    have wa := wOf_lt n a a0 a1
    have wb := wOf_lt n b b0 b1
    have pa : (0 : Int) ≤ (wOf n a : Int) := by omega
    have pb : (0 : Int) ≤ (wOf n b : Int) := by omega
    have Z1 : (FloatKind.f64.format.order x 0 == some Ordering.eq) = true := by rw [show (FloatKind.f64.format.order x 0 == some Ordering.eq) = _ from val_zero hx]; exact decide_eq_true H1.out
    have Z2 : (FloatKind.f64.format.order y 0 == some Ordering.eq) = true := by rw [show (FloatKind.f64.format.order y 0 == some Ordering.eq) = _ from val_zero hy]; exact decide_eq_true H2.out
    clear hx hy v1 v2
    generalize (wOf n a : Int) = A at *
    generalize (wOf n b : Int) = B at *
    generalize sgnI n = S at *
    have D : decide (S ≤ A) = false := decide_eq_false (by omega)
    go_wp2_with fail
    go_ret2
    exact ⟨⟨rfl, BW.out⟩⟩
theorem bin6l (n a b : Int) (w : World) (c : SizeB n) (a0 : 0 ≤ a) (a1 : a < 18446744073709551616) (b0 : 0 ≤ b) (b1 : b < 18446744073709551616) (hA : ¬ (fmtOf n).infRung < rungOf (fmtOf n) (wOf n a)) (hB : ¬ (fmtOf n).infRung < rungOf (fmtOf n) (wOf n b))
    (zz : ¬ (rungOf (fmtOf n) (wOf n a) = 0 ∧ rungOf (fmtOf n) (wOf n b) = 0)) (h : ordOf n a b = some .lt) : Calls Try.prog 24 #[.int .i64 n, .int .i64 6, .int .u64 a, .int .u64 b] w (Pq (wOf n b, 0) w) := by
  have HA := Lib.hid hA; have HB := Lib.hid hB; have H := Lib.hid h
  clear hA hB h
  by_cases z1 : rungOf (fmtOf n) (wOf n a) = 0
  · have z2 : ¬ rungOf (fmtOf n) (wOf n b) = 0 := fun e => zz ⟨z1, e⟩
    have H1 := Lib.hid z1; have H2 := Lib.hid z2
    clear zz z1 z2
    unfold SizeB at c
    rcases c with c1 | ⟨c1, c2⟩
    all_goals
      go_enter Try.func24, Try.ntmps24
      go_wp2_with fail
      refine (cut_c n a _ a0 a1).mono ?_
      rintro e w' ⟨rfl, rfl⟩
      go_wp2_with fail
      refine (cut_c n b _ b0 b1).mono ?_
      rintro e w' ⟨rfl, rfl⟩
      go_wp2_with fail
      refine (value n (wOf n a : Int) _).mono ?_
      rintro e w0 ⟨x, k, rfl, rfl, hx⟩
      have hx := val_cut hx a0
      go_wp2_with fail
      refine (value n (wOf n b : Int) _).mono ?_
      rintro e w1 ⟨y, k2, rfl, hw1, hy⟩
      have hy := val_cut hy b0
      have BW := Lib.hid (show Below w'.heap.size w' w1 from by rw [hw1]; exact below_drewN (below_n _) _)
      clear hw1
      go_wp2_with fail
      refine (sign_c n _).mono ?_
      rintro e w' ⟨rfl, rfl⟩
      have v1 := val_num hx (by have := HA.out; omega)
      have v2 := val_num hy (by have := HB.out; omega)
      have N1 : (FloatKind.f64.format.order x x != some Ordering.eq) = false := by rw [show FloatKind.f64.format.order x x = some .eq from order_self Ieee.double x bin_double v1.2.1]; rfl
      have N2 : (FloatKind.f64.format.order y y != some Ordering.eq) = false := by rw [show FloatKind.f64.format.order y y = some .eq from order_self Ieee.double y bin_double v2.2.1]; rfl
      have sp := sg_pos n
      have wa := wOf_lt n a a0 a1
      have wb := wOf_lt n b b0 b1
      have pa : (0 : Int) ≤ (wOf n a : Int) := by omega
      have pb : (0 : Int) ≤ (wOf n b : Int) := by omega
      have Z1 : (FloatKind.f64.format.order x 0 == some Ordering.eq) = true := by rw [show (FloatKind.f64.format.order x 0 == some Ordering.eq) = _ from val_zero hx]; exact decide_eq_true H1.out
      have Z2 : (FloatKind.f64.format.order y 0 == some Ordering.eq) = false := by rw [show (FloatKind.f64.format.order y 0 == some Ordering.eq) = _ from val_zero hy]; exact decide_eq_false H2.out
      have L : (FloatKind.f64.format.order x y == some Ordering.lt) = true := by rw [show FloatKind.f64.format.order x y = _ from val_order hx hy, H.out]; rfl
      clear hx hy v1 v2
      go_wp2_with fail
      go_ret2
      exact ⟨⟨rfl, BW.out⟩⟩
  · have H1 := Lib.hid z1
    clear zz z1
    unfold SizeB at c
    rcases c with c1 | ⟨c1, c2⟩
    all_goals
      go_enter Try.func24, Try.ntmps24
      go_wp2_with fail
      refine (cut_c n a _ a0 a1).mono ?_
      rintro e w' ⟨rfl, rfl⟩
      go_wp2_with fail
      refine (cut_c n b _ b0 b1).mono ?_
      rintro e w' ⟨rfl, rfl⟩
      go_wp2_with fail
      refine (value n (wOf n a : Int) _).mono ?_
      rintro e w0 ⟨x, k, rfl, rfl, hx⟩
      have hx := val_cut hx a0
      go_wp2_with fail
      refine (value n (wOf n b : Int) _).mono ?_
      rintro e w1 ⟨y, k2, rfl, hw1, hy⟩
      have hy := val_cut hy b0
      have BW := Lib.hid (show Below w'.heap.size w' w1 from by rw [hw1]; exact below_drewN (below_n _) _)
      clear hw1
      go_wp2_with fail
      refine (sign_c n _).mono ?_
      rintro e w' ⟨rfl, rfl⟩
      have v1 := val_num hx (by have := HA.out; omega)
      have v2 := val_num hy (by have := HB.out; omega)
      have N1 : (FloatKind.f64.format.order x x != some Ordering.eq) = false := by rw [show FloatKind.f64.format.order x x = some .eq from order_self Ieee.double x bin_double v1.2.1]; rfl
      have N2 : (FloatKind.f64.format.order y y != some Ordering.eq) = false := by rw [show FloatKind.f64.format.order y y = some .eq from order_self Ieee.double y bin_double v2.2.1]; rfl
      have sp := sg_pos n
      have wa := wOf_lt n a a0 a1
      have wb := wOf_lt n b b0 b1
      have pa : (0 : Int) ≤ (wOf n a : Int) := by omega
      have pb : (0 : Int) ≤ (wOf n b : Int) := by omega
      have Z1 : (FloatKind.f64.format.order x 0 == some Ordering.eq) = false := by rw [show (FloatKind.f64.format.order x 0 == some Ordering.eq) = _ from val_zero hx]; exact decide_eq_false H1.out
      have L : (FloatKind.f64.format.order x y == some Ordering.lt) = true := by rw [show FloatKind.f64.format.order x y = _ from val_order hx hy, H.out]; rfl
      clear hx hy v1 v2
      go_wp2_with fail
      go_ret2
      exact ⟨⟨rfl, BW.out⟩⟩
theorem bin6g (n a b : Int) (w : World) (c : SizeB n) (a0 : 0 ≤ a) (a1 : a < 18446744073709551616) (b0 : 0 ≤ b) (b1 : b < 18446744073709551616) (hA : ¬ (fmtOf n).infRung < rungOf (fmtOf n) (wOf n a)) (hB : ¬ (fmtOf n).infRung < rungOf (fmtOf n) (wOf n b))
    (zz : ¬ (rungOf (fmtOf n) (wOf n a) = 0 ∧ rungOf (fmtOf n) (wOf n b) = 0)) (h : ordOf n a b ≠ some .lt) : Calls Try.prog 24 #[.int .i64 n, .int .i64 6, .int .u64 a, .int .u64 b] w (Pq (wOf n a, 0) w) := by
  have HA := Lib.hid hA; have HB := Lib.hid hB; have H := Lib.hid h
  clear hA hB h
  by_cases z1 : rungOf (fmtOf n) (wOf n a) = 0
  · have z2 : ¬ rungOf (fmtOf n) (wOf n b) = 0 := fun e => zz ⟨z1, e⟩
    have H1 := Lib.hid z1; have H2 := Lib.hid z2
    clear zz z1 z2
    unfold SizeB at c
    rcases c with c1 | ⟨c1, c2⟩
    all_goals
      go_enter Try.func24, Try.ntmps24
      go_wp2_with fail
      refine (cut_c n a _ a0 a1).mono ?_
      rintro e w' ⟨rfl, rfl⟩
      go_wp2_with fail
      refine (cut_c n b _ b0 b1).mono ?_
      rintro e w' ⟨rfl, rfl⟩
      go_wp2_with fail
      refine (value n (wOf n a : Int) _).mono ?_
      rintro e w0 ⟨x, k, rfl, rfl, hx⟩
      have hx := val_cut hx a0
      go_wp2_with fail
      refine (value n (wOf n b : Int) _).mono ?_
      rintro e w1 ⟨y, k2, rfl, hw1, hy⟩
      have hy := val_cut hy b0
      have BW := Lib.hid (show Below w'.heap.size w' w1 from by rw [hw1]; exact below_drewN (below_n _) _)
      clear hw1
      go_wp2_with fail
      refine (sign_c n _).mono ?_
      rintro e w' ⟨rfl, rfl⟩
      have v1 := val_num hx (by have := HA.out; omega)
      have v2 := val_num hy (by have := HB.out; omega)
      have N1 : (FloatKind.f64.format.order x x != some Ordering.eq) = false := by rw [show FloatKind.f64.format.order x x = some .eq from order_self Ieee.double x bin_double v1.2.1]; rfl
      have N2 : (FloatKind.f64.format.order y y != some Ordering.eq) = false := by rw [show FloatKind.f64.format.order y y = some .eq from order_self Ieee.double y bin_double v2.2.1]; rfl
      have sp := sg_pos n
      have wa := wOf_lt n a a0 a1
      have wb := wOf_lt n b b0 b1
      have pa : (0 : Int) ≤ (wOf n a : Int) := by omega
      have pb : (0 : Int) ≤ (wOf n b : Int) := by omega
      have Z1 : (FloatKind.f64.format.order x 0 == some Ordering.eq) = true := by rw [show (FloatKind.f64.format.order x 0 == some Ordering.eq) = _ from val_zero hx]; exact decide_eq_true H1.out
      have Z2 : (FloatKind.f64.format.order y 0 == some Ordering.eq) = false := by rw [show (FloatKind.f64.format.order y 0 == some Ordering.eq) = _ from val_zero hy]; exact decide_eq_false H2.out
      have L : (FloatKind.f64.format.order x y == some Ordering.lt) = false := by rw [show FloatKind.f64.format.order x y = _ from val_order hx hy]; exact beq_eq_false_iff_ne.2 H.out
      clear hx hy v1 v2
      go_wp2_with fail
      go_ret2
      exact ⟨⟨rfl, BW.out⟩⟩
  · have H1 := Lib.hid z1
    clear zz z1
    unfold SizeB at c
    rcases c with c1 | ⟨c1, c2⟩
    all_goals
      go_enter Try.func24, Try.ntmps24
      go_wp2_with fail
      refine (cut_c n a _ a0 a1).mono ?_
      rintro e w' ⟨rfl, rfl⟩
      go_wp2_with fail
      refine (cut_c n b _ b0 b1).mono ?_
      rintro e w' ⟨rfl, rfl⟩
      go_wp2_with fail
      refine (value n (wOf n a : Int) _).mono ?_
      rintro e w0 ⟨x, k, rfl, rfl, hx⟩
      have hx := val_cut hx a0
      go_wp2_with fail
      refine (value n (wOf n b : Int) _).mono ?_
      rintro e w1 ⟨y, k2, rfl, hw1, hy⟩
      have hy := val_cut hy b0
      have BW := Lib.hid (show Below w'.heap.size w' w1 from by rw [hw1]; exact below_drewN (below_n _) _)
      clear hw1
      go_wp2_with fail
      refine (sign_c n _).mono ?_
      rintro e w' ⟨rfl, rfl⟩
      have v1 := val_num hx (by have := HA.out; omega)
      have v2 := val_num hy (by have := HB.out; omega)
      have N1 : (FloatKind.f64.format.order x x != some Ordering.eq) = false := by rw [show FloatKind.f64.format.order x x = some .eq from order_self Ieee.double x bin_double v1.2.1]; rfl
      have N2 : (FloatKind.f64.format.order y y != some Ordering.eq) = false := by rw [show FloatKind.f64.format.order y y = some .eq from order_self Ieee.double y bin_double v2.2.1]; rfl
      have sp := sg_pos n
      have wa := wOf_lt n a a0 a1
      have wb := wOf_lt n b b0 b1
      have pa : (0 : Int) ≤ (wOf n a : Int) := by omega
      have pb : (0 : Int) ≤ (wOf n b : Int) := by omega
      have Z1 : (FloatKind.f64.format.order x 0 == some Ordering.eq) = false := by rw [show (FloatKind.f64.format.order x 0 == some Ordering.eq) = _ from val_zero hx]; exact decide_eq_false H1.out
      have L : (FloatKind.f64.format.order x y == some Ordering.lt) = false := by rw [show FloatKind.f64.format.order x y = _ from val_order hx hy]; exact beq_eq_false_iff_ne.2 H.out
      clear hx hy v1 v2
      go_wp2_with fail
      go_ret2
      exact ⟨⟨rfl, BW.out⟩⟩
theorem s32_cut (a : Int) : s32 (wOf 32 a : Int) = s32 a := wOf_idem 32 a
theorem val64 {a : Int} {x : Nat} (h : Val 64 a x) : x = a.toNat := by unfold Val at h; rw [if_neg (by decide)] at h; exact h
theorem bin1_64 (a b : Int) (w : World) (a0 : 0 ≤ a) (a1 : a < 18446744073709551616) (b0 : 0 ≤ b) (b1 : b < 18446744073709551616) (hA : ¬ (fmtOf 64).infRung < rungOf (fmtOf 64) (wOf 64 a)) (hB : ¬ (fmtOf 64).infRung < rungOf (fmtOf 64) (wOf 64 b)) :
    Calls Try.prog 24 #[.int .i64 64, .int .i64 1, .int .u64 a, .int .u64 b] w (Pq (resOf 64 (floatBits .add .f64 a.toNat b.toNat), 0) w) := by
  have HA := Lib.hid hA; have HB := Lib.hid hB
  clear hA hB
  go_enter Try.func24, Try.ntmps24
  go_wp2_with fail
  refine (cut_c 64 a _ a0 a1).mono ?_
  rintro e w' ⟨rfl, rfl⟩
  go_wp2_with fail
  refine (cut_c 64 b _ b0 b1).mono ?_
  rintro e w' ⟨rfl, rfl⟩
  go_wp2_with fail
  refine (value 64 (wOf 64 a : Int) _).mono ?_
  rintro e w0 ⟨x, k, rfl, rfl, hx⟩
  have hx := val_cut hx a0
  go_wp2_with fail
  refine (value 64 (wOf 64 b : Int) _).mono ?_
  rintro e w1 ⟨y, k2, rfl, hw1, hy⟩
  have hy := val_cut hy b0
  have BW := Lib.hid (show Below w'.heap.size w' w1 from by rw [hw1]; exact below_drewN (below_n _) _)
  clear hw1
  go_wp2_with fail
  refine (sign_c 64 _).mono ?_
  rintro e w' ⟨rfl, rfl⟩
  have v1 := val_num hx (by have := HA.out; omega)
  have v2 := val_num hy (by have := HB.out; omega)
  have N1 : (FloatKind.f64.format.order x x != some Ordering.eq) = false := by rw [show FloatKind.f64.format.order x x = some .eq from order_self Ieee.double x bin_double v1.2.1]; rfl
  have N2 : (FloatKind.f64.format.order y y != some Ordering.eq) = false := by rw [show FloatKind.f64.format.order y y = some .eq from order_self Ieee.double y bin_double v2.2.1]; rfl
  have ex := Lib.hid (val64 hx)
  have ey := Lib.hid (val64 hy)
  clear hx hy v1 v2
  go_wp2_with fail
  refine (worked 1 x y _).mono ?_
  rintro e w' ⟨⟨r, d, rfl, rfl, y1, y2⟩⟩
  rw [show opOf 1 = .add from rfl, ex.out, ey.out] at y1 y2
  cases m : floatBits .add .f64 a.toNat b.toNat with
  | none =>
    have hn := order_nan Ieee.double r r bin_double (.inl (y2 m))
    have M := Lib.hid m
    clear m y1 y2
    go_wp2_with fail
    refine (B64_nan _ hn _).mono ?_
    rintro e w' ⟨rfl, rfl⟩
    go_wp2_with fail
    go_ret2
    exact ⟨⟨by rw [M.out]; rfl, below_drewN BW.out _⟩⟩
  | some q =>
    obtain rfl := y1 q m
    have hn := order_self Ieee.double r bin_double (bits_ok .add .f64 _ _ r m).1
    have M := Lib.hid m
    clear m y1 y2
    go_wp2_with fail
    refine (B64_num _ hn _).mono ?_
    rintro e w' ⟨rfl, rfl⟩
    go_wp2_with fail
    go_ret2
    exact ⟨⟨by rw [M.out]; rfl, below_drewN BW.out _⟩⟩
theorem bin1_32 (a b : Int) (w : World) (a0 : 0 ≤ a) (a1 : a < 18446744073709551616) (b0 : 0 ≤ b) (b1 : b < 18446744073709551616) (hA : ¬ (fmtOf 32).infRung < rungOf (fmtOf 32) (wOf 32 a)) (hB : ¬ (fmtOf 32).infRung < rungOf (fmtOf 32) (wOf 32 b)) :
    Calls Try.prog 24 #[.int .i64 32, .int .i64 1, .int .u64 a, .int .u64 b] w (Pq (resOf 32 (floatBits .add .f32 (s32 a) (s32 b)), 0) w) := by
  have HA := Lib.hid hA; have HB := Lib.hid hB
  clear hA hB
  go_enter Try.func24, Try.ntmps24
  go_wp2_with fail
  refine (cut_c 32 a _ a0 a1).mono ?_
  rintro e w' ⟨rfl, rfl⟩
  go_wp2_with fail
  refine (cut_c 32 b _ b0 b1).mono ?_
  rintro e w' ⟨rfl, rfl⟩
  go_wp2_with fail
  refine (value 32 (wOf 32 a : Int) _).mono ?_
  rintro e w0 ⟨x, k, rfl, rfl, hx⟩
  have hx := val_cut hx a0
  go_wp2_with fail
  refine (value 32 (wOf 32 b : Int) _).mono ?_
  rintro e w1 ⟨y, k2, rfl, hw1, hy⟩
  have hy := val_cut hy b0
  have BW := Lib.hid (show Below w'.heap.size w' w1 from by rw [hw1]; exact below_drewN (below_n _) _)
  clear hw1
  go_wp2_with fail
  refine (sign_c 32 _).mono ?_
  rintro e w' ⟨rfl, rfl⟩
  have v1 := val_num hx (by have := HA.out; omega)
  have v2 := val_num hy (by have := HB.out; omega)
  have N1 : (FloatKind.f64.format.order x x != some Ordering.eq) = false := by rw [show FloatKind.f64.format.order x x = some .eq from order_self Ieee.double x bin_double v1.2.1]; rfl
  have N2 : (FloatKind.f64.format.order y y != some Ordering.eq) = false := by rw [show FloatKind.f64.format.order y y = some .eq from order_self Ieee.double y bin_double v2.2.1]; rfl
  clear hx hy v1 v2
  go_wp2_with fail
  refine (F32 _ _).mono ?_
  rintro e w' ⟨rfl, rfl⟩
  go_wp2_with fail
  refine (F32 _ _).mono ?_
  rintro e w' ⟨rfl, rfl⟩
  rw [s32_cut, s32_cut]
  cases m : floatBits .add .f32 (s32 a) (s32 b) with
  | none =>
    have S := fun t w => run_float_nan .add (by decide) t .f32 _ _ m w
    have M := Lib.hid m
    clear m
    go_wp2_with fail
    refine (B32_nan _ (order_nan Ieee.single _ _ bin_single (.inl (nanB_32 _ _ _))) _).mono ?_
    rintro e w' ⟨rfl, rfl⟩
    go_wp2_with fail
    go_ret2
    exact ⟨⟨by rw [M.out]; rfl, below_drewN BW.out 1⟩⟩
  | some q =>
    have S := fun t w => run_float_arith (P := Try.prog) w .add t .f32 _ _ q m
    have ok := bits_ok .add .f32 _ _ q m
    have hn := order_self Ieee.single q bin_single ok.1
    have hq : q < 4294967296 := ok.2
    have M := Lib.hid m
    clear m ok
    go_wp2_with fail
    refine (B32_num _ hn hq _).mono ?_
    rintro e w' ⟨rfl, rfl⟩
    go_wp2_with fail
    go_ret2
    exact ⟨⟨by rw [M.out]; rfl, BW.out⟩⟩
theorem bin2_64 (a b : Int) (w : World) (a0 : 0 ≤ a) (a1 : a < 18446744073709551616) (b0 : 0 ≤ b) (b1 : b < 18446744073709551616) (hA : ¬ (fmtOf 64).infRung < rungOf (fmtOf 64) (wOf 64 a)) (hB : ¬ (fmtOf 64).infRung < rungOf (fmtOf 64) (wOf 64 b)) :
    Calls Try.prog 24 #[.int .i64 64, .int .i64 2, .int .u64 a, .int .u64 b] w (Pq (resOf 64 (floatBits .sub .f64 a.toNat b.toNat), 0) w) := by
  have HA := Lib.hid hA; have HB := Lib.hid hB
  clear hA hB
  go_enter Try.func24, Try.ntmps24
  go_wp2_with fail
  refine (cut_c 64 a _ a0 a1).mono ?_
  rintro e w' ⟨rfl, rfl⟩
  go_wp2_with fail
  refine (cut_c 64 b _ b0 b1).mono ?_
  rintro e w' ⟨rfl, rfl⟩
  go_wp2_with fail
  refine (value 64 (wOf 64 a : Int) _).mono ?_
  rintro e w0 ⟨x, k, rfl, rfl, hx⟩
  have hx := val_cut hx a0
  go_wp2_with fail
  refine (value 64 (wOf 64 b : Int) _).mono ?_
  rintro e w1 ⟨y, k2, rfl, hw1, hy⟩
  have hy := val_cut hy b0
  have BW := Lib.hid (show Below w'.heap.size w' w1 from by rw [hw1]; exact below_drewN (below_n _) _)
  clear hw1
  go_wp2_with fail
  refine (sign_c 64 _).mono ?_
  rintro e w' ⟨rfl, rfl⟩
  have v1 := val_num hx (by have := HA.out; omega)
  have v2 := val_num hy (by have := HB.out; omega)
  have N1 : (FloatKind.f64.format.order x x != some Ordering.eq) = false := by rw [show FloatKind.f64.format.order x x = some .eq from order_self Ieee.double x bin_double v1.2.1]; rfl
  have N2 : (FloatKind.f64.format.order y y != some Ordering.eq) = false := by rw [show FloatKind.f64.format.order y y = some .eq from order_self Ieee.double y bin_double v2.2.1]; rfl
  have ex := Lib.hid (val64 hx)
  have ey := Lib.hid (val64 hy)
  clear hx hy v1 v2
  go_wp2_with fail
  refine (worked 2 x y _).mono ?_
  rintro e w' ⟨⟨r, d, rfl, rfl, y1, y2⟩⟩
  rw [show opOf 2 = .sub from rfl, ex.out, ey.out] at y1 y2
  cases m : floatBits .sub .f64 a.toNat b.toNat with
  | none =>
    have hn := order_nan Ieee.double r r bin_double (.inl (y2 m))
    have M := Lib.hid m
    clear m y1 y2
    go_wp2_with fail
    refine (B64_nan _ hn _).mono ?_
    rintro e w' ⟨rfl, rfl⟩
    go_wp2_with fail
    go_ret2
    exact ⟨⟨by rw [M.out]; rfl, below_drewN BW.out _⟩⟩
  | some q =>
    obtain rfl := y1 q m
    have hn := order_self Ieee.double r bin_double (bits_ok .sub .f64 _ _ r m).1
    have M := Lib.hid m
    clear m y1 y2
    go_wp2_with fail
    refine (B64_num _ hn _).mono ?_
    rintro e w' ⟨rfl, rfl⟩
    go_wp2_with fail
    go_ret2
    exact ⟨⟨by rw [M.out]; rfl, below_drewN BW.out _⟩⟩
theorem bin2_32 (a b : Int) (w : World) (a0 : 0 ≤ a) (a1 : a < 18446744073709551616) (b0 : 0 ≤ b) (b1 : b < 18446744073709551616) (hA : ¬ (fmtOf 32).infRung < rungOf (fmtOf 32) (wOf 32 a)) (hB : ¬ (fmtOf 32).infRung < rungOf (fmtOf 32) (wOf 32 b)) :
    Calls Try.prog 24 #[.int .i64 32, .int .i64 2, .int .u64 a, .int .u64 b] w (Pq (resOf 32 (floatBits .sub .f32 (s32 a) (s32 b)), 0) w) := by
  have HA := Lib.hid hA; have HB := Lib.hid hB
  clear hA hB
  go_enter Try.func24, Try.ntmps24
  go_wp2_with fail
  refine (cut_c 32 a _ a0 a1).mono ?_
  rintro e w' ⟨rfl, rfl⟩
  go_wp2_with fail
  refine (cut_c 32 b _ b0 b1).mono ?_
  rintro e w' ⟨rfl, rfl⟩
  go_wp2_with fail
  refine (value 32 (wOf 32 a : Int) _).mono ?_
  rintro e w0 ⟨x, k, rfl, rfl, hx⟩
  have hx := val_cut hx a0
  go_wp2_with fail
  refine (value 32 (wOf 32 b : Int) _).mono ?_
  rintro e w1 ⟨y, k2, rfl, hw1, hy⟩
  have hy := val_cut hy b0
  have BW := Lib.hid (show Below w'.heap.size w' w1 from by rw [hw1]; exact below_drewN (below_n _) _)
  clear hw1
  go_wp2_with fail
  refine (sign_c 32 _).mono ?_
  rintro e w' ⟨rfl, rfl⟩
  have v1 := val_num hx (by have := HA.out; omega)
  have v2 := val_num hy (by have := HB.out; omega)
  have N1 : (FloatKind.f64.format.order x x != some Ordering.eq) = false := by rw [show FloatKind.f64.format.order x x = some .eq from order_self Ieee.double x bin_double v1.2.1]; rfl
  have N2 : (FloatKind.f64.format.order y y != some Ordering.eq) = false := by rw [show FloatKind.f64.format.order y y = some .eq from order_self Ieee.double y bin_double v2.2.1]; rfl
  clear hx hy v1 v2
  go_wp2_with fail
  refine (F32 _ _).mono ?_
  rintro e w' ⟨rfl, rfl⟩
  go_wp2_with fail
  refine (F32 _ _).mono ?_
  rintro e w' ⟨rfl, rfl⟩
  rw [s32_cut, s32_cut]
  cases m : floatBits .sub .f32 (s32 a) (s32 b) with
  | none =>
    have S := fun t w => run_float_nan .sub (by decide) t .f32 _ _ m w
    have M := Lib.hid m
    clear m
    go_wp2_with fail
    refine (B32_nan _ (order_nan Ieee.single _ _ bin_single (.inl (nanB_32 _ _ _))) _).mono ?_
    rintro e w' ⟨rfl, rfl⟩
    go_wp2_with fail
    go_ret2
    exact ⟨⟨by rw [M.out]; rfl, below_drewN BW.out 1⟩⟩
  | some q =>
    have S := fun t w => run_float_arith (P := Try.prog) w .sub t .f32 _ _ q m
    have ok := bits_ok .sub .f32 _ _ q m
    have hn := order_self Ieee.single q bin_single ok.1
    have hq : q < 4294967296 := ok.2
    have M := Lib.hid m
    clear m ok
    go_wp2_with fail
    refine (B32_num _ hn hq _).mono ?_
    rintro e w' ⟨rfl, rfl⟩
    go_wp2_with fail
    go_ret2
    exact ⟨⟨by rw [M.out]; rfl, BW.out⟩⟩
theorem bin3_64 (a b : Int) (w : World) (a0 : 0 ≤ a) (a1 : a < 18446744073709551616) (b0 : 0 ≤ b) (b1 : b < 18446744073709551616) (hA : ¬ (fmtOf 64).infRung < rungOf (fmtOf 64) (wOf 64 a)) (hB : ¬ (fmtOf 64).infRung < rungOf (fmtOf 64) (wOf 64 b)) :
    Calls Try.prog 24 #[.int .i64 64, .int .i64 3, .int .u64 a, .int .u64 b] w (Pq (resOf 64 (floatBits .mul .f64 a.toNat b.toNat), 0) w) := by
  have HA := Lib.hid hA; have HB := Lib.hid hB
  clear hA hB
  go_enter Try.func24, Try.ntmps24
  go_wp2_with fail
  refine (cut_c 64 a _ a0 a1).mono ?_
  rintro e w' ⟨rfl, rfl⟩
  go_wp2_with fail
  refine (cut_c 64 b _ b0 b1).mono ?_
  rintro e w' ⟨rfl, rfl⟩
  go_wp2_with fail
  refine (value 64 (wOf 64 a : Int) _).mono ?_
  rintro e w0 ⟨x, k, rfl, rfl, hx⟩
  have hx := val_cut hx a0
  go_wp2_with fail
  refine (value 64 (wOf 64 b : Int) _).mono ?_
  rintro e w1 ⟨y, k2, rfl, hw1, hy⟩
  have hy := val_cut hy b0
  have BW := Lib.hid (show Below w'.heap.size w' w1 from by rw [hw1]; exact below_drewN (below_n _) _)
  clear hw1
  go_wp2_with fail
  refine (sign_c 64 _).mono ?_
  rintro e w' ⟨rfl, rfl⟩
  have v1 := val_num hx (by have := HA.out; omega)
  have v2 := val_num hy (by have := HB.out; omega)
  have N1 : (FloatKind.f64.format.order x x != some Ordering.eq) = false := by rw [show FloatKind.f64.format.order x x = some .eq from order_self Ieee.double x bin_double v1.2.1]; rfl
  have N2 : (FloatKind.f64.format.order y y != some Ordering.eq) = false := by rw [show FloatKind.f64.format.order y y = some .eq from order_self Ieee.double y bin_double v2.2.1]; rfl
  have ex := Lib.hid (val64 hx)
  have ey := Lib.hid (val64 hy)
  clear hx hy v1 v2
  go_wp2_with fail
  refine (worked 3 x y _).mono ?_
  rintro e w' ⟨⟨r, d, rfl, rfl, y1, y2⟩⟩
  rw [show opOf 3 = .mul from rfl, ex.out, ey.out] at y1 y2
  cases m : floatBits .mul .f64 a.toNat b.toNat with
  | none =>
    have hn := order_nan Ieee.double r r bin_double (.inl (y2 m))
    have M := Lib.hid m
    clear m y1 y2
    go_wp2_with fail
    refine (B64_nan _ hn _).mono ?_
    rintro e w' ⟨rfl, rfl⟩
    go_wp2_with fail
    go_ret2
    exact ⟨⟨by rw [M.out]; rfl, below_drewN BW.out _⟩⟩
  | some q =>
    obtain rfl := y1 q m
    have hn := order_self Ieee.double r bin_double (bits_ok .mul .f64 _ _ r m).1
    have M := Lib.hid m
    clear m y1 y2
    go_wp2_with fail
    refine (B64_num _ hn _).mono ?_
    rintro e w' ⟨rfl, rfl⟩
    go_wp2_with fail
    go_ret2
    exact ⟨⟨by rw [M.out]; rfl, below_drewN BW.out _⟩⟩
theorem bin3_32 (a b : Int) (w : World) (a0 : 0 ≤ a) (a1 : a < 18446744073709551616) (b0 : 0 ≤ b) (b1 : b < 18446744073709551616) (hA : ¬ (fmtOf 32).infRung < rungOf (fmtOf 32) (wOf 32 a)) (hB : ¬ (fmtOf 32).infRung < rungOf (fmtOf 32) (wOf 32 b)) :
    Calls Try.prog 24 #[.int .i64 32, .int .i64 3, .int .u64 a, .int .u64 b] w (Pq (resOf 32 (floatBits .mul .f32 (s32 a) (s32 b)), 0) w) := by
  have HA := Lib.hid hA; have HB := Lib.hid hB
  clear hA hB
  go_enter Try.func24, Try.ntmps24
  go_wp2_with fail
  refine (cut_c 32 a _ a0 a1).mono ?_
  rintro e w' ⟨rfl, rfl⟩
  go_wp2_with fail
  refine (cut_c 32 b _ b0 b1).mono ?_
  rintro e w' ⟨rfl, rfl⟩
  go_wp2_with fail
  refine (value 32 (wOf 32 a : Int) _).mono ?_
  rintro e w0 ⟨x, k, rfl, rfl, hx⟩
  have hx := val_cut hx a0
  go_wp2_with fail
  refine (value 32 (wOf 32 b : Int) _).mono ?_
  rintro e w1 ⟨y, k2, rfl, hw1, hy⟩
  have hy := val_cut hy b0
  have BW := Lib.hid (show Below w'.heap.size w' w1 from by rw [hw1]; exact below_drewN (below_n _) _)
  clear hw1
  go_wp2_with fail
  refine (sign_c 32 _).mono ?_
  rintro e w' ⟨rfl, rfl⟩
  have v1 := val_num hx (by have := HA.out; omega)
  have v2 := val_num hy (by have := HB.out; omega)
  have N1 : (FloatKind.f64.format.order x x != some Ordering.eq) = false := by rw [show FloatKind.f64.format.order x x = some .eq from order_self Ieee.double x bin_double v1.2.1]; rfl
  have N2 : (FloatKind.f64.format.order y y != some Ordering.eq) = false := by rw [show FloatKind.f64.format.order y y = some .eq from order_self Ieee.double y bin_double v2.2.1]; rfl
  clear hx hy v1 v2
  go_wp2_with fail
  refine (F32 _ _).mono ?_
  rintro e w' ⟨rfl, rfl⟩
  go_wp2_with fail
  refine (F32 _ _).mono ?_
  rintro e w' ⟨rfl, rfl⟩
  rw [s32_cut, s32_cut]
  cases m : floatBits .mul .f32 (s32 a) (s32 b) with
  | none =>
    have S := fun t w => run_float_nan .mul (by decide) t .f32 _ _ m w
    have M := Lib.hid m
    clear m
    go_wp2_with fail
    refine (B32_nan _ (order_nan Ieee.single _ _ bin_single (.inl (nanB_32 _ _ _))) _).mono ?_
    rintro e w' ⟨rfl, rfl⟩
    go_wp2_with fail
    go_ret2
    exact ⟨⟨by rw [M.out]; rfl, below_drewN BW.out 1⟩⟩
  | some q =>
    have S := fun t w => run_float_arith (P := Try.prog) w .mul t .f32 _ _ q m
    have ok := bits_ok .mul .f32 _ _ q m
    have hn := order_self Ieee.single q bin_single ok.1
    have hq : q < 4294967296 := ok.2
    have M := Lib.hid m
    clear m ok
    go_wp2_with fail
    refine (B32_num _ hn hq _).mono ?_
    rintro e w' ⟨rfl, rfl⟩
    go_wp2_with fail
    go_ret2
    exact ⟨⟨by rw [M.out]; rfl, BW.out⟩⟩
theorem bin4_64 (a b : Int) (w : World) (a0 : 0 ≤ a) (a1 : a < 18446744073709551616) (b0 : 0 ≤ b) (b1 : b < 18446744073709551616) (hA : ¬ (fmtOf 64).infRung < rungOf (fmtOf 64) (wOf 64 a)) (hB : ¬ (fmtOf 64).infRung < rungOf (fmtOf 64) (wOf 64 b)) :
    Calls Try.prog 24 #[.int .i64 64, .int .i64 4, .int .u64 a, .int .u64 b] w (Pq (resOf 64 (floatBits .quo .f64 a.toNat b.toNat), 0) w) := by
  have HA := Lib.hid hA; have HB := Lib.hid hB
  clear hA hB
  go_enter Try.func24, Try.ntmps24
  go_wp2_with fail
  refine (cut_c 64 a _ a0 a1).mono ?_
  rintro e w' ⟨rfl, rfl⟩
  go_wp2_with fail
  refine (cut_c 64 b _ b0 b1).mono ?_
  rintro e w' ⟨rfl, rfl⟩
  go_wp2_with fail
  refine (value 64 (wOf 64 a : Int) _).mono ?_
  rintro e w0 ⟨x, k, rfl, rfl, hx⟩
  have hx := val_cut hx a0
  go_wp2_with fail
  refine (value 64 (wOf 64 b : Int) _).mono ?_
  rintro e w1 ⟨y, k2, rfl, hw1, hy⟩
  have hy := val_cut hy b0
  have BW := Lib.hid (show Below w'.heap.size w' w1 from by rw [hw1]; exact below_drewN (below_n _) _)
  clear hw1
  go_wp2_with fail
  refine (sign_c 64 _).mono ?_
  rintro e w' ⟨rfl, rfl⟩
  have v1 := val_num hx (by have := HA.out; omega)
  have v2 := val_num hy (by have := HB.out; omega)
  have N1 : (FloatKind.f64.format.order x x != some Ordering.eq) = false := by rw [show FloatKind.f64.format.order x x = some .eq from order_self Ieee.double x bin_double v1.2.1]; rfl
  have N2 : (FloatKind.f64.format.order y y != some Ordering.eq) = false := by rw [show FloatKind.f64.format.order y y = some .eq from order_self Ieee.double y bin_double v2.2.1]; rfl
  have ex := Lib.hid (val64 hx)
  have ey := Lib.hid (val64 hy)
  clear hx hy v1 v2
  go_wp2_with fail
  refine (worked 4 x y _).mono ?_
  rintro e w' ⟨⟨r, d, rfl, rfl, y1, y2⟩⟩
  rw [show opOf 4 = .quo from rfl, ex.out, ey.out] at y1 y2
  cases m : floatBits .quo .f64 a.toNat b.toNat with
  | none =>
    have hn := order_nan Ieee.double r r bin_double (.inl (y2 m))
    have M := Lib.hid m
    clear m y1 y2
    go_wp2_with fail
    refine (B64_nan _ hn _).mono ?_
    rintro e w' ⟨rfl, rfl⟩
    go_wp2_with fail
    go_ret2
    exact ⟨⟨by rw [M.out]; rfl, below_drewN BW.out _⟩⟩
  | some q =>
    obtain rfl := y1 q m
    have hn := order_self Ieee.double r bin_double (bits_ok .quo .f64 _ _ r m).1
    have M := Lib.hid m
    clear m y1 y2
    go_wp2_with fail
    refine (B64_num _ hn _).mono ?_
    rintro e w' ⟨rfl, rfl⟩
    go_wp2_with fail
    go_ret2
    exact ⟨⟨by rw [M.out]; rfl, below_drewN BW.out _⟩⟩
theorem bin4_32 (a b : Int) (w : World) (a0 : 0 ≤ a) (a1 : a < 18446744073709551616) (b0 : 0 ≤ b) (b1 : b < 18446744073709551616) (hA : ¬ (fmtOf 32).infRung < rungOf (fmtOf 32) (wOf 32 a)) (hB : ¬ (fmtOf 32).infRung < rungOf (fmtOf 32) (wOf 32 b)) :
    Calls Try.prog 24 #[.int .i64 32, .int .i64 4, .int .u64 a, .int .u64 b] w (Pq (resOf 32 (floatBits .quo .f32 (s32 a) (s32 b)), 0) w) := by
  have HA := Lib.hid hA; have HB := Lib.hid hB
  clear hA hB
  go_enter Try.func24, Try.ntmps24
  go_wp2_with fail
  refine (cut_c 32 a _ a0 a1).mono ?_
  rintro e w' ⟨rfl, rfl⟩
  go_wp2_with fail
  refine (cut_c 32 b _ b0 b1).mono ?_
  rintro e w' ⟨rfl, rfl⟩
  go_wp2_with fail
  refine (value 32 (wOf 32 a : Int) _).mono ?_
  rintro e w0 ⟨x, k, rfl, rfl, hx⟩
  have hx := val_cut hx a0
  go_wp2_with fail
  refine (value 32 (wOf 32 b : Int) _).mono ?_
  rintro e w1 ⟨y, k2, rfl, hw1, hy⟩
  have hy := val_cut hy b0
  have BW := Lib.hid (show Below w'.heap.size w' w1 from by rw [hw1]; exact below_drewN (below_n _) _)
  clear hw1
  go_wp2_with fail
  refine (sign_c 32 _).mono ?_
  rintro e w' ⟨rfl, rfl⟩
  have v1 := val_num hx (by have := HA.out; omega)
  have v2 := val_num hy (by have := HB.out; omega)
  have N1 : (FloatKind.f64.format.order x x != some Ordering.eq) = false := by rw [show FloatKind.f64.format.order x x = some .eq from order_self Ieee.double x bin_double v1.2.1]; rfl
  have N2 : (FloatKind.f64.format.order y y != some Ordering.eq) = false := by rw [show FloatKind.f64.format.order y y = some .eq from order_self Ieee.double y bin_double v2.2.1]; rfl
  clear hx hy v1 v2
  go_wp2_with fail
  refine (F32 _ _).mono ?_
  rintro e w' ⟨rfl, rfl⟩
  go_wp2_with fail
  refine (F32 _ _).mono ?_
  rintro e w' ⟨rfl, rfl⟩
  rw [s32_cut, s32_cut]
  cases m : floatBits .quo .f32 (s32 a) (s32 b) with
  | none =>
    have S := fun t w => run_float_nan .quo (by decide) t .f32 _ _ m w
    have M := Lib.hid m
    clear m
    go_wp2_with fail
    refine (B32_nan _ (order_nan Ieee.single _ _ bin_single (.inl (nanB_32 _ _ _))) _).mono ?_
    rintro e w' ⟨rfl, rfl⟩
    go_wp2_with fail
    go_ret2
    exact ⟨⟨by rw [M.out]; rfl, below_drewN BW.out 1⟩⟩
  | some q =>
    have S := fun t w => run_float_arith (P := Try.prog) w .quo t .f32 _ _ q m
    have ok := bits_ok .quo .f32 _ _ q m
    have hn := order_self Ieee.single q bin_single ok.1
    have hq : q < 4294967296 := ok.2
    have M := Lib.hid m
    clear m ok
    go_wp2_with fail
    refine (B32_num _ hn hq _).mono ?_
    rintro e w' ⟨rfl, rfl⟩
    go_wp2_with fail
    go_ret2
    exact ⟨⟨by rw [M.out]; rfl, BW.out⟩⟩
end Go.Proofs.Ytjfmomogidgbpaa.Ref
namespace Go.Proofs.Ytjfmomogidgbpaa.PFl
open Go.RowKit Go.Proofs.YtjfmomogidgbpaaW.PrintWords Go.Proofs.YtjfmomogidgbpaaW.PrintLast Go.Proofs.YtjfmomogidgbpaaW.PrintMore
attribute [local go_sem] max2_int min2_int max_two min_two max_three min_three max_four min_four
set_option linter.unusedVariables false
set_option linter.unusedSimpArgs false
mutual
def ff_round.j0 : Nat → Bool → Int → Int → Int → Int → Int → Option (Int)
 | 0, _, _, _, _, _, _ => none
 | k + 1, x1, x2, x3, x11, x109000, x109001 => if 0 ≤ (IntKind.u64.wrap (x109000)) then (if x2 ≥ (shl .u64 1 (IntKind.u64.wrap (x109000))) then ((ff_least.f x109000 x109001).bind fun t112 => (ff_round.j1 k x1 x2 (wrap64 ((wrap64 (x3 + x11)) - t112)) x109000 x109001)) else (ff_round.j1 k x1 x2 0 x109000 x109001)) else (none)
def ff_round.j1 : Nat → Bool → Int → Int → Int → Int → Option (Int)
 | 0, _, _, _, _, _ => none
 | k + 1, x1, x2, x13, x109000, x109001 => if 0 ≤ (IntKind.u64.wrap (x109001)) then (if x13 ≥ (shl .i64 1 (IntKind.u64.wrap (x109001))) then ((ff_infinity.f x109000 x109001).bind fun t113 => ((ff_signed.f x109000 x109001 x1 t113).bind fun t114 => (some t114))) else (if 0 ≤ (IntKind.u64.wrap (x109000)) then ((ff_infinity.f x109000 x109001).bind fun t115 => ((ff_signed.f x109000 x109001 x1 (mn (IntKind.u64.wrap ((shl .u64 (IntKind.u64.wrap (x13)) (IntKind.u64.wrap (x109000))) + x2)) t115)).bind fun t116 => (some t116))) else (none))) else (none)
end
def ff_round.f (k : Nat) (a0_0 : Int) (a0_1 : Int) (a1 : Bool) (a2 : Int) (a3 : Int) (a4 : Bool) : Option (Int) := if a2 = 0 then ((ff_signed.f a0_0 a0_1 a1 0).bind fun t109 => (some t109)) else ((bits_Len64.f a2).bind fun t110 => ((ff_least.f a0_0 a0_1).bind fun t111 => (if (wrap64 ((mx (wrap64 ((wrap64 ((wrap64 (t110 + (mn (mx a3 (-5000)) 5000))) - 1)) - a0_0)) t111) - (mn (mx a3 (-5000)) 5000))) ≤ 0 then (if 0 ≤ (IntKind.u64.wrap (wrap64 (-(wrap64 ((mx (wrap64 ((wrap64 ((wrap64 (t110 + (mn (mx a3 (-5000)) 5000))) - 1)) - a0_0)) t111) - (mn (mx a3 (-5000)) 5000)))))) then (ff_round.j0 k a1 (shl .u64 a2 (IntKind.u64.wrap (wrap64 (-(wrap64 ((mx (wrap64 ((wrap64 ((wrap64 (t110 + (mn (mx a3 (-5000)) 5000))) - 1)) - a0_0)) t111) - (mn (mx a3 (-5000)) 5000))))))) (mn (mx a3 (-5000)) 5000) (wrap64 ((mx (wrap64 ((wrap64 ((wrap64 (t110 + (mn (mx a3 (-5000)) 5000))) - 1)) - a0_0)) t111) - (mn (mx a3 (-5000)) 5000))) a0_0 a0_1) else (none)) else (if (wrap64 ((mx (wrap64 ((wrap64 ((wrap64 (t110 + (mn (mx a3 (-5000)) 5000))) - 1)) - a0_0)) t111) - (mn (mx a3 (-5000)) 5000))) > 64 then (ff_round.j0 k a1 0 (mn (mx a3 (-5000)) 5000) (wrap64 ((mx (wrap64 ((wrap64 ((wrap64 (t110 + (mn (mx a3 (-5000)) 5000))) - 1)) - a0_0)) t111) - (mn (mx a3 (-5000)) 5000))) a0_0 a0_1) else (if 0 ≤ (IntKind.u64.wrap (wrap64 (64 - (wrap64 ((mx (wrap64 ((wrap64 ((wrap64 (t110 + (mn (mx a3 (-5000)) 5000))) - 1)) - a0_0)) t111) - (mn (mx a3 (-5000)) 5000)))))) then (if 0 ≤ (IntKind.u64.wrap (wrap64 ((wrap64 ((mx (wrap64 ((wrap64 ((wrap64 (t110 + (mn (mx a3 (-5000)) 5000))) - 1)) - a0_0)) t111) - (mn (mx a3 (-5000)) 5000))) - 1))) then (if (shl .u64 a2 (IntKind.u64.wrap (wrap64 (64 - (wrap64 ((mx (wrap64 ((wrap64 ((wrap64 (t110 + (mn (mx a3 (-5000)) 5000))) - 1)) - a0_0)) t111) - (mn (mx a3 (-5000)) 5000))))))) > 9223372036854775808 then (ff_round.j0 k a1 (IntKind.u64.wrap ((shr .u64 (a2 / 2) (IntKind.u64.wrap (wrap64 ((wrap64 ((mx (wrap64 ((wrap64 ((wrap64 (t110 + (mn (mx a3 (-5000)) 5000))) - 1)) - a0_0)) t111) - (mn (mx a3 (-5000)) 5000))) - 1)))) + 1)) (mn (mx a3 (-5000)) 5000) (wrap64 ((mx (wrap64 ((wrap64 ((wrap64 (t110 + (mn (mx a3 (-5000)) 5000))) - 1)) - a0_0)) t111) - (mn (mx a3 (-5000)) 5000))) a0_0 a0_1) else (if (shl .u64 a2 (IntKind.u64.wrap (wrap64 (64 - (wrap64 ((mx (wrap64 ((wrap64 ((wrap64 (t110 + (mn (mx a3 (-5000)) 5000))) - 1)) - a0_0)) t111) - (mn (mx a3 (-5000)) 5000))))))) = 9223372036854775808 then (if a4 = true then (ff_round.j0 k a1 (IntKind.u64.wrap ((shr .u64 (a2 / 2) (IntKind.u64.wrap (wrap64 ((wrap64 ((mx (wrap64 ((wrap64 ((wrap64 (t110 + (mn (mx a3 (-5000)) 5000))) - 1)) - a0_0)) t111) - (mn (mx a3 (-5000)) 5000))) - 1)))) + 1)) (mn (mx a3 (-5000)) 5000) (wrap64 ((mx (wrap64 ((wrap64 ((wrap64 (t110 + (mn (mx a3 (-5000)) 5000))) - 1)) - a0_0)) t111) - (mn (mx a3 (-5000)) 5000))) a0_0 a0_1) else (if (Go.bits .and .u64 (shr .u64 (a2 / 2) (IntKind.u64.wrap (wrap64 ((wrap64 ((mx (wrap64 ((wrap64 ((wrap64 (t110 + (mn (mx a3 (-5000)) 5000))) - 1)) - a0_0)) t111) - (mn (mx a3 (-5000)) 5000))) - 1)))) 1) = 1 then (ff_round.j0 k a1 (IntKind.u64.wrap ((shr .u64 (a2 / 2) (IntKind.u64.wrap (wrap64 ((wrap64 ((mx (wrap64 ((wrap64 ((wrap64 (t110 + (mn (mx a3 (-5000)) 5000))) - 1)) - a0_0)) t111) - (mn (mx a3 (-5000)) 5000))) - 1)))) + 1)) (mn (mx a3 (-5000)) 5000) (wrap64 ((mx (wrap64 ((wrap64 ((wrap64 (t110 + (mn (mx a3 (-5000)) 5000))) - 1)) - a0_0)) t111) - (mn (mx a3 (-5000)) 5000))) a0_0 a0_1) else (ff_round.j0 k a1 (shr .u64 (a2 / 2) (IntKind.u64.wrap (wrap64 ((wrap64 ((mx (wrap64 ((wrap64 ((wrap64 (t110 + (mn (mx a3 (-5000)) 5000))) - 1)) - a0_0)) t111) - (mn (mx a3 (-5000)) 5000))) - 1)))) (mn (mx a3 (-5000)) 5000) (wrap64 ((mx (wrap64 ((wrap64 ((wrap64 (t110 + (mn (mx a3 (-5000)) 5000))) - 1)) - a0_0)) t111) - (mn (mx a3 (-5000)) 5000))) a0_0 a0_1))) else (ff_round.j0 k a1 (shr .u64 (a2 / 2) (IntKind.u64.wrap (wrap64 ((wrap64 ((mx (wrap64 ((wrap64 ((wrap64 (t110 + (mn (mx a3 (-5000)) 5000))) - 1)) - a0_0)) t111) - (mn (mx a3 (-5000)) 5000))) - 1)))) (mn (mx a3 (-5000)) 5000) (wrap64 ((mx (wrap64 ((wrap64 ((wrap64 (t110 + (mn (mx a3 (-5000)) 5000))) - 1)) - a0_0)) t111) - (mn (mx a3 (-5000)) 5000))) a0_0 a0_1))) else (none)) else (none))))))
theorem ff_round.mono_l : ∀ k, (∀ y0 y1 y2 y3 y4 y5, LeO (ff_round.j0 k y0 y1 y2 y3 y4 y5) (ff_round.j0 (k + 1) y0 y1 y2 y3 y4 y5)) ∧ (∀ y0 y1 y2 y3 y4, LeO (ff_round.j1 k y0 y1 y2 y3 y4) (ff_round.j1 (k + 1) y0 y1 y2 y3 y4)) := by
 intro k
 induction k with
 | zero => exact ⟨fun _ _ _ _ _ _ r h => by simp [ff_round.j0] at h, fun _ _ _ _ _ r h => by simp [ff_round.j1] at h⟩
 | succ k ih =>
  obtain ⟨ih0, ih1⟩ := ih
  refine ⟨?_, ?_⟩
  ·intro y0 y1 y2 y3 y4 y5
   unfold ff_round.j0
   repeat' first
   | (with_reducible exact ih0 _ _ _ _ _ _)
   | (with_reducible exact ih1 _ _ _ _ _)
   | (with_reducible exact LeO.refl _)
   | (with_reducible exact LeO.none _)
   | (with_reducible refine LeO.ite ?_ ?_)
   | (with_reducible refine LeO.bind ?_ (fun _ => ?_))
   | exact ih0 _ _ _ _ _ _
   | exact ih1 _ _ _ _ _
   | exact LeO.none _
   | refine LeO.ite ?_ ?_
   | refine LeO.bind ?_ (fun _ => ?_)
  ·intro y0 y1 y2 y3 y4
   unfold ff_round.j1
   repeat' first
   | (with_reducible exact ih0 _ _ _ _ _ _)
   | (with_reducible exact ih1 _ _ _ _ _)
   | (with_reducible exact LeO.refl _)
   | (with_reducible exact LeO.none _)
   | (with_reducible refine LeO.ite ?_ ?_)
   | (with_reducible refine LeO.bind ?_ (fun _ => ?_))
   | exact ih0 _ _ _ _ _ _
   | exact ih1 _ _ _ _ _
   | exact LeO.none _
   | refine LeO.ite ?_ ?_
   | refine LeO.bind ?_ (fun _ => ?_)
theorem ff_round.mono : ∀ a0 a1 a2 a3 a4 a5 k, LeO (ff_round.f k a0 a1 a2 a3 a4 a5) (ff_round.f (k + 1) a0 a1 a2 a3 a4 a5) := by
 intro a0 a1 a2 a3 a4 a5 k
 obtain ⟨ih0, ih1⟩ := ff_round.mono_l k
 unfold ff_round.f
 repeat' first
   | (with_reducible exact ih0 _ _ _ _ _ _)
   | (with_reducible exact ih1 _ _ _ _ _)
   | (with_reducible exact LeO.refl _)
   | (with_reducible exact LeO.none _)
   | (with_reducible refine LeO.ite ?_ ?_)
   | (with_reducible refine LeO.bind ?_ (fun _ => ?_))
   | exact ih0 _ _ _ _ _ _
   | exact ih1 _ _ _ _ _
   | exact LeO.none _
   | refine LeO.ite ?_ ?_
   | refine LeO.bind ?_ (fun _ => ?_)
def ff_round.T4 : Bool × List (List Nat × List Nat) := (true, [([], []), ([0], [0]), ([], []), ([1, 2], [1, 2]), ([3], [3]), ([], []), ([5], [5]), ([4, 6], [4, 6]), ([], []), ([8, 1], [8]), ([7, 9], [7, 9]), ([], []), ([10, 11], [10, 11]), ([12, 9, 0, 1, 2, 3, 4, 5, 6, 7, 8, 9, 10, 11, 12], [12])])
def ff_round.B4 : List Nat := [0, 1, 0, 7, 15, 0, 32, 127, 0, 259, 1023, 0, 4095, 8191]
theorem ff_round.tab4 : rtab .any (opsOf Try.f33 4) = ff_round.T4 := by kernel_rfl
theorem ff_round.bits4 : waitsOk ff_round.T4.2 ff_round.B4 = true := by kernel_rfl
def ff_round.T18 : Bool × List (List Nat × List Nat) := (true, [([], []), ([], []), ([], []), ([2], [2]), ([], []), ([4], [4]), ([5], [5]), ([3, 6], [3, 6]), ([], []), ([7, 8], [7, 8]), ([], []), ([10], [10]), ([9, 11], [9, 11]), ([0, 1, 12, 11], [0, 1, 12]), ([13, 13, 0, 1, 2, 3, 4, 5, 6, 7, 8, 9, 10, 11, 12, 13], [13])])
def ff_round.B18 : List Nat := [0, 0, 0, 4, 0, 16, 48, 124, 0, 508, 0, 1024, 4092, 8191, 16383]
theorem ff_round.tab18 : rtab .any (opsOf Try.f33 18) = ff_round.T18 := by kernel_rfl
theorem ff_round.bits18 : waitsOk ff_round.T18.2 ff_round.B18 = true := by kernel_rfl
set_option maxHeartbeats 8000000 in
set_option maxRecDepth 100000 in
theorem ff_round.calls (k : Nat) (a0_0 : Int) (a0_1 : Int) (a1 : Bool) (a2 : Int) (a3 : Int) (a4 : Bool) (r : Int) (w : World) (h : ff_round.f k a0_0 a0_1 a1 a2 a3 a4 = some r) :
  Calls Try.prog 33 #[.agg #[.int .i64 a0_0, .int .i64 a0_1], .bool a1, .int .u64 a2, .int .i64 a3, .bool a4] w fun e w' => e = .returned (.int .u64 r) ∧ Below w.heap.size w w' := by
 have hu43 := Try.underlying43
 have HB := As0.mk (Below.refl w.heap.size w)
 have H : (if a2 = 0 then ((ff_signed.f a0_0 a0_1 a1 0).bind fun t109 => (some t109)) else ((bits_Len64.f a2).bind fun t110 => ((ff_least.f a0_0 a0_1).bind fun t111 => (if (wrap64 ((mx (wrap64 ((wrap64 ((wrap64 (t110 + (mn (mx a3 (-5000)) 5000))) - 1)) - a0_0)) t111) - (mn (mx a3 (-5000)) 5000))) ≤ 0 then (if 0 ≤ (IntKind.u64.wrap (wrap64 (-(wrap64 ((mx (wrap64 ((wrap64 ((wrap64 (t110 + (mn (mx a3 (-5000)) 5000))) - 1)) - a0_0)) t111) - (mn (mx a3 (-5000)) 5000)))))) then (ff_round.j0 k a1 (shl .u64 a2 (IntKind.u64.wrap (wrap64 (-(wrap64 ((mx (wrap64 ((wrap64 ((wrap64 (t110 + (mn (mx a3 (-5000)) 5000))) - 1)) - a0_0)) t111) - (mn (mx a3 (-5000)) 5000))))))) (mn (mx a3 (-5000)) 5000) (wrap64 ((mx (wrap64 ((wrap64 ((wrap64 (t110 + (mn (mx a3 (-5000)) 5000))) - 1)) - a0_0)) t111) - (mn (mx a3 (-5000)) 5000))) a0_0 a0_1) else (none)) else (if (wrap64 ((mx (wrap64 ((wrap64 ((wrap64 (t110 + (mn (mx a3 (-5000)) 5000))) - 1)) - a0_0)) t111) - (mn (mx a3 (-5000)) 5000))) > 64 then (ff_round.j0 k a1 0 (mn (mx a3 (-5000)) 5000) (wrap64 ((mx (wrap64 ((wrap64 ((wrap64 (t110 + (mn (mx a3 (-5000)) 5000))) - 1)) - a0_0)) t111) - (mn (mx a3 (-5000)) 5000))) a0_0 a0_1) else (if 0 ≤ (IntKind.u64.wrap (wrap64 (64 - (wrap64 ((mx (wrap64 ((wrap64 ((wrap64 (t110 + (mn (mx a3 (-5000)) 5000))) - 1)) - a0_0)) t111) - (mn (mx a3 (-5000)) 5000)))))) then (if 0 ≤ (IntKind.u64.wrap (wrap64 ((wrap64 ((mx (wrap64 ((wrap64 ((wrap64 (t110 + (mn (mx a3 (-5000)) 5000))) - 1)) - a0_0)) t111) - (mn (mx a3 (-5000)) 5000))) - 1))) then (if (shl .u64 a2 (IntKind.u64.wrap (wrap64 (64 - (wrap64 ((mx (wrap64 ((wrap64 ((wrap64 (t110 + (mn (mx a3 (-5000)) 5000))) - 1)) - a0_0)) t111) - (mn (mx a3 (-5000)) 5000))))))) > 9223372036854775808 then (ff_round.j0 k a1 (IntKind.u64.wrap ((shr .u64 (a2 / 2) (IntKind.u64.wrap (wrap64 ((wrap64 ((mx (wrap64 ((wrap64 ((wrap64 (t110 + (mn (mx a3 (-5000)) 5000))) - 1)) - a0_0)) t111) - (mn (mx a3 (-5000)) 5000))) - 1)))) + 1)) (mn (mx a3 (-5000)) 5000) (wrap64 ((mx (wrap64 ((wrap64 ((wrap64 (t110 + (mn (mx a3 (-5000)) 5000))) - 1)) - a0_0)) t111) - (mn (mx a3 (-5000)) 5000))) a0_0 a0_1) else (if (shl .u64 a2 (IntKind.u64.wrap (wrap64 (64 - (wrap64 ((mx (wrap64 ((wrap64 ((wrap64 (t110 + (mn (mx a3 (-5000)) 5000))) - 1)) - a0_0)) t111) - (mn (mx a3 (-5000)) 5000))))))) = 9223372036854775808 then (if a4 = true then (ff_round.j0 k a1 (IntKind.u64.wrap ((shr .u64 (a2 / 2) (IntKind.u64.wrap (wrap64 ((wrap64 ((mx (wrap64 ((wrap64 ((wrap64 (t110 + (mn (mx a3 (-5000)) 5000))) - 1)) - a0_0)) t111) - (mn (mx a3 (-5000)) 5000))) - 1)))) + 1)) (mn (mx a3 (-5000)) 5000) (wrap64 ((mx (wrap64 ((wrap64 ((wrap64 (t110 + (mn (mx a3 (-5000)) 5000))) - 1)) - a0_0)) t111) - (mn (mx a3 (-5000)) 5000))) a0_0 a0_1) else (if (Go.bits .and .u64 (shr .u64 (a2 / 2) (IntKind.u64.wrap (wrap64 ((wrap64 ((mx (wrap64 ((wrap64 ((wrap64 (t110 + (mn (mx a3 (-5000)) 5000))) - 1)) - a0_0)) t111) - (mn (mx a3 (-5000)) 5000))) - 1)))) 1) = 1 then (ff_round.j0 k a1 (IntKind.u64.wrap ((shr .u64 (a2 / 2) (IntKind.u64.wrap (wrap64 ((wrap64 ((mx (wrap64 ((wrap64 ((wrap64 (t110 + (mn (mx a3 (-5000)) 5000))) - 1)) - a0_0)) t111) - (mn (mx a3 (-5000)) 5000))) - 1)))) + 1)) (mn (mx a3 (-5000)) 5000) (wrap64 ((mx (wrap64 ((wrap64 ((wrap64 (t110 + (mn (mx a3 (-5000)) 5000))) - 1)) - a0_0)) t111) - (mn (mx a3 (-5000)) 5000))) a0_0 a0_1) else (ff_round.j0 k a1 (shr .u64 (a2 / 2) (IntKind.u64.wrap (wrap64 ((wrap64 ((mx (wrap64 ((wrap64 ((wrap64 (t110 + (mn (mx a3 (-5000)) 5000))) - 1)) - a0_0)) t111) - (mn (mx a3 (-5000)) 5000))) - 1)))) (mn (mx a3 (-5000)) 5000) (wrap64 ((mx (wrap64 ((wrap64 ((wrap64 (t110 + (mn (mx a3 (-5000)) 5000))) - 1)) - a0_0)) t111) - (mn (mx a3 (-5000)) 5000))) a0_0 a0_1))) else (ff_round.j0 k a1 (shr .u64 (a2 / 2) (IntKind.u64.wrap (wrap64 ((wrap64 ((mx (wrap64 ((wrap64 ((wrap64 (t110 + (mn (mx a3 (-5000)) 5000))) - 1)) - a0_0)) t111) - (mn (mx a3 (-5000)) 5000))) - 1)))) (mn (mx a3 (-5000)) 5000) (wrap64 ((mx (wrap64 ((wrap64 ((wrap64 (t110 + (mn (mx a3 (-5000)) 5000))) - 1)) - a0_0)) t111) - (mn (mx a3 (-5000)) 5000))) a0_0 a0_1))) else (none)) else (none))))))) = some r := h
 clear h
 by_cases c6 : a2 = 0
 ·rw [if_pos c6] at H
  have c6b0 : (a2 == 0) = true := beq_iff_eq.mpr c6
  have c6b1 : (a2 != 0) = false := bne_eq_false_iff_eq.mpr c6
  clear c6
  replace H := zob H
  obtain ⟨t109, A70, H⟩ := H
  replace H : (some t109) = some r := H
  have A7 := As0.mk A70
  clear A70
  obtain rfl := Option.some.inj H
  go_enter Try.func33, Try.ntmps33
  go_wp2_with (first | ((with_reducible refine gate_dst (N := 5) rfl ?_); refine box_event ?hg (N := 5) ?hd (cs := #[.int .i64 a0_0, .int .i64 a0_1]) (t := 43) ?hr ?_; (case hd => rfl); (case hg => rfl); (case hr => first | (go_simp; done) | (go_simp; rfl)); intro gb108 hg w8 hbox hb; have n0_ := As0.mk (bst (by repeat (first | (with_reducible first | exact HB.out | apply bal | apply pwB_ | apply bd1) | exact HB.out)) hb); have n1_ := As0.mk (hbox); have n2_ := As0.mk ((by rw [hg]; exact (below_size (by repeat (first | (with_reducible first | exact HB.out | apply bal | apply pwB_ | apply bd1) | exact HB.out))) : w.heap.size ≤ gb108)); have n3_ := As0.mk ((by rw [hg]; exact (below_size (by repeat (first | (with_reducible first | exact HB.out | apply bal | apply pwB_ | apply bd1) | exact HB.out))) : w.heap.size ≤ gb108)); clear HB; have HB := n0_; have BK108 := n1_; have GW108 := n2_; have GE108 := n3_; clear n0_ n1_ n2_ n3_; clear hb hbox hg; have hcz9_0 : w8.cell? ⟨gb108, 0, none⟩ = some (.int .i64 a0_0) := (bce BK108.out 0).trans rfl; have hcz9_1 : w8.cell? ⟨gb108, 1, none⟩ = some (.int .i64 a0_1) := (bce BK108.out 1).trans rfl; have hfz9_0 := bkf BK108.out 0; have hfz9_1 := bkf BK108.out 1) | ((with_reducible refine gcl (f := 38) rfl ?_); refine goesL_ (some 18) rfl rfl Try.func38 (by kernel_rfl) rfl #[.agg #[.int .i64 a0_0, .int .i64 a0_1], .bool a1, .int .u64 0] rfl (by (try simp only [zmt, zmc, zmn]); first | done | rfl) ?_; (with_reducible refine (ff_signed.calls a0_0 a0_1 a1 0 t109 _ A7.out).mono ?_); rintro e w10 ⟨rfl, hb⟩; refine ⟨_, rfl, ?_⟩; have n0_ := As0.mk (bkb (g := gb108) (o := .cells #[.int .i64 a0_0, .int .i64 a0_1] 43 (0, 0)) (by (with_reducible repeat (first | refine bkN ?_ _ | refine bkd ?_ | refine bka ?_ _)); exact BK108.out) hb); have n1_ := As0.mk (bst (by repeat (first | (with_reducible first | exact HB.out | apply bal | apply pwB_ | apply bd1 | refine bse ?_ GE108.out) | exact HB.out)) hb); clear BK108; clear HB; have BK108 := n0_; have HB := n1_; clear n0_ n1_; (try clear hb); (try clear hb2); (try clear hk); (try clear hi)))
  go_ret
  exact ⟨by first | rfl | (simp [*] <;> rfl), by repeat (first | (with_reducible first | exact HB.out | apply bal | apply pwB_ | apply bd1 | refine bse ?_ GE108.out) | exact HB.out)⟩
 ·rw [if_neg c6] at H
  have c6b0 : (a2 == 0) = false := beq_eq_false_iff_ne.mpr c6
  have c6b1 : (a2 != 0) = true := bne_iff_ne.mpr c6
  obtain ⟨ji11, hji11⟩ : ∃ j_ : Int, (mx a3 (-5000)) = j_ := ⟨_, rfl⟩
  replace H : ((bits_Len64.f a2).bind fun t110 => ((ff_least.f a0_0 a0_1).bind fun t111 => (if (wrap64 ((mx (wrap64 ((wrap64 ((wrap64 (t110 + (mn (ji11) 5000))) - 1)) - a0_0)) t111) - (mn (ji11) 5000))) ≤ 0 then (if 0 ≤ (IntKind.u64.wrap (wrap64 (-(wrap64 ((mx (wrap64 ((wrap64 ((wrap64 (t110 + (mn (ji11) 5000))) - 1)) - a0_0)) t111) - (mn (ji11) 5000)))))) then (ff_round.j0 k a1 (shl .u64 a2 (IntKind.u64.wrap (wrap64 (-(wrap64 ((mx (wrap64 ((wrap64 ((wrap64 (t110 + (mn (ji11) 5000))) - 1)) - a0_0)) t111) - (mn (ji11) 5000))))))) (mn (ji11) 5000) (wrap64 ((mx (wrap64 ((wrap64 ((wrap64 (t110 + (mn (ji11) 5000))) - 1)) - a0_0)) t111) - (mn (ji11) 5000))) a0_0 a0_1) else (none)) else (if (wrap64 ((mx (wrap64 ((wrap64 ((wrap64 (t110 + (mn (ji11) 5000))) - 1)) - a0_0)) t111) - (mn (ji11) 5000))) > 64 then (ff_round.j0 k a1 0 (mn (ji11) 5000) (wrap64 ((mx (wrap64 ((wrap64 ((wrap64 (t110 + (mn (ji11) 5000))) - 1)) - a0_0)) t111) - (mn (ji11) 5000))) a0_0 a0_1) else (if 0 ≤ (IntKind.u64.wrap (wrap64 (64 - (wrap64 ((mx (wrap64 ((wrap64 ((wrap64 (t110 + (mn (ji11) 5000))) - 1)) - a0_0)) t111) - (mn (ji11) 5000)))))) then (if 0 ≤ (IntKind.u64.wrap (wrap64 ((wrap64 ((mx (wrap64 ((wrap64 ((wrap64 (t110 + (mn (ji11) 5000))) - 1)) - a0_0)) t111) - (mn (ji11) 5000))) - 1))) then (if (shl .u64 a2 (IntKind.u64.wrap (wrap64 (64 - (wrap64 ((mx (wrap64 ((wrap64 ((wrap64 (t110 + (mn (ji11) 5000))) - 1)) - a0_0)) t111) - (mn (ji11) 5000))))))) > 9223372036854775808 then (ff_round.j0 k a1 (IntKind.u64.wrap ((shr .u64 (a2 / 2) (IntKind.u64.wrap (wrap64 ((wrap64 ((mx (wrap64 ((wrap64 ((wrap64 (t110 + (mn (ji11) 5000))) - 1)) - a0_0)) t111) - (mn (ji11) 5000))) - 1)))) + 1)) (mn (ji11) 5000) (wrap64 ((mx (wrap64 ((wrap64 ((wrap64 (t110 + (mn (ji11) 5000))) - 1)) - a0_0)) t111) - (mn (ji11) 5000))) a0_0 a0_1) else (if (shl .u64 a2 (IntKind.u64.wrap (wrap64 (64 - (wrap64 ((mx (wrap64 ((wrap64 ((wrap64 (t110 + (mn (ji11) 5000))) - 1)) - a0_0)) t111) - (mn (ji11) 5000))))))) = 9223372036854775808 then (if a4 = true then (ff_round.j0 k a1 (IntKind.u64.wrap ((shr .u64 (a2 / 2) (IntKind.u64.wrap (wrap64 ((wrap64 ((mx (wrap64 ((wrap64 ((wrap64 (t110 + (mn (ji11) 5000))) - 1)) - a0_0)) t111) - (mn (ji11) 5000))) - 1)))) + 1)) (mn (ji11) 5000) (wrap64 ((mx (wrap64 ((wrap64 ((wrap64 (t110 + (mn (ji11) 5000))) - 1)) - a0_0)) t111) - (mn (ji11) 5000))) a0_0 a0_1) else (if (Go.bits .and .u64 (shr .u64 (a2 / 2) (IntKind.u64.wrap (wrap64 ((wrap64 ((mx (wrap64 ((wrap64 ((wrap64 (t110 + (mn (ji11) 5000))) - 1)) - a0_0)) t111) - (mn (ji11) 5000))) - 1)))) 1) = 1 then (ff_round.j0 k a1 (IntKind.u64.wrap ((shr .u64 (a2 / 2) (IntKind.u64.wrap (wrap64 ((wrap64 ((mx (wrap64 ((wrap64 ((wrap64 (t110 + (mn (ji11) 5000))) - 1)) - a0_0)) t111) - (mn (ji11) 5000))) - 1)))) + 1)) (mn (ji11) 5000) (wrap64 ((mx (wrap64 ((wrap64 ((wrap64 (t110 + (mn (ji11) 5000))) - 1)) - a0_0)) t111) - (mn (ji11) 5000))) a0_0 a0_1) else (ff_round.j0 k a1 (shr .u64 (a2 / 2) (IntKind.u64.wrap (wrap64 ((wrap64 ((mx (wrap64 ((wrap64 ((wrap64 (t110 + (mn (ji11) 5000))) - 1)) - a0_0)) t111) - (mn (ji11) 5000))) - 1)))) (mn (ji11) 5000) (wrap64 ((mx (wrap64 ((wrap64 ((wrap64 (t110 + (mn (ji11) 5000))) - 1)) - a0_0)) t111) - (mn (ji11) 5000))) a0_0 a0_1))) else (ff_round.j0 k a1 (shr .u64 (a2 / 2) (IntKind.u64.wrap (wrap64 ((wrap64 ((mx (wrap64 ((wrap64 ((wrap64 (t110 + (mn (ji11) 5000))) - 1)) - a0_0)) t111) - (mn (ji11) 5000))) - 1)))) (mn (ji11) 5000) (wrap64 ((mx (wrap64 ((wrap64 ((wrap64 (t110 + (mn (ji11) 5000))) - 1)) - a0_0)) t111) - (mn (ji11) 5000))) a0_0 a0_1))) else (none)) else (none)))))) = some r := by first | (rw [hji11] at H; exact H) | (simp only [hji11] at H ⊢; exact H)
  have hji11_ : (if a3 < (-5000) then (-5000) else a3) = ji11 := hji11
  obtain ⟨ji12, hji12⟩ : ∃ j_ : Int, (mn (ji11) 5000) = j_ := ⟨_, rfl⟩
  replace H : ((bits_Len64.f a2).bind fun t110 => ((ff_least.f a0_0 a0_1).bind fun t111 => (if (wrap64 ((mx (wrap64 ((wrap64 ((wrap64 (t110 + (ji12))) - 1)) - a0_0)) t111) - (ji12))) ≤ 0 then (if 0 ≤ (IntKind.u64.wrap (wrap64 (-(wrap64 ((mx (wrap64 ((wrap64 ((wrap64 (t110 + (ji12))) - 1)) - a0_0)) t111) - (ji12)))))) then (ff_round.j0 k a1 (shl .u64 a2 (IntKind.u64.wrap (wrap64 (-(wrap64 ((mx (wrap64 ((wrap64 ((wrap64 (t110 + (ji12))) - 1)) - a0_0)) t111) - (ji12))))))) ji12 (wrap64 ((mx (wrap64 ((wrap64 ((wrap64 (t110 + (ji12))) - 1)) - a0_0)) t111) - (ji12))) a0_0 a0_1) else (none)) else (if (wrap64 ((mx (wrap64 ((wrap64 ((wrap64 (t110 + (ji12))) - 1)) - a0_0)) t111) - (ji12))) > 64 then (ff_round.j0 k a1 0 ji12 (wrap64 ((mx (wrap64 ((wrap64 ((wrap64 (t110 + (ji12))) - 1)) - a0_0)) t111) - (ji12))) a0_0 a0_1) else (if 0 ≤ (IntKind.u64.wrap (wrap64 (64 - (wrap64 ((mx (wrap64 ((wrap64 ((wrap64 (t110 + (ji12))) - 1)) - a0_0)) t111) - (ji12)))))) then (if 0 ≤ (IntKind.u64.wrap (wrap64 ((wrap64 ((mx (wrap64 ((wrap64 ((wrap64 (t110 + (ji12))) - 1)) - a0_0)) t111) - (ji12))) - 1))) then (if (shl .u64 a2 (IntKind.u64.wrap (wrap64 (64 - (wrap64 ((mx (wrap64 ((wrap64 ((wrap64 (t110 + (ji12))) - 1)) - a0_0)) t111) - (ji12))))))) > 9223372036854775808 then (ff_round.j0 k a1 (IntKind.u64.wrap ((shr .u64 (a2 / 2) (IntKind.u64.wrap (wrap64 ((wrap64 ((mx (wrap64 ((wrap64 ((wrap64 (t110 + (ji12))) - 1)) - a0_0)) t111) - (ji12))) - 1)))) + 1)) ji12 (wrap64 ((mx (wrap64 ((wrap64 ((wrap64 (t110 + (ji12))) - 1)) - a0_0)) t111) - (ji12))) a0_0 a0_1) else (if (shl .u64 a2 (IntKind.u64.wrap (wrap64 (64 - (wrap64 ((mx (wrap64 ((wrap64 ((wrap64 (t110 + (ji12))) - 1)) - a0_0)) t111) - (ji12))))))) = 9223372036854775808 then (if a4 = true then (ff_round.j0 k a1 (IntKind.u64.wrap ((shr .u64 (a2 / 2) (IntKind.u64.wrap (wrap64 ((wrap64 ((mx (wrap64 ((wrap64 ((wrap64 (t110 + (ji12))) - 1)) - a0_0)) t111) - (ji12))) - 1)))) + 1)) ji12 (wrap64 ((mx (wrap64 ((wrap64 ((wrap64 (t110 + (ji12))) - 1)) - a0_0)) t111) - (ji12))) a0_0 a0_1) else (if (Go.bits .and .u64 (shr .u64 (a2 / 2) (IntKind.u64.wrap (wrap64 ((wrap64 ((mx (wrap64 ((wrap64 ((wrap64 (t110 + (ji12))) - 1)) - a0_0)) t111) - (ji12))) - 1)))) 1) = 1 then (ff_round.j0 k a1 (IntKind.u64.wrap ((shr .u64 (a2 / 2) (IntKind.u64.wrap (wrap64 ((wrap64 ((mx (wrap64 ((wrap64 ((wrap64 (t110 + (ji12))) - 1)) - a0_0)) t111) - (ji12))) - 1)))) + 1)) ji12 (wrap64 ((mx (wrap64 ((wrap64 ((wrap64 (t110 + (ji12))) - 1)) - a0_0)) t111) - (ji12))) a0_0 a0_1) else (ff_round.j0 k a1 (shr .u64 (a2 / 2) (IntKind.u64.wrap (wrap64 ((wrap64 ((mx (wrap64 ((wrap64 ((wrap64 (t110 + (ji12))) - 1)) - a0_0)) t111) - (ji12))) - 1)))) ji12 (wrap64 ((mx (wrap64 ((wrap64 ((wrap64 (t110 + (ji12))) - 1)) - a0_0)) t111) - (ji12))) a0_0 a0_1))) else (ff_round.j0 k a1 (shr .u64 (a2 / 2) (IntKind.u64.wrap (wrap64 ((wrap64 ((mx (wrap64 ((wrap64 ((wrap64 (t110 + (ji12))) - 1)) - a0_0)) t111) - (ji12))) - 1)))) ji12 (wrap64 ((mx (wrap64 ((wrap64 ((wrap64 (t110 + (ji12))) - 1)) - a0_0)) t111) - (ji12))) a0_0 a0_1))) else (none)) else (none)))))) = some r := by first | (rw [hji12] at H; exact H) | (simp only [hji12] at H ⊢; exact H)
  have hji12_ : (if 5000 < (ji11) then 5000 else (ji11)) = ji12 := hji12
  replace H := zob H
  obtain ⟨t110, A130, H⟩ := H
  replace H : ((ff_least.f a0_0 a0_1).bind fun t111 => (if (wrap64 ((mx (wrap64 ((wrap64 ((wrap64 (t110 + (ji12))) - 1)) - a0_0)) t111) - (ji12))) ≤ 0 then (if 0 ≤ (IntKind.u64.wrap (wrap64 (-(wrap64 ((mx (wrap64 ((wrap64 ((wrap64 (t110 + (ji12))) - 1)) - a0_0)) t111) - (ji12)))))) then (ff_round.j0 k a1 (shl .u64 a2 (IntKind.u64.wrap (wrap64 (-(wrap64 ((mx (wrap64 ((wrap64 ((wrap64 (t110 + (ji12))) - 1)) - a0_0)) t111) - (ji12))))))) ji12 (wrap64 ((mx (wrap64 ((wrap64 ((wrap64 (t110 + (ji12))) - 1)) - a0_0)) t111) - (ji12))) a0_0 a0_1) else (none)) else (if (wrap64 ((mx (wrap64 ((wrap64 ((wrap64 (t110 + (ji12))) - 1)) - a0_0)) t111) - (ji12))) > 64 then (ff_round.j0 k a1 0 ji12 (wrap64 ((mx (wrap64 ((wrap64 ((wrap64 (t110 + (ji12))) - 1)) - a0_0)) t111) - (ji12))) a0_0 a0_1) else (if 0 ≤ (IntKind.u64.wrap (wrap64 (64 - (wrap64 ((mx (wrap64 ((wrap64 ((wrap64 (t110 + (ji12))) - 1)) - a0_0)) t111) - (ji12)))))) then (if 0 ≤ (IntKind.u64.wrap (wrap64 ((wrap64 ((mx (wrap64 ((wrap64 ((wrap64 (t110 + (ji12))) - 1)) - a0_0)) t111) - (ji12))) - 1))) then (if (shl .u64 a2 (IntKind.u64.wrap (wrap64 (64 - (wrap64 ((mx (wrap64 ((wrap64 ((wrap64 (t110 + (ji12))) - 1)) - a0_0)) t111) - (ji12))))))) > 9223372036854775808 then (ff_round.j0 k a1 (IntKind.u64.wrap ((shr .u64 (a2 / 2) (IntKind.u64.wrap (wrap64 ((wrap64 ((mx (wrap64 ((wrap64 ((wrap64 (t110 + (ji12))) - 1)) - a0_0)) t111) - (ji12))) - 1)))) + 1)) ji12 (wrap64 ((mx (wrap64 ((wrap64 ((wrap64 (t110 + (ji12))) - 1)) - a0_0)) t111) - (ji12))) a0_0 a0_1) else (if (shl .u64 a2 (IntKind.u64.wrap (wrap64 (64 - (wrap64 ((mx (wrap64 ((wrap64 ((wrap64 (t110 + (ji12))) - 1)) - a0_0)) t111) - (ji12))))))) = 9223372036854775808 then (if a4 = true then (ff_round.j0 k a1 (IntKind.u64.wrap ((shr .u64 (a2 / 2) (IntKind.u64.wrap (wrap64 ((wrap64 ((mx (wrap64 ((wrap64 ((wrap64 (t110 + (ji12))) - 1)) - a0_0)) t111) - (ji12))) - 1)))) + 1)) ji12 (wrap64 ((mx (wrap64 ((wrap64 ((wrap64 (t110 + (ji12))) - 1)) - a0_0)) t111) - (ji12))) a0_0 a0_1) else (if (Go.bits .and .u64 (shr .u64 (a2 / 2) (IntKind.u64.wrap (wrap64 ((wrap64 ((mx (wrap64 ((wrap64 ((wrap64 (t110 + (ji12))) - 1)) - a0_0)) t111) - (ji12))) - 1)))) 1) = 1 then (ff_round.j0 k a1 (IntKind.u64.wrap ((shr .u64 (a2 / 2) (IntKind.u64.wrap (wrap64 ((wrap64 ((mx (wrap64 ((wrap64 ((wrap64 (t110 + (ji12))) - 1)) - a0_0)) t111) - (ji12))) - 1)))) + 1)) ji12 (wrap64 ((mx (wrap64 ((wrap64 ((wrap64 (t110 + (ji12))) - 1)) - a0_0)) t111) - (ji12))) a0_0 a0_1) else (ff_round.j0 k a1 (shr .u64 (a2 / 2) (IntKind.u64.wrap (wrap64 ((wrap64 ((mx (wrap64 ((wrap64 ((wrap64 (t110 + (ji12))) - 1)) - a0_0)) t111) - (ji12))) - 1)))) ji12 (wrap64 ((mx (wrap64 ((wrap64 ((wrap64 (t110 + (ji12))) - 1)) - a0_0)) t111) - (ji12))) a0_0 a0_1))) else (ff_round.j0 k a1 (shr .u64 (a2 / 2) (IntKind.u64.wrap (wrap64 ((wrap64 ((mx (wrap64 ((wrap64 ((wrap64 (t110 + (ji12))) - 1)) - a0_0)) t111) - (ji12))) - 1)))) ji12 (wrap64 ((mx (wrap64 ((wrap64 ((wrap64 (t110 + (ji12))) - 1)) - a0_0)) t111) - (ji12))) a0_0 a0_1))) else (none)) else (none))))) = some r := H
  have A13 := As0.mk A130
  clear A130
  replace H := zob H
  obtain ⟨t111, A140, H⟩ := H
  replace H : (if (wrap64 ((mx (wrap64 ((wrap64 ((wrap64 (t110 + (ji12))) - 1)) - a0_0)) t111) - (ji12))) ≤ 0 then (if 0 ≤ (IntKind.u64.wrap (wrap64 (-(wrap64 ((mx (wrap64 ((wrap64 ((wrap64 (t110 + (ji12))) - 1)) - a0_0)) t111) - (ji12)))))) then (ff_round.j0 k a1 (shl .u64 a2 (IntKind.u64.wrap (wrap64 (-(wrap64 ((mx (wrap64 ((wrap64 ((wrap64 (t110 + (ji12))) - 1)) - a0_0)) t111) - (ji12))))))) ji12 (wrap64 ((mx (wrap64 ((wrap64 ((wrap64 (t110 + (ji12))) - 1)) - a0_0)) t111) - (ji12))) a0_0 a0_1) else (none)) else (if (wrap64 ((mx (wrap64 ((wrap64 ((wrap64 (t110 + (ji12))) - 1)) - a0_0)) t111) - (ji12))) > 64 then (ff_round.j0 k a1 0 ji12 (wrap64 ((mx (wrap64 ((wrap64 ((wrap64 (t110 + (ji12))) - 1)) - a0_0)) t111) - (ji12))) a0_0 a0_1) else (if 0 ≤ (IntKind.u64.wrap (wrap64 (64 - (wrap64 ((mx (wrap64 ((wrap64 ((wrap64 (t110 + (ji12))) - 1)) - a0_0)) t111) - (ji12)))))) then (if 0 ≤ (IntKind.u64.wrap (wrap64 ((wrap64 ((mx (wrap64 ((wrap64 ((wrap64 (t110 + (ji12))) - 1)) - a0_0)) t111) - (ji12))) - 1))) then (if (shl .u64 a2 (IntKind.u64.wrap (wrap64 (64 - (wrap64 ((mx (wrap64 ((wrap64 ((wrap64 (t110 + (ji12))) - 1)) - a0_0)) t111) - (ji12))))))) > 9223372036854775808 then (ff_round.j0 k a1 (IntKind.u64.wrap ((shr .u64 (a2 / 2) (IntKind.u64.wrap (wrap64 ((wrap64 ((mx (wrap64 ((wrap64 ((wrap64 (t110 + (ji12))) - 1)) - a0_0)) t111) - (ji12))) - 1)))) + 1)) ji12 (wrap64 ((mx (wrap64 ((wrap64 ((wrap64 (t110 + (ji12))) - 1)) - a0_0)) t111) - (ji12))) a0_0 a0_1) else (if (shl .u64 a2 (IntKind.u64.wrap (wrap64 (64 - (wrap64 ((mx (wrap64 ((wrap64 ((wrap64 (t110 + (ji12))) - 1)) - a0_0)) t111) - (ji12))))))) = 9223372036854775808 then (if a4 = true then (ff_round.j0 k a1 (IntKind.u64.wrap ((shr .u64 (a2 / 2) (IntKind.u64.wrap (wrap64 ((wrap64 ((mx (wrap64 ((wrap64 ((wrap64 (t110 + (ji12))) - 1)) - a0_0)) t111) - (ji12))) - 1)))) + 1)) ji12 (wrap64 ((mx (wrap64 ((wrap64 ((wrap64 (t110 + (ji12))) - 1)) - a0_0)) t111) - (ji12))) a0_0 a0_1) else (if (Go.bits .and .u64 (shr .u64 (a2 / 2) (IntKind.u64.wrap (wrap64 ((wrap64 ((mx (wrap64 ((wrap64 ((wrap64 (t110 + (ji12))) - 1)) - a0_0)) t111) - (ji12))) - 1)))) 1) = 1 then (ff_round.j0 k a1 (IntKind.u64.wrap ((shr .u64 (a2 / 2) (IntKind.u64.wrap (wrap64 ((wrap64 ((mx (wrap64 ((wrap64 ((wrap64 (t110 + (ji12))) - 1)) - a0_0)) t111) - (ji12))) - 1)))) + 1)) ji12 (wrap64 ((mx (wrap64 ((wrap64 ((wrap64 (t110 + (ji12))) - 1)) - a0_0)) t111) - (ji12))) a0_0 a0_1) else (ff_round.j0 k a1 (shr .u64 (a2 / 2) (IntKind.u64.wrap (wrap64 ((wrap64 ((mx (wrap64 ((wrap64 ((wrap64 (t110 + (ji12))) - 1)) - a0_0)) t111) - (ji12))) - 1)))) ji12 (wrap64 ((mx (wrap64 ((wrap64 ((wrap64 (t110 + (ji12))) - 1)) - a0_0)) t111) - (ji12))) a0_0 a0_1))) else (ff_round.j0 k a1 (shr .u64 (a2 / 2) (IntKind.u64.wrap (wrap64 ((wrap64 ((mx (wrap64 ((wrap64 ((wrap64 (t110 + (ji12))) - 1)) - a0_0)) t111) - (ji12))) - 1)))) ji12 (wrap64 ((mx (wrap64 ((wrap64 ((wrap64 (t110 + (ji12))) - 1)) - a0_0)) t111) - (ji12))) a0_0 a0_1))) else (none)) else (none)))) = some r := H
  have A14 := As0.mk A140
  clear A140
  obtain ⟨ji15, hji15⟩ : ∃ j_ : Int, (mx (wrap64 ((wrap64 ((wrap64 (t110 + (ji12))) - 1)) - a0_0)) t111) = j_ := ⟨_, rfl⟩
  replace H : (if (wrap64 ((ji15) - (ji12))) ≤ 0 then (if 0 ≤ (IntKind.u64.wrap (wrap64 (-(wrap64 ((ji15) - (ji12)))))) then (ff_round.j0 k a1 (shl .u64 a2 (IntKind.u64.wrap (wrap64 (-(wrap64 ((ji15) - (ji12))))))) ji12 (wrap64 ((ji15) - (ji12))) a0_0 a0_1) else (none)) else (if (wrap64 ((ji15) - (ji12))) > 64 then (ff_round.j0 k a1 0 ji12 (wrap64 ((ji15) - (ji12))) a0_0 a0_1) else (if 0 ≤ (IntKind.u64.wrap (wrap64 (64 - (wrap64 ((ji15) - (ji12)))))) then (if 0 ≤ (IntKind.u64.wrap (wrap64 ((wrap64 ((ji15) - (ji12))) - 1))) then (if (shl .u64 a2 (IntKind.u64.wrap (wrap64 (64 - (wrap64 ((ji15) - (ji12))))))) > 9223372036854775808 then (ff_round.j0 k a1 (IntKind.u64.wrap ((shr .u64 (a2 / 2) (IntKind.u64.wrap (wrap64 ((wrap64 ((ji15) - (ji12))) - 1)))) + 1)) ji12 (wrap64 ((ji15) - (ji12))) a0_0 a0_1) else (if (shl .u64 a2 (IntKind.u64.wrap (wrap64 (64 - (wrap64 ((ji15) - (ji12))))))) = 9223372036854775808 then (if a4 = true then (ff_round.j0 k a1 (IntKind.u64.wrap ((shr .u64 (a2 / 2) (IntKind.u64.wrap (wrap64 ((wrap64 ((ji15) - (ji12))) - 1)))) + 1)) ji12 (wrap64 ((ji15) - (ji12))) a0_0 a0_1) else (if (Go.bits .and .u64 (shr .u64 (a2 / 2) (IntKind.u64.wrap (wrap64 ((wrap64 ((ji15) - (ji12))) - 1)))) 1) = 1 then (ff_round.j0 k a1 (IntKind.u64.wrap ((shr .u64 (a2 / 2) (IntKind.u64.wrap (wrap64 ((wrap64 ((ji15) - (ji12))) - 1)))) + 1)) ji12 (wrap64 ((ji15) - (ji12))) a0_0 a0_1) else (ff_round.j0 k a1 (shr .u64 (a2 / 2) (IntKind.u64.wrap (wrap64 ((wrap64 ((ji15) - (ji12))) - 1)))) ji12 (wrap64 ((ji15) - (ji12))) a0_0 a0_1))) else (ff_round.j0 k a1 (shr .u64 (a2 / 2) (IntKind.u64.wrap (wrap64 ((wrap64 ((ji15) - (ji12))) - 1)))) ji12 (wrap64 ((ji15) - (ji12))) a0_0 a0_1))) else (none)) else (none)))) = some r := by first | (rw [hji15] at H; exact H) | (simp only [hji15] at H ⊢; exact H)
  (try rw [hji15] at A13)
  (try rw [hji15] at A14)
  have hji15_ : (if (wrap64 ((wrap64 ((wrap64 (t110 + (ji12))) - 1)) - a0_0)) < t111 then t111 else (wrap64 ((wrap64 ((wrap64 (t110 + (ji12))) - 1)) - a0_0))) = ji15 := hji15
  have HC16 := As0.mk H
  clear H
  go_enter Try.func33, Try.ntmps33
  try go_wp2_with (first | ((with_reducible refine gate_dst (N := 5) rfl ?_); refine box_event ?hg (N := 5) ?hd (cs := #[.int .i64 a0_0, .int .i64 a0_1]) (t := 43) ?hr ?_; (case hd => rfl); (case hg => rfl); (case hr => first | (go_simp; done) | (go_simp; rfl)); intro gb108 hg w17 hbox hb; have n0_ := As0.mk (bst (by repeat (first | (with_reducible first | exact HB.out | apply bal | apply pwB_ | apply bd1) | exact HB.out)) hb); have n1_ := As0.mk (hbox); have n2_ := As0.mk ((by rw [hg]; exact (below_size (by repeat (first | (with_reducible first | exact HB.out | apply bal | apply pwB_ | apply bd1) | exact HB.out))) : w.heap.size ≤ gb108)); have n3_ := As0.mk ((by rw [hg]; exact (below_size (by repeat (first | (with_reducible first | exact HB.out | apply bal | apply pwB_ | apply bd1) | exact HB.out))) : w.heap.size ≤ gb108)); clear HB; have HB := n0_; have BK108 := n1_; have GW108 := n2_; have GE108 := n3_; clear n0_ n1_ n2_ n3_; clear hb hbox hg))
  have n0_ := As0.mk (bkd BK108.out)
  have n1_ := As0.mk (bd1 HB.out)
  clear BK108
  clear HB
  have BK108 := n0_
  have HB := n1_
  clear n0_ n1_
  refine start_ (n := 14) (S := fun w' => w'.cell? ⟨gb108, 0, none⟩ = some (.int .i64 a0_0) ∧ w'.cell? ⟨gb108, 1, none⟩ = some (.int .i64 a0_1)) (ds := []) #[false, false, false, false, false, false, false, false, false, false, false, false, false, false] (by kernel_rfl) rfl rfl ⟨(bce BK108.out 0).trans rfl, (bce BK108.out 1).trans rfl⟩ (fun hHeld => ?_); refine with_tabW ff_round.tab4 ff_round.bits4 (fun HT_ HW_ => ?_)
  generalize w17.drew = w18 at BK108 HB hHeld ⊢
  refine pure_ (i := 0) (N := some 22) (v := ?_) (a' := ?_) #[true, false, false, false, false, false, false, false, false, false, false, false, false, false] rfl rfl (any_of HT_.out (by kernel_rfl)) (fun _ _ _ h => h) (Or.inl ⟨by rfl, ?_⟩) ?_ ?_
  rotate_left
  ·intro w'
   go_simp
   with_reducible rfl
  rotate_left
  ·simp only [Act.put, zsi, zcz, zcs, i64_w, i32_w]
   rfl
  refine pure_ (i := 2) (N := some 24) (v := ?_) (a' := ?_) #[true, false, true, false, false, false, false, false, false, false, false, false, false, false] rfl rfl (any_of HT_.out (by kernel_rfl)) (fun _ _ _ h => h) (Or.inl ⟨by rfl, ?_⟩) ?_ ?_
  rotate_left
  ·intro w'
   go_simp
   with_reducible rfl
  rotate_left
  ·simp only [Act.put, zsi, zcz, zcs, i64_w, i32_w]
   rfl
  refine pure_ (i := 5) (N := some 27) (v := ?_) (a' := ?_) #[true, false, true, false, false, true, false, false, false, false, false, false, false, false] rfl rfl (any_of HT_.out (by kernel_rfl)) (fun _ _ _ h => h) (Or.inl ⟨by rfl, ?_⟩) ?_ ?_
  rotate_left
  ·intro w'
   go_simp
   with_reducible rfl
  rotate_left
  ·simp only [Act.put, zsi, zcz, zcs, i64_w, i32_w]
   rfl
  refine pure_ (i := 11) (N := some 33) (v := ?_) (a' := ?_) #[true, false, true, false, false, true, false, false, false, false, false, true, false, false] rfl rfl (any_of HT_.out (by kernel_rfl)) (fun _ _ _ h => h) (Or.inl ⟨by rfl, ?_⟩) ?_ ?_
  rotate_left
  ·intro w'
   go_simp
   with_reducible rfl
  rotate_left
  ·simp only [Act.put, zsi, zcz, zcs, i64_w, i32_w]
   rfl
  refine take_ (i := 6) (N := some 28) (v := ?_) (a' := ?_) #[true, false, true, false, false, true, true, false, false, false, false, true, false, false] rfl rfl (take_ofW HT_.out HW_.out (by kernel_rfl)) (fun _ _ _ h => h) (Or.inl ⟨by rfl, ?_⟩) hHeld ?_ ?_
  rotate_left
  ·rintro w' ⟨s0, s1⟩
   go_simp
   with_reducible rfl
  rotate_left
  ·simp only [Act.put, zsi, zcz, zcs, i64_w, i32_w]
   rfl
  refine take_ (i := 8) (N := some 30) (v := ?_) (a' := ?_) #[true, false, true, false, false, true, true, false, true, false, false, true, false, false] rfl rfl (take_ofW HT_.out HW_.out (by kernel_rfl)) (fun _ _ _ h => h) (Or.inl ⟨by rfl, ?_⟩) hHeld ?_ ?_
  rotate_left
  ·rintro w' ⟨s0, s1⟩
   go_simp
   with_reducible rfl
  rotate_left
  ·simp only [Act.put, zsi, zcz, zcs, i64_w, i32_w]
   rfl
  refine one_ (i := 1) (N := some 23) #[true, true, true, false, false, true, true, false, true, false, false, true, false, false] rfl rfl (one_of HT_.out (by kernel_rfl)) (by decide) (fun K hK => ?_)
  refine goes_ Try.func63 (by kernel_rfl) rfl #[.int .u64 a2] (by rfl) rfl rfl (by (try simp only [zmt, zmc, zmn]); first | done | rfl) ?_
  with_reducible refine (bits_Len64.calls a2 t110 _ A13.out).mono ?_
  rintro e w' ⟨rfl, ⟨nd, rfl⟩⟩
  refine ⟨_, rfl, ?_⟩
  refine hK.out _ _ ⟨(bce BK108.out 0).trans rfl, (bce BK108.out 1).trans rfl⟩ (fun hHeld => ?_)
  clear hK K
  refine norm_ (a' := ?_) ?_ ?_
  rotate_left
  ·show Act.put _ (some 23) _ = _
   simp only [Act.put, zsi, zcz, zcs, i64_w, i32_w]
   rfl
  refine pure_ (i := 3) (N := some 25) (v := ?_) (a' := ?_) #[true, true, true, true, false, true, true, false, true, false, false, true, false, false] rfl rfl (any_of HT_.out (by kernel_rfl)) (fun _ _ _ h => h) (Or.inl ⟨by rfl, ?_⟩) ?_ ?_
  rotate_left
  ·intro w'
   go_simp
   with_reducible rfl
  rotate_left
  ·simp only [Act.put, zsi, zcz, zcs, i64_w, i32_w]
   rfl
  refine pure_ (i := 4) (N := some 26) (v := ?_) (a' := ?_) #[true, true, true, true, true, true, true, false, true, false, false, true, false, false] rfl rfl (any_of HT_.out (by kernel_rfl)) (fun _ _ _ h => h) (Or.inl ⟨by rfl, ?_⟩) ?_ ?_
  rotate_left
  ·intro w'
   go_simp
   with_reducible rfl
  rotate_left
  ·simp only [Act.put, zsi, zcz, zcs, i64_w, i32_w]
   rfl
  refine pure_ (i := 7) (N := some 29) (v := ?_) (a' := ?_) #[true, true, true, true, true, true, true, true, true, false, false, true, false, false] rfl rfl (any_of HT_.out (by kernel_rfl)) (fun _ _ _ h => h) (Or.inl ⟨by rfl, ?_⟩) ?_ ?_
  rotate_left
  ·intro w'
   go_simp
   with_reducible rfl
  rotate_left
  ·simp only [Act.put, zsi, zcz, zcs, i64_w, i32_w]
   rfl
  refine one_ (i := 9) (N := some 31) #[true, true, true, true, true, true, true, true, true, true, false, true, false, false] rfl rfl (one_of HT_.out (by kernel_rfl)) (by decide) (fun K hK => ?_)
  refine goes_ Try.func64 (by kernel_rfl) rfl #[.agg #[.int .i64 a0_0, .int .i64 a0_1]] (by rfl) rfl rfl (by (try simp only [zmt, zmc, zmn]); first | done | rfl) ?_
  with_reducible refine (ff_least.calls a0_0 a0_1 t111 _ A14.out).mono ?_
  rintro e w19 ⟨rfl, hb⟩
  refine ⟨_, rfl, ?_⟩
  have n0_ := As0.mk (bkb (g := gb108) (o := .cells #[.int .i64 a0_0, .int .i64 a0_1] 43 (0, 0)) (by (with_reducible repeat (first | refine bkN ?_ _ | refine bkd ?_ | refine bka ?_ _)); exact BK108.out) hb)
  have n1_ := As0.mk (bst (by repeat (first | (with_reducible first | exact HB.out | apply bal | apply pwB_ | apply bd1 | refine bse ?_ GE108.out) | exact HB.out)) hb)
  clear BK108
  clear HB
  have BK108 := n0_
  have HB := n1_
  clear n0_ n1_
  (try clear hb)
  (try clear hb2)
  (try clear hk)
  (try clear hi)
  refine hK.out _ _ ⟨(bce BK108.out 0).trans rfl, (bce BK108.out 1).trans rfl⟩ (fun hHeld => ?_)
  clear hK K
  refine norm_ (a' := ?_) ?_ ?_
  rotate_left
  ·show Act.put _ (some 31) _ = _
   simp only [Act.put, zsi, zcz, zcs, i64_w, i32_w]
   rfl
  refine pure_ (i := 10) (N := some 32) (v := ?_) (a' := ?_) #[true, true, true, true, true, true, true, true, true, true, true, true, false, false] rfl rfl (any_of HT_.out (by kernel_rfl)) (fun _ _ _ h => h) (Or.inl ⟨by rfl, ?_⟩) ?_ ?_
  rotate_left
  ·intro w'
   go_simp
   with_reducible rfl
  rotate_left
  ·simp only [Act.put, zsi, zcz, zcs, i64_w, i32_w]
   rfl
  refine pure_ (i := 12) (N := some 34) (v := ?_) (a' := ?_) #[true, true, true, true, true, true, true, true, true, true, true, true, true, false] rfl rfl (any_of HT_.out (by kernel_rfl)) (fun _ _ _ h => h) (Or.inl ⟨by rfl, ?_⟩) ?_ ?_
  rotate_left
  ·intro w'
   go_simp
   with_reducible rfl
  rotate_left
  ·simp only [Act.put, zsi, zcz, zcs, i64_w, i32_w]
   rfl
  refine pure_ (i := 13) (N := some 11) (v := ?_) (a' := ?_) #[true, true, true, true, true, true, true, true, true, true, true, true, true, true] rfl rfl (any_of HT_.out (by kernel_rfl)) (fun _ _ _ h => h) (Or.inl ⟨by rfl, ?_⟩) ?_ ?_
  rotate_left
  ·intro w'
   go_simp
   with_reducible rfl
  rotate_left
  ·simp only [Act.put, zsi, zcz, zcs, i64_w, i32_w]
   rfl
  refine done_ (done_of HT_.out (by kernel_rfl)) ?_
  go_upto_block 0 with (fail)
  go_cut [2] (fun v2 wc => ∃ (kq : Nat) (x2_15 : Int), v2 = .int .u64 x2_15 ∧ As0 (ff_round.j0 kq a1 x2_15 ji12 (wrap64 ((ji15) - (ji12))) a0_0 a0_1 = some r) ∧ As0 (kq ≤ k) ∧ As0 (wc.heap[gb108]? = some (.cells #[.int .i64 a0_0, .int .i64 a0_1] 43 (0, 0))) ∧ As0 (Below w.heap.size w wc))
  case first =>
   have H := HC16.out
   clear HC16
   by_cases c20 : (wrap64 ((ji15) - (ji12))) ≤ 0
   ·rw [if_pos c20] at H
    have c20b0 : decide ((wrap64 ((ji15) - (ji12))) ≤ 0) = true := decide_eq_true c20
    clear c20
    (first | rw [c20b0] | (simp only [i64_w, i32_w]; rw [c20b0]) | skip)
    obtain ⟨ji21, hji21⟩ : ∃ j_ : Int, (IntKind.u64.wrap (wrap64 (-(wrap64 ((ji15) - (ji12)))))) = j_ := ⟨_, rfl⟩
    replace H : (if 0 ≤ (ji21) then (ff_round.j0 k a1 (shl .u64 a2 (ji21)) ji12 (wrap64 ((ji15) - (ji12))) a0_0 a0_1) else (none)) = some r := by first | (rw [hji21] at H; exact H) | (simp only [hji21] at H ⊢; exact H)
    by_cases c22 : 0 ≤ (ji21)
    ·rw [if_pos c22] at H
     have c22b0 := eq_true c22
     have c22b1 : decide (0 ≤ (ji21)) = true := decide_eq_true c22
     clear c22
     obtain ⟨ji23, hji23⟩ : ∃ j_ : Int, (shl .u64 a2 (ji21)) = j_ := ⟨_, rfl⟩
     replace H : (ff_round.j0 k a1 ji23 ji12 (wrap64 ((ji15) - (ji12))) a0_0 a0_1) = some r := by first | (rw [hji23] at H; exact H) | (simp only [hji23] at H ⊢; exact H)
     have hji23_ : (IntKind.u64.wrap (a2 * 2 ^ min (ji21).toNat 64)) = ji23 := hji23
     have hji23z : (ji21) ≤ 64 → (IntKind.u64.wrap (a2 * 2 ^ (ji21).toNat)) = ji23 := shl_small hji23
     have H' := As0.mk H
     clear H
     go_wp2
     go_meet
     case rel => exact ⟨_, (ji23), (by first | rfl | (simp; done) | (simp only [← hji23] <;> (first | rfl | simp)) | (simp [*]; done)), H', ⟨by first | omega | exact Nat.le_refl _⟩, ⟨by (with_reducible repeat (first | refine bkN ?_ _ | refine bkd ?_ | refine bka ?_ _)); exact BK108.out⟩, ⟨by repeat (first | (with_reducible first | exact HB.out | apply bal | apply pwB_ | apply bd1 | refine bse ?_ GE108.out) | exact HB.out)⟩⟩
    ·rw [if_neg c22] at H
     exact absurd H (by simp)
   ·rw [if_neg c20] at H
    have c20b0 : decide ((wrap64 ((ji15) - (ji12))) ≤ 0) = false := decide_eq_false c20
    clear c20
    (first | rw [c20b0] | (simp only [i64_w, i32_w]; rw [c20b0]) | skip)
    by_cases c24 : (wrap64 ((ji15) - (ji12))) > 64
    ·rw [if_pos c24] at H
     have c24b0 : decide (64 < (wrap64 ((ji15) - (ji12)))) = true := decide_eq_true c24
     clear c24
     have H' := As0.mk H
     clear H
     go_wp2
     go_meet
     case rel => exact ⟨_, (0), (by first | rfl | (simp; done) | (simp [*]; done)), H', ⟨by first | omega | exact Nat.le_refl _⟩, ⟨by (with_reducible repeat (first | refine bkN ?_ _ | refine bkd ?_ | refine bka ?_ _)); exact BK108.out⟩, ⟨by repeat (first | (with_reducible first | exact HB.out | apply bal | apply pwB_ | apply bd1 | refine bse ?_ GE108.out) | exact HB.out)⟩⟩
    ·rw [if_neg c24] at H
     have c24b0 : decide (64 < (wrap64 ((ji15) - (ji12)))) = false := decide_eq_false c24
     clear c24
     obtain ⟨ji25, hji25⟩ : ∃ j_ : Int, (IntKind.u64.wrap (wrap64 (64 - (wrap64 ((ji15) - (ji12)))))) = j_ := ⟨_, rfl⟩
     replace H : (if 0 ≤ (ji25) then (if 0 ≤ (IntKind.u64.wrap (wrap64 ((wrap64 ((ji15) - (ji12))) - 1))) then (if (shl .u64 a2 (ji25)) > 9223372036854775808 then (ff_round.j0 k a1 (IntKind.u64.wrap ((shr .u64 (a2 / 2) (IntKind.u64.wrap (wrap64 ((wrap64 ((ji15) - (ji12))) - 1)))) + 1)) ji12 (wrap64 ((ji15) - (ji12))) a0_0 a0_1) else (if (shl .u64 a2 (ji25)) = 9223372036854775808 then (if a4 = true then (ff_round.j0 k a1 (IntKind.u64.wrap ((shr .u64 (a2 / 2) (IntKind.u64.wrap (wrap64 ((wrap64 ((ji15) - (ji12))) - 1)))) + 1)) ji12 (wrap64 ((ji15) - (ji12))) a0_0 a0_1) else (if (Go.bits .and .u64 (shr .u64 (a2 / 2) (IntKind.u64.wrap (wrap64 ((wrap64 ((ji15) - (ji12))) - 1)))) 1) = 1 then (ff_round.j0 k a1 (IntKind.u64.wrap ((shr .u64 (a2 / 2) (IntKind.u64.wrap (wrap64 ((wrap64 ((ji15) - (ji12))) - 1)))) + 1)) ji12 (wrap64 ((ji15) - (ji12))) a0_0 a0_1) else (ff_round.j0 k a1 (shr .u64 (a2 / 2) (IntKind.u64.wrap (wrap64 ((wrap64 ((ji15) - (ji12))) - 1)))) ji12 (wrap64 ((ji15) - (ji12))) a0_0 a0_1))) else (ff_round.j0 k a1 (shr .u64 (a2 / 2) (IntKind.u64.wrap (wrap64 ((wrap64 ((ji15) - (ji12))) - 1)))) ji12 (wrap64 ((ji15) - (ji12))) a0_0 a0_1))) else (none)) else (none)) = some r := by first | (rw [hji25] at H; exact H) | (simp only [hji25] at H ⊢; exact H)
     by_cases c26 : 0 ≤ (ji25)
     ·rw [if_pos c26] at H
      have c26b0 := eq_true c26
      have c26b1 : decide (0 ≤ (ji25)) = true := decide_eq_true c26
      clear c26
      obtain ⟨ji27, hji27⟩ : ∃ j_ : Int, (shl .u64 a2 (ji25)) = j_ := ⟨_, rfl⟩
      replace H : (if 0 ≤ (IntKind.u64.wrap (wrap64 ((wrap64 ((ji15) - (ji12))) - 1))) then (if (ji27) > 9223372036854775808 then (ff_round.j0 k a1 (IntKind.u64.wrap ((shr .u64 (a2 / 2) (IntKind.u64.wrap (wrap64 ((wrap64 ((ji15) - (ji12))) - 1)))) + 1)) ji12 (wrap64 ((ji15) - (ji12))) a0_0 a0_1) else (if (ji27) = 9223372036854775808 then (if a4 = true then (ff_round.j0 k a1 (IntKind.u64.wrap ((shr .u64 (a2 / 2) (IntKind.u64.wrap (wrap64 ((wrap64 ((ji15) - (ji12))) - 1)))) + 1)) ji12 (wrap64 ((ji15) - (ji12))) a0_0 a0_1) else (if (Go.bits .and .u64 (shr .u64 (a2 / 2) (IntKind.u64.wrap (wrap64 ((wrap64 ((ji15) - (ji12))) - 1)))) 1) = 1 then (ff_round.j0 k a1 (IntKind.u64.wrap ((shr .u64 (a2 / 2) (IntKind.u64.wrap (wrap64 ((wrap64 ((ji15) - (ji12))) - 1)))) + 1)) ji12 (wrap64 ((ji15) - (ji12))) a0_0 a0_1) else (ff_round.j0 k a1 (shr .u64 (a2 / 2) (IntKind.u64.wrap (wrap64 ((wrap64 ((ji15) - (ji12))) - 1)))) ji12 (wrap64 ((ji15) - (ji12))) a0_0 a0_1))) else (ff_round.j0 k a1 (shr .u64 (a2 / 2) (IntKind.u64.wrap (wrap64 ((wrap64 ((ji15) - (ji12))) - 1)))) ji12 (wrap64 ((ji15) - (ji12))) a0_0 a0_1))) else (none)) = some r := by first | (rw [hji27] at H; exact H) | (simp only [hji27] at H ⊢; exact H)
      have hji27_ : (IntKind.u64.wrap (a2 * 2 ^ min (ji25).toNat 64)) = ji27 := hji27
      have hji27z : (ji25) ≤ 64 → (IntKind.u64.wrap (a2 * 2 ^ (ji25).toNat)) = ji27 := shl_small hji27
      obtain ⟨ji28, hji28⟩ : ∃ j_ : Int, (IntKind.u64.wrap (wrap64 ((wrap64 ((ji15) - (ji12))) - 1))) = j_ := ⟨_, rfl⟩
      replace H : (if 0 ≤ (ji28) then (if (ji27) > 9223372036854775808 then (ff_round.j0 k a1 (IntKind.u64.wrap ((shr .u64 (a2 / 2) (ji28)) + 1)) ji12 (wrap64 ((ji15) - (ji12))) a0_0 a0_1) else (if (ji27) = 9223372036854775808 then (if a4 = true then (ff_round.j0 k a1 (IntKind.u64.wrap ((shr .u64 (a2 / 2) (ji28)) + 1)) ji12 (wrap64 ((ji15) - (ji12))) a0_0 a0_1) else (if (Go.bits .and .u64 (shr .u64 (a2 / 2) (ji28)) 1) = 1 then (ff_round.j0 k a1 (IntKind.u64.wrap ((shr .u64 (a2 / 2) (ji28)) + 1)) ji12 (wrap64 ((ji15) - (ji12))) a0_0 a0_1) else (ff_round.j0 k a1 (shr .u64 (a2 / 2) (ji28)) ji12 (wrap64 ((ji15) - (ji12))) a0_0 a0_1))) else (ff_round.j0 k a1 (shr .u64 (a2 / 2) (ji28)) ji12 (wrap64 ((ji15) - (ji12))) a0_0 a0_1))) else (none)) = some r := by first | (rw [hji28] at H; exact H) | (simp only [hji28] at H ⊢; exact H)
      by_cases c29 : 0 ≤ (ji28)
      ·rw [if_pos c29] at H
       have c29b0 := eq_true c29
       have c29b1 : decide (0 ≤ (ji28)) = true := decide_eq_true c29
       clear c29
       obtain ⟨ji30, hji30⟩ : ∃ j_ : Int, (shr .u64 (a2 / 2) (ji28)) = j_ := ⟨_, rfl⟩
       replace H : (if (ji27) > 9223372036854775808 then (ff_round.j0 k a1 (IntKind.u64.wrap ((ji30) + 1)) ji12 (wrap64 ((ji15) - (ji12))) a0_0 a0_1) else (if (ji27) = 9223372036854775808 then (if a4 = true then (ff_round.j0 k a1 (IntKind.u64.wrap ((ji30) + 1)) ji12 (wrap64 ((ji15) - (ji12))) a0_0 a0_1) else (if (Go.bits .and .u64 (ji30) 1) = 1 then (ff_round.j0 k a1 (IntKind.u64.wrap ((ji30) + 1)) ji12 (wrap64 ((ji15) - (ji12))) a0_0 a0_1) else (ff_round.j0 k a1 ji30 ji12 (wrap64 ((ji15) - (ji12))) a0_0 a0_1))) else (ff_round.j0 k a1 ji30 ji12 (wrap64 ((ji15) - (ji12))) a0_0 a0_1))) = some r := by first | (rw [hji30] at H; exact H) | (simp only [hji30] at H ⊢; exact H)
       have hji30_ : ((a2 / 2) / 2 ^ min (ji28).toNat 64) = ji30 := hji30
       have hji30z : (ji28) ≤ 64 → ((a2 / 2) / 2 ^ (ji28).toNat) = ji30 := shr_small hji30
       by_cases c31 : (ji27) > 9223372036854775808
       ·rw [if_pos c31] at H
        have c31b0 : decide (9223372036854775808 < (ji27)) = true := decide_eq_true c31
        clear c31
        have H' := As0.mk H
        clear H
        go_wp2
        go_meet
        case rel => exact ⟨_, (IntKind.u64.wrap ((ji30) + 1)), (by first | rfl | (simp; done) | (simp only [← hji30] <;> (first | rfl | simp)) | (simp [*]; done)), H', ⟨by first | omega | exact Nat.le_refl _⟩, ⟨by (with_reducible repeat (first | refine bkN ?_ _ | refine bkd ?_ | refine bka ?_ _)); exact BK108.out⟩, ⟨by repeat (first | (with_reducible first | exact HB.out | apply bal | apply pwB_ | apply bd1 | refine bse ?_ GE108.out) | exact HB.out)⟩⟩
       ·rw [if_neg c31] at H
        have c31b0 : decide (9223372036854775808 < (ji27)) = false := decide_eq_false c31
        clear c31
        by_cases c32 : (ji27) = 9223372036854775808
        ·rw [if_pos c32] at H
         have c32b0 : ((ji27) == 9223372036854775808) = true := beq_iff_eq.mpr c32
         have c32b1 : ((ji27) != 9223372036854775808) = false := bne_eq_false_iff_eq.mpr c32
         clear c32
         by_cases c33 : a4 = true
         ·subst c33
          have H1 : (ff_round.j0 k a1 (IntKind.u64.wrap ((ji30) + 1)) ji12 (wrap64 ((ji15) - (ji12))) a0_0 a0_1) = some r := by rw [if_pos rfl] at H; exact H
          clear H
          have H := H1
          clear H1
          have H' := As0.mk H
          clear H
          go_wp2
          go_meet
          case rel => exact ⟨_, (IntKind.u64.wrap ((ji30) + 1)), (by first | rfl | (simp; done) | (simp only [← hji30] <;> (first | rfl | simp)) | (simp [*]; done)), H', ⟨by first | omega | exact Nat.le_refl _⟩, ⟨by (with_reducible repeat (first | refine bkN ?_ _ | refine bkd ?_ | refine bka ?_ _)); exact BK108.out⟩, ⟨by repeat (first | (with_reducible first | exact HB.out | apply bal | apply pwB_ | apply bd1 | refine bse ?_ GE108.out) | exact HB.out)⟩⟩
         ·replace c33 := Bool.eq_false_iff.mpr c33
          subst c33
          have H1 : (if (Go.bits .and .u64 (ji30) 1) = 1 then (ff_round.j0 k a1 (IntKind.u64.wrap ((ji30) + 1)) ji12 (wrap64 ((ji15) - (ji12))) a0_0 a0_1) else (ff_round.j0 k a1 ji30 ji12 (wrap64 ((ji15) - (ji12))) a0_0 a0_1)) = some r := by rw [if_neg (show ¬ (false = true) by decide)] at H; exact H
          clear H
          have H := H1
          clear H1
          by_cases c34 : (Go.bits .and .u64 (ji30) 1) = 1
          ·rw [if_pos c34] at H
           have c34b0 : ((Go.bits .and .u64 (ji30) 1) == 1) = true := beq_iff_eq.mpr c34
           have c34b1 : ((Go.bits .and .u64 (ji30) 1) != 1) = false := bne_eq_false_iff_eq.mpr c34
           clear c34
           have H' := As0.mk H
           clear H
           go_wp2
           go_meet
           case rel => exact ⟨_, (IntKind.u64.wrap ((ji30) + 1)), (by first | rfl | (simp; done) | (simp only [← hji30] <;> (first | rfl | simp)) | (simp [*]; done)), H', ⟨by first | omega | exact Nat.le_refl _⟩, ⟨by (with_reducible repeat (first | refine bkN ?_ _ | refine bkd ?_ | refine bka ?_ _)); exact BK108.out⟩, ⟨by repeat (first | (with_reducible first | exact HB.out | apply bal | apply pwB_ | apply bd1 | refine bse ?_ GE108.out) | exact HB.out)⟩⟩
          ·rw [if_neg c34] at H
           have c34b0 : ((Go.bits .and .u64 (ji30) 1) == 1) = false := beq_eq_false_iff_ne.mpr c34
           have c34b1 : ((Go.bits .and .u64 (ji30) 1) != 1) = true := bne_iff_ne.mpr c34
           have H' := As0.mk H
           clear H
           go_wp2
           go_meet
           case rel => exact ⟨_, (ji30), (by first | rfl | (simp; done) | (simp only [← hji30] <;> (first | rfl | simp)) | (simp [*]; done)), H', ⟨by first | omega | exact Nat.le_refl _⟩, ⟨by (with_reducible repeat (first | refine bkN ?_ _ | refine bkd ?_ | refine bka ?_ _)); exact BK108.out⟩, ⟨by repeat (first | (with_reducible first | exact HB.out | apply bal | apply pwB_ | apply bd1 | refine bse ?_ GE108.out) | exact HB.out)⟩⟩
        ·rw [if_neg c32] at H
         have c32b0 : ((ji27) == 9223372036854775808) = false := beq_eq_false_iff_ne.mpr c32
         have c32b1 : ((ji27) != 9223372036854775808) = true := bne_iff_ne.mpr c32
         have H' := As0.mk H
         clear H
         go_wp2
         go_meet
         case rel => exact ⟨_, (ji30), (by first | rfl | (simp; done) | (simp only [← hji30] <;> (first | rfl | simp)) | (simp [*]; done)), H', ⟨by first | omega | exact Nat.le_refl _⟩, ⟨by (with_reducible repeat (first | refine bkN ?_ _ | refine bkd ?_ | refine bka ?_ _)); exact BK108.out⟩, ⟨by repeat (first | (with_reducible first | exact HB.out | apply bal | apply pwB_ | apply bd1 | refine bse ?_ GE108.out) | exact HB.out)⟩⟩
      ·rw [if_neg c29] at H
       exact absurd H (by simp)
     ·rw [if_neg c26] at H
      exact absurd H (by simp)
  case rest =>
   clear HC16
   try clear c2
   try clear p2
   try clear c3
   try clear c6
   try clear c6b0
   try clear c6b1
   try clear p6
   try clear c20
   try clear c20b0
   try clear c22
   try clear c22b0
   try clear c22b1
   try clear c24
   try clear c24b0
   try clear c26
   try clear c26b0
   try clear c26b1
   try clear c29
   try clear c29b0
   try clear c29b1
   try clear c31
   try clear c31b0
   try clear c32
   try clear c32b0
   try clear c32b1
   try clear c33
   try clear c34
   try clear c34b0
   try clear c34b1
   try clear hcz9_0
   try clear hcz9_1
   try clear hfz9_0
   try clear hfz9_1
   obtain ⟨kq, x2_15, rfl, HA, HJ15, BK108, HB⟩ := hcut
   cases kq with
   | zero => exact absurd HA.out (by simp [ff_round.j0])
   | succ kj15 =>
    have H := HA.out
    clear HA
    simp only [ff_round.j0] at H
    obtain ⟨ji35, hji35⟩ : ∃ j_ : Int, (IntKind.u64.wrap (a0_0)) = j_ := ⟨_, rfl⟩
    replace H : (if 0 ≤ (ji35) then (if x2_15 ≥ (shl .u64 1 (ji35)) then ((ff_least.f a0_0 a0_1).bind fun t112 => (ff_round.j1 kj15 a1 x2_15 (wrap64 ((wrap64 (ji12 + (wrap64 ((ji15) - (ji12))))) - t112)) a0_0 a0_1)) else (ff_round.j1 kj15 a1 x2_15 0 a0_0 a0_1)) else (none)) = some r := by first | (rw [hji35] at H; exact H) | (simp only [hji35] at H ⊢; exact H)
    by_cases c36 : 0 ≤ (ji35)
    ·rw [if_pos c36] at H
     have c36b0 := eq_true c36
     have c36b1 : decide (0 ≤ (ji35)) = true := decide_eq_true c36
     clear c36
     obtain ⟨ji37, hji37⟩ : ∃ j_ : Int, (shl .u64 1 (ji35)) = j_ := ⟨_, rfl⟩
     replace H : (if x2_15 ≥ (ji37) then ((ff_least.f a0_0 a0_1).bind fun t112 => (ff_round.j1 kj15 a1 x2_15 (wrap64 ((wrap64 (ji12 + (wrap64 ((ji15) - (ji12))))) - t112)) a0_0 a0_1)) else (ff_round.j1 kj15 a1 x2_15 0 a0_0 a0_1)) = some r := by first | (rw [hji37] at H; exact H) | (simp only [hji37] at H ⊢; exact H)
     have hji37_ : (IntKind.u64.wrap (1 * 2 ^ min (ji35).toNat 64)) = ji37 := hji37
     have hji37z : (ji35) ≤ 64 → (IntKind.u64.wrap (1 * 2 ^ (ji35).toNat)) = ji37 := shl_small hji37
     have hji37u : (IntKind.u64.wrap (2 ^ min (ji35).toNat 64)) = ji37 := by have h_ := hji37_; rw [Int.one_mul] at h_; exact h_
     have hji37v : (ji35) ≤ 64 → (IntKind.u64.wrap (2 ^ (ji35).toNat)) = ji37 := fun hle_ => by have h_ := hji37z hle_; rw [Int.one_mul] at h_; exact h_
     have HC38 := As0.mk H
     clear H
     have hcz39_0 : wc.cell? ⟨gb108, 0, none⟩ = some (.int .i64 a0_0) := (bce BK108.out 0).trans rfl
     have hcz39_1 : wc.cell? ⟨gb108, 1, none⟩ = some (.int .i64 a0_1) := (bce BK108.out 1).trans rfl
     have hfz39_0 := bkf BK108.out 0
     have hfz39_1 := bkf BK108.out 1
     go_upto_if 78 with (fail)
     go_cut [13] (fun v13 wc => ∃ (kq : Nat) (x13_37 : Int), v13 = .int .i64 x13_37 ∧ As0 (ff_round.j1 kq a1 x2_15 x13_37 a0_0 a0_1 = some r) ∧ As0 (kq ≤ kj15) ∧ As0 (wc.heap[gb108]? = some (.cells #[.int .i64 a0_0, .int .i64 a0_1] 43 (0, 0))) ∧ As0 (Below w.heap.size w wc))
     case first =>
      have H := HC38.out
      clear HC38
      by_cases c40 : x2_15 ≥ (ji37)
      ·rw [if_pos c40] at H
       have c40b0 : decide ((ji37) ≤ x2_15) = true := decide_eq_true c40
       clear c40
       (first | rw [c40b0] | (simp only [i64_w, i32_w]; rw [c40b0]) | skip)
       replace H := zob H
       obtain ⟨t112, A410, H⟩ := H
       replace H : (ff_round.j1 kj15 a1 x2_15 (wrap64 ((wrap64 (ji12 + (wrap64 ((ji15) - (ji12))))) - t112)) a0_0 a0_1) = some r := H
       have A41 := As0.mk A410
       clear A410
       have H' := As0.mk H
       clear H
       have hcz42_0 : wc.cell? ⟨gb108, 0, none⟩ = some (.int .i64 a0_0) := (bce BK108.out 0).trans rfl
       have hcz42_1 : wc.cell? ⟨gb108, 1, none⟩ = some (.int .i64 a0_1) := (bce BK108.out 1).trans rfl
       have hfz42_0 := bkf BK108.out 0
       have hfz42_1 := bkf BK108.out 1
       go_wp2_with (first | ((with_reducible refine gcl (f := 64) rfl ?_); refine goesL_ (some 83) rfl rfl Try.func64 (by kernel_rfl) rfl #[.agg #[.int .i64 a0_0, .int .i64 a0_1]] rfl (by (try simp only [zmt, zmc, zmn]); first | done | rfl) ?_; (with_reducible refine (ff_least.calls a0_0 a0_1 t112 _ A41.out).mono ?_); rintro e w43 ⟨rfl, hb⟩; refine ⟨_, rfl, ?_⟩; have n0_ := As0.mk (bkb (g := gb108) (o := .cells #[.int .i64 a0_0, .int .i64 a0_1] 43 (0, 0)) (by (with_reducible repeat (first | refine bkN ?_ _ | refine bkd ?_ | refine bka ?_ _)); exact BK108.out) hb); have n1_ := As0.mk (bst (by repeat (first | (with_reducible first | exact HB.out | apply bal | apply pwB_ | apply bd1 | refine bse ?_ GE108.out) | exact HB.out)) hb); clear BK108; clear HB; have BK108 := n0_; have HB := n1_; clear n0_ n1_; (try clear hb); (try clear hb2); (try clear hk); (try clear hi)))
       go_meet
       case rel => exact ⟨_, (wrap64 ((wrap64 (ji12 + (wrap64 ((ji15) - (ji12))))) - t112)), (by first | rfl | (simp; done) | (simp only [← hji12, ← hji15] <;> (first | rfl | simp)) | (simp [*]; done)), H', ⟨by have := HJ15.out; first | omega | exact Nat.le_refl _⟩, ⟨by (with_reducible repeat (first | refine bkN ?_ _ | refine bkd ?_ | refine bka ?_ _)); exact BK108.out⟩, ⟨by repeat (first | (with_reducible first | exact HB.out | apply bal | apply pwB_ | apply bd1 | refine bse ?_ GE108.out) | exact HB.out)⟩⟩
      ·rw [if_neg c40] at H
       have c40b0 : decide ((ji37) ≤ x2_15) = false := decide_eq_false c40
       clear c40
       (first | rw [c40b0] | (simp only [i64_w, i32_w]; rw [c40b0]) | skip)
       have H' := As0.mk H
       clear H
       go_wp2
       go_meet
       case rel => exact ⟨_, (0), (by first | rfl | (simp; done) | (simp [*]; done)), H', ⟨by have := HJ15.out; first | omega | exact Nat.le_refl _⟩, ⟨by (with_reducible repeat (first | refine bkN ?_ _ | refine bkd ?_ | refine bka ?_ _)); exact BK108.out⟩, ⟨by repeat (first | (with_reducible first | exact HB.out | apply bal | apply pwB_ | apply bd1 | refine bse ?_ GE108.out) | exact HB.out)⟩⟩
     case rest =>
      clear HC38
      try clear c2
      try clear p2
      try clear c3
      try clear c4
      try clear c6
      try clear c6b0
      try clear c6b1
      try clear p6
      try clear c20
      try clear c20b0
      try clear c22
      try clear c22b0
      try clear c22b1
      try clear c24
      try clear c24b0
      try clear c26
      try clear c26b0
      try clear c26b1
      try clear c29
      try clear c29b0
      try clear c29b1
      try clear c31
      try clear c31b0
      try clear c32
      try clear c32b0
      try clear c32b1
      try clear c33
      try clear c34
      try clear c34b0
      try clear c34b1
      try clear c36
      try clear c36b0
      try clear c36b1
      try clear c38
      try clear c40
      try clear c40b0
      try clear hcz39_0
      try clear hcz39_1
      try clear hcz42_0
      try clear hcz42_1
      try clear hcz9_0
      try clear hcz9_1
      try clear hfz39_0
      try clear hfz39_1
      try clear hfz42_0
      try clear hfz42_1
      try clear hfz9_0
      try clear hfz9_1
      try clear p2
      try clear p6
      obtain ⟨kq, x13_37, rfl, HA, HJ37, BK108, HB⟩ := hcut
      cases kq with
      | zero => exact absurd HA.out (by simp [ff_round.j1])
      | succ kj37 =>
       have H := HA.out
       clear HA
       simp only [ff_round.j1] at H
       obtain ⟨ji44, hji44⟩ : ∃ j_ : Int, (IntKind.u64.wrap (a0_1)) = j_ := ⟨_, rfl⟩
       replace H : (if 0 ≤ (ji44) then (if x13_37 ≥ (shl .i64 1 (ji44)) then ((ff_infinity.f a0_0 a0_1).bind fun t113 => ((ff_signed.f a0_0 a0_1 a1 t113).bind fun t114 => (some t114))) else (if 0 ≤ (IntKind.u64.wrap (a0_0)) then ((ff_infinity.f a0_0 a0_1).bind fun t115 => ((ff_signed.f a0_0 a0_1 a1 (mn (IntKind.u64.wrap ((shl .u64 (IntKind.u64.wrap (x13_37)) (IntKind.u64.wrap (a0_0))) + x2_15)) t115)).bind fun t116 => (some t116))) else (none))) else (none)) = some r := by first | (rw [hji44] at H; exact H) | (simp only [hji44] at H ⊢; exact H)
       by_cases c45 : 0 ≤ (ji44)
       ·rw [if_pos c45] at H
        have c45b0 := eq_true c45
        have c45b1 : decide (0 ≤ (ji44)) = true := decide_eq_true c45
        clear c45
        obtain ⟨ji46, hji46⟩ : ∃ j_ : Int, (shl .i64 1 (ji44)) = j_ := ⟨_, rfl⟩
        replace H : (if x13_37 ≥ (ji46) then ((ff_infinity.f a0_0 a0_1).bind fun t113 => ((ff_signed.f a0_0 a0_1 a1 t113).bind fun t114 => (some t114))) else (if 0 ≤ (IntKind.u64.wrap (a0_0)) then ((ff_infinity.f a0_0 a0_1).bind fun t115 => ((ff_signed.f a0_0 a0_1 a1 (mn (IntKind.u64.wrap ((shl .u64 (IntKind.u64.wrap (x13_37)) (IntKind.u64.wrap (a0_0))) + x2_15)) t115)).bind fun t116 => (some t116))) else (none))) = some r := by first | (rw [hji46] at H; exact H) | (simp only [hji46] at H ⊢; exact H)
        have hji46_ : (IntKind.i64.wrap (1 * 2 ^ min (ji44).toNat 64)) = ji46 := hji46
        have hji46z : (ji44) ≤ 64 → (IntKind.i64.wrap (1 * 2 ^ (ji44).toNat)) = ji46 := shl_small hji46
        have hji46u : (IntKind.i64.wrap (2 ^ min (ji44).toNat 64)) = ji46 := by have h_ := hji46_; rw [Int.one_mul] at h_; exact h_
        have hji46v : (ji44) ≤ 64 → (IntKind.i64.wrap (2 ^ (ji44).toNat)) = ji46 := fun hle_ => by have h_ := hji46z hle_; rw [Int.one_mul] at h_; exact h_
        have hji46y : (wrap64 (1 * 2 ^ min (ji44).toNat 64)) = ji46 := (i64_w _).symm.trans hji46_
        have hji46x : (ji44) ≤ 64 → (wrap64 (1 * 2 ^ (ji44).toNat)) = ji46 := fun h_ => (i64_w _).symm.trans (hji46z h_)
        by_cases c47 : x13_37 ≥ (ji46)
        ·rw [if_pos c47] at H
         have c47b0 : decide ((ji46) ≤ x13_37) = true := decide_eq_true c47
         clear c47
         replace H := zob H
         obtain ⟨t113, A480, H⟩ := H
         replace H : ((ff_signed.f a0_0 a0_1 a1 t113).bind fun t114 => (some t114)) = some r := H
         have A48 := As0.mk A480
         clear A480
         replace H := zob H
         obtain ⟨t114, A490, H⟩ := H
         replace H : (some t114) = some r := H
         have A49 := As0.mk A490
         clear A490
         obtain rfl := Option.some.inj H
         have hcz50_0 : wc.cell? ⟨gb108, 0, none⟩ = some (.int .i64 a0_0) := (bce BK108.out 0).trans rfl
         have hcz50_1 : wc.cell? ⟨gb108, 1, none⟩ = some (.int .i64 a0_1) := (bce BK108.out 1).trans rfl
         have hfz50_0 := bkf BK108.out 0
         have hfz50_1 := bkf BK108.out 1
         try go_wp2
         have n0_ := As0.mk (bkd BK108.out)
         have n1_ := As0.mk (bd1 HB.out)
         clear BK108
         clear HB
         have BK108 := n0_
         have HB := n1_
         clear n0_ n1_
         refine start_ (n := 6) (S := fun w' => w'.cell? ⟨gb108, 0, none⟩ = some (.int .i64 a0_0) ∧ w'.cell? ⟨gb108, 1, none⟩ = some (.int .i64 a0_1)) (ds := []) #[false, false, false, false, false, false] (by kernel_rfl) rfl rfl ⟨(bce BK108.out 0).trans rfl, (bce BK108.out 1).trans rfl⟩ (fun hHeld => ?_)
         generalize wc.drew = w51 at BK108 HB hHeld ⊢
         refine pure_ (i := 1) (N := some 92) (v := ?_) (a' := ?_) #[false, true, false, false, false, false] rfl rfl (by kernel_rfl) (fun _ _ _ h => h) (Or.inl ⟨by rfl, ?_⟩) ?_ ?_
         rotate_left
         ·intro w'
          go_simp
          with_reducible rfl
         rotate_left
         ·simp only [Act.put, zsi, zcz, zcs, i64_w, i32_w]
          rfl
         refine take_ (i := 0) (N := some 91) (v := ?_) (a' := ?_) #[true, true, false, false, false, false] rfl rfl (by kernel_rfl) (fun _ _ _ h => h) (Or.inl ⟨by rfl, ?_⟩) hHeld ?_ ?_
         rotate_left
         ·rintro w' ⟨s0, s1⟩
          go_simp
          with_reducible rfl
         rotate_left
         ·simp only [Act.put, zsi, zcz, zcs, i64_w, i32_w]
          rfl
         refine take_ (i := 2) (N := some 93) (v := ?_) (a' := ?_) #[true, true, true, false, false, false] rfl rfl (by kernel_rfl) (fun _ _ _ h => h) (Or.inl ⟨by rfl, ?_⟩) hHeld ?_ ?_
         rotate_left
         ·rintro w' ⟨s0, s1⟩
          go_simp
          with_reducible rfl
         rotate_left
         ·simp only [Act.put, zsi, zcz, zcs, i64_w, i32_w]
          rfl
         refine one_ (i := 3) (N := some 94) #[true, true, true, true, false, false] rfl rfl (by kernel_rfl) (by decide) (fun K hK => ?_)
         refine goes_ Try.func50 (by kernel_rfl) rfl #[.agg #[.int .i64 a0_0, .int .i64 a0_1]] (by rfl) rfl rfl (by (try simp only [zmt, zmc, zmn]); first | done | rfl) ?_
         with_reducible refine (ff_infinity.calls a0_0 a0_1 t113 _ A48.out).mono ?_
         rintro e w52 ⟨rfl, hb⟩
         refine ⟨_, rfl, ?_⟩
         have n0_ := As0.mk (bkb (g := gb108) (o := .cells #[.int .i64 a0_0, .int .i64 a0_1] 43 (0, 0)) (by (with_reducible repeat (first | refine bkN ?_ _ | refine bkd ?_ | refine bka ?_ _)); exact BK108.out) hb)
         have n1_ := As0.mk (bst (by repeat (first | (with_reducible first | exact HB.out | apply bal | apply pwB_ | apply bd1 | refine bse ?_ GE108.out) | exact HB.out)) hb)
         clear BK108
         clear HB
         have BK108 := n0_
         have HB := n1_
         clear n0_ n1_
         (try clear hb)
         (try clear hb2)
         (try clear hk)
         (try clear hi)
         refine hK.out _ _ ⟨(bce BK108.out 0).trans rfl, (bce BK108.out 1).trans rfl⟩ (fun hHeld => ?_)
         clear hK K
         refine norm_ (a' := ?_) ?_ ?_
         rotate_left
         ·show Act.put _ (some 94) _ = _
          simp only [Act.put, zsi, zcz, zcs, i64_w, i32_w]
          rfl
         refine one_ (i := 4) (N := some 95) #[true, true, true, true, true, false] rfl rfl (by kernel_rfl) (by decide) (fun K hK => ?_)
         refine goes_ Try.func38 (by kernel_rfl) rfl #[.agg #[.int .i64 a0_0, .int .i64 a0_1], .bool a1, .int .u64 t113] (by rfl) rfl rfl (by (try simp only [zmt, zmc, zmn]); first | done | rfl) ?_
         with_reducible refine (ff_signed.calls a0_0 a0_1 a1 t113 t114 _ A49.out).mono ?_
         rintro e w53 ⟨rfl, hb⟩
         refine ⟨_, rfl, ?_⟩
         have n0_ := As0.mk (bkb (g := gb108) (o := .cells #[.int .i64 a0_0, .int .i64 a0_1] 43 (0, 0)) (by (with_reducible repeat (first | refine bkN ?_ _ | refine bkd ?_ | refine bka ?_ _)); exact BK108.out) hb)
         have n1_ := As0.mk (bst (by repeat (first | (with_reducible first | exact HB.out | apply bal | apply pwB_ | apply bd1 | refine bse ?_ GE108.out) | exact HB.out)) hb)
         clear BK108
         clear HB
         have BK108 := n0_
         have HB := n1_
         clear n0_ n1_
         (try clear hb)
         (try clear hb2)
         (try clear hk)
         (try clear hi)
         refine hK.out _ _ ⟨(bce BK108.out 0).trans rfl, (bce BK108.out 1).trans rfl⟩ (fun hHeld => ?_)
         clear hK K
         refine norm_ (a' := ?_) ?_ ?_
         rotate_left
         ·show Act.put _ (some 95) _ = _
          simp only [Act.put, zsi, zcz, zcs, i64_w, i32_w]
          rfl
         refine pure_ (i := 5) (N := some 10) (v := ?_) (a' := ?_) #[true, true, true, true, true, true] rfl rfl (by kernel_rfl) (fun _ _ _ h => h) (Or.inl ⟨by rfl, ?_⟩) ?_ ?_
         rotate_left
         ·intro w'
          go_simp
          with_reducible rfl
         rotate_left
         ·simp only [Act.put, zsi, zcz, zcs, i64_w, i32_w]
          rfl
         refine done_ (by kernel_rfl) ?_
         try go_wp2
         go_ret
         exact ⟨by first | rfl | (simp only [← hji11, ← hji12, ← hji15, ← hji35, ← hji37, ← hji44, ← hji46]; first | rfl) | (simp [*] <;> rfl), by repeat (first | (with_reducible first | exact HB.out | apply bal | apply pwB_ | apply bd1 | refine bse ?_ GE108.out) | exact HB.out)⟩
        ·rw [if_neg c47] at H
         have c47b0 : decide ((ji46) ≤ x13_37) = false := decide_eq_false c47
         clear c47
         obtain ⟨ji54, hji54⟩ : ∃ j_ : Int, (IntKind.u64.wrap (a0_0)) = j_ := ⟨_, rfl⟩
         have hMEND : ji54 = ji35 := hji54.symm.trans hji35
         subst hMEND
         have hMENDx : (0 ≤ ji54) = True := eq_true (by rw [← hji54, IntKind.wrap_u64]; omega)
         have hMENDy : decide (0 ≤ ji54) = true := decide_eq_true (by rw [← hji54, IntKind.wrap_u64]; omega)
         replace H : (if 0 ≤ (ji54) then ((ff_infinity.f a0_0 a0_1).bind fun t115 => ((ff_signed.f a0_0 a0_1 a1 (mn (IntKind.u64.wrap ((shl .u64 (IntKind.u64.wrap (x13_37)) (ji54)) + x2_15)) t115)).bind fun t116 => (some t116))) else (none)) = some r := by first | (rw [hji54] at H; exact H) | (simp only [hji54] at H ⊢; exact H)
         by_cases c55 : 0 ≤ (ji54)
         ·rw [if_pos c55] at H
          have c55b0 := eq_true c55
          have c55b1 : decide (0 ≤ (ji54)) = true := decide_eq_true c55
          clear c55
          obtain ⟨ji56, hji56⟩ : ∃ j_ : Int, (shl .u64 (IntKind.u64.wrap (x13_37)) (ji54)) = j_ := ⟨_, rfl⟩
          replace H : ((ff_infinity.f a0_0 a0_1).bind fun t115 => ((ff_signed.f a0_0 a0_1 a1 (mn (IntKind.u64.wrap ((ji56) + x2_15)) t115)).bind fun t116 => (some t116))) = some r := by first | (rw [hji56] at H; exact H) | (simp only [hji56] at H ⊢; exact H)
          have hji56_ : (IntKind.u64.wrap ((IntKind.u64.wrap (x13_37)) * 2 ^ min (ji54).toNat 64)) = ji56 := hji56
          have hji56z : (ji54) ≤ 64 → (IntKind.u64.wrap ((IntKind.u64.wrap (x13_37)) * 2 ^ (ji54).toNat)) = ji56 := shl_small hji56
          replace H := zob H
          obtain ⟨t115, A570, H⟩ := H
          replace H : ((ff_signed.f a0_0 a0_1 a1 (mn (IntKind.u64.wrap ((ji56) + x2_15)) t115)).bind fun t116 => (some t116)) = some r := H
          have A57 := As0.mk A570
          clear A570
          obtain ⟨ji58, hji58⟩ : ∃ j_ : Int, (mn (IntKind.u64.wrap ((ji56) + x2_15)) t115) = j_ := ⟨_, rfl⟩
          replace H : ((ff_signed.f a0_0 a0_1 a1 (ji58)).bind fun t116 => (some t116)) = some r := by first | (rw [hji58] at H; exact H) | (simp only [hji58] at H ⊢; exact H)
          (try rw [hji58] at A57)
          have hji58_ : (if t115 < (IntKind.u64.wrap ((ji56) + x2_15)) then t115 else (IntKind.u64.wrap ((ji56) + x2_15))) = ji58 := hji58
          replace H := zob H
          obtain ⟨t116, A590, H⟩ := H
          replace H : (some t116) = some r := H
          have A59 := As0.mk A590
          clear A590
          obtain rfl := Option.some.inj H
          have hcz60_0 : wc.cell? ⟨gb108, 0, none⟩ = some (.int .i64 a0_0) := (bce BK108.out 0).trans rfl
          have hcz60_1 : wc.cell? ⟨gb108, 1, none⟩ = some (.int .i64 a0_1) := (bce BK108.out 1).trans rfl
          have hfz60_0 := bkf BK108.out 0
          have hfz60_1 := bkf BK108.out 1
          try go_wp2
          have n0_ := As0.mk (bkd BK108.out)
          have n1_ := As0.mk (bd1 HB.out)
          clear BK108
          clear HB
          have BK108 := n0_
          have HB := n1_
          clear n0_ n1_
          refine start_ (n := 15) (S := fun w' => w'.cell? ⟨gb108, 0, none⟩ = some (.int .i64 a0_0) ∧ w'.cell? ⟨gb108, 1, none⟩ = some (.int .i64 a0_1)) (ds := []) #[false, false, false, false, false, false, false, false, false, false, false, false, false, false, false] (by kernel_rfl) rfl rfl ⟨(bce BK108.out 0).trans rfl, (bce BK108.out 1).trans rfl⟩ (fun hHeld => ?_); refine with_tabW ff_round.tab18 ff_round.bits18 (fun HT_ HW_ => ?_)
          generalize wc.drew = w61 at BK108 HB hHeld ⊢
          refine pure_ (i := 1) (N := some 97) (v := ?_) (a' := ?_) #[false, true, false, false, false, false, false, false, false, false, false, false, false, false, false] rfl rfl (any_of HT_.out (by kernel_rfl)) (fun _ _ _ h => h) (Or.inl ⟨by rfl, ?_⟩) ?_ ?_
          rotate_left
          ·intro w'
           go_simp
           with_reducible rfl
          rotate_left
          ·simp only [Act.put, zsi, zcz, zcs, i64_w, i32_w]
           rfl
          refine pure_ (i := 2) (N := some 98) (v := ?_) (a' := ?_) #[false, true, true, false, false, false, false, false, false, false, false, false, false, false, false] rfl rfl (any_of HT_.out (by kernel_rfl)) (fun _ _ _ h => h) (Or.inl ⟨by rfl, ?_⟩) ?_ ?_
          rotate_left
          ·intro w'
           go_simp
           with_reducible rfl
          rotate_left
          ·simp only [Act.put, zsi, zcz, zcs, i64_w, i32_w]
           rfl
          refine pure_ (i := 3) (N := some 99) (v := ?_) (a' := ?_) #[false, true, true, true, false, false, false, false, false, false, false, false, false, false, false] rfl rfl (any_of HT_.out (by kernel_rfl)) (fun _ _ _ h => h) (Or.inl ⟨by rfl, ?_⟩) ?_ ?_
          rotate_left
          ·intro w'
           go_simp
           with_reducible rfl
          rotate_left
          ·simp only [Act.put, zsi, zcz, zcs, i64_w, i32_w]
           rfl
          refine pure_ (i := 4) (N := some 100) (v := ?_) (a' := ?_) #[false, true, true, true, true, false, false, false, false, false, false, false, false, false, false] rfl rfl (any_of HT_.out (by kernel_rfl)) (fun _ _ _ h => h) (Or.inl ⟨by rfl, ?_⟩) ?_ ?_
          rotate_left
          ·intro w'
           go_simp
           with_reducible rfl
          rotate_left
          ·simp only [Act.put, zsi, zcz, zcs, i64_w, i32_w]
           rfl
          refine pure_ (i := 8) (N := some 104) (v := ?_) (a' := ?_) #[false, true, true, true, true, false, false, false, true, false, false, false, false, false, false] rfl rfl (any_of HT_.out (by kernel_rfl)) (fun _ _ _ h => h) (Or.inl ⟨by rfl, ?_⟩) ?_ ?_
          rotate_left
          ·intro w'
           go_simp
           with_reducible rfl
          rotate_left
          ·simp only [Act.put, zsi, zcz, zcs, i64_w, i32_w]
           rfl
          refine take_ (i := 0) (N := some 96) (v := ?_) (a' := ?_) #[true, true, true, true, true, false, false, false, true, false, false, false, false, false, false] rfl rfl (take_ofW HT_.out HW_.out (by kernel_rfl)) (fun _ _ _ h => h) (Or.inl ⟨by rfl, ?_⟩) hHeld ?_ ?_
          rotate_left
          ·rintro w' ⟨s0, s1⟩
           go_simp
           with_reducible rfl
          rotate_left
          ·simp only [Act.put, zsi, zcz, zcs, i64_w, i32_w]
           rfl
          refine take_ (i := 5) (N := some 101) (v := ?_) (a' := ?_) #[true, true, true, true, true, true, false, false, true, false, false, false, false, false, false] rfl rfl (take_ofW HT_.out HW_.out (by kernel_rfl)) (fun _ _ _ h => h) (Or.inl ⟨by rfl, ?_⟩) hHeld ?_ ?_
          rotate_left
          ·rintro w' ⟨s0, s1⟩
           go_simp
           with_reducible rfl
          rotate_left
          ·simp only [Act.put, zsi, zcz, zcs, i64_w, i32_w]
           rfl
          refine pure_ (i := 6) (N := some 102) (v := ?_) (a' := ?_) #[true, true, true, true, true, true, true, false, true, false, false, false, false, false, false] rfl rfl (any_of HT_.out (by kernel_rfl)) (fun _ _ _ h => h) (Or.inl ⟨by rfl, ?_⟩) ?_ ?_
          rotate_left
          ·intro w'
           go_simp
           with_reducible rfl
          rotate_left
          ·simp only [Act.put, zsi, zcz, zcs, i64_w, i32_w]
           rfl
          refine pure_ (i := 7) (N := some 103) (v := ?_) (a' := ?_) #[true, true, true, true, true, true, true, true, true, false, false, false, false, false, false] rfl rfl (any_of HT_.out (by kernel_rfl)) (fun _ _ _ h => h) (Or.inl ⟨by rfl, ?_⟩) ?_ ?_
          rotate_left
          ·intro w'
           go_simp
           with_reducible rfl
          rotate_left
          ·simp only [Act.put, zsi, zcz, zcs, i64_w, i32_w]
           rfl
          refine pure_ (i := 9) (N := some 105) (v := ?_) (a' := ?_) #[true, true, true, true, true, true, true, true, true, true, false, false, false, false, false] rfl rfl (any_of HT_.out (by kernel_rfl)) (fun _ _ _ h => h) (Or.inl ⟨by rfl, ?_⟩) ?_ ?_
          rotate_left
          ·intro w'
           go_simp
           with_reducible rfl
          rotate_left
          ·simp only [Act.put, zsi, zcz, zcs, i64_w, i32_w]
           rfl
          refine take_ (i := 10) (N := some 106) (v := ?_) (a' := ?_) #[true, true, true, true, true, true, true, true, true, true, true, false, false, false, false] rfl rfl (take_ofW HT_.out HW_.out (by kernel_rfl)) (fun _ _ _ h => h) (Or.inl ⟨by rfl, ?_⟩) hHeld ?_ ?_
          rotate_left
          ·rintro w' ⟨s0, s1⟩
           go_simp
           with_reducible rfl
          rotate_left
          ·simp only [Act.put, zsi, zcz, zcs, i64_w, i32_w]
           rfl
          refine one_ (i := 11) (N := some 107) #[true, true, true, true, true, true, true, true, true, true, true, true, false, false, false] rfl rfl (one_of HT_.out (by kernel_rfl)) (by decide) (fun K hK => ?_)
          refine goes_ Try.func50 (by kernel_rfl) rfl #[.agg #[.int .i64 a0_0, .int .i64 a0_1]] (by rfl) rfl rfl (by (try simp only [zmt, zmc, zmn]); first | done | rfl) ?_
          with_reducible refine (ff_infinity.calls a0_0 a0_1 t115 _ A57.out).mono ?_
          rintro e w62 ⟨rfl, hb⟩
          refine ⟨_, rfl, ?_⟩
          have n0_ := As0.mk (bkb (g := gb108) (o := .cells #[.int .i64 a0_0, .int .i64 a0_1] 43 (0, 0)) (by (with_reducible repeat (first | refine bkN ?_ _ | refine bkd ?_ | refine bka ?_ _)); exact BK108.out) hb)
          have n1_ := As0.mk (bst (by repeat (first | (with_reducible first | exact HB.out | apply bal | apply pwB_ | apply bd1 | refine bse ?_ GE108.out) | exact HB.out)) hb)
          clear BK108
          clear HB
          have BK108 := n0_
          have HB := n1_
          clear n0_ n1_
          (try clear hb)
          (try clear hb2)
          (try clear hk)
          (try clear hi)
          refine hK.out _ _ ⟨(bce BK108.out 0).trans rfl, (bce BK108.out 1).trans rfl⟩ (fun hHeld => ?_)
          clear hK K
          refine norm_ (a' := ?_) ?_ ?_
          rotate_left
          ·show Act.put _ (some 107) _ = _
           simp only [Act.put, zsi, zcz, zcs, i64_w, i32_w]
           rfl
          refine pure_ (i := 12) (N := some 108) (v := ?_) (a' := ?_) #[true, true, true, true, true, true, true, true, true, true, true, true, true, false, false] rfl rfl (any_of HT_.out (by kernel_rfl)) (fun _ _ _ h => h) (Or.inl ⟨by rfl, ?_⟩) ?_ ?_
          rotate_left
          ·intro w'
           go_simp
           with_reducible rfl
          rotate_left
          ·simp only [Act.put, zsi, zcz, zcs, i64_w, i32_w]
           rfl
          refine one_ (i := 13) (N := some 109) #[true, true, true, true, true, true, true, true, true, true, true, true, true, true, false] rfl rfl (one_of HT_.out (by kernel_rfl)) (by decide) (fun K hK => ?_)
          refine goes_ Try.func38 (by kernel_rfl) rfl #[.agg #[.int .i64 a0_0, .int .i64 a0_1], .bool a1, .int .u64 ji58] (by rfl) rfl rfl (by (try simp only [zmt, zmc, zmn]); first | done | (simp only [hji58]; rfl) | rfl) ?_
          with_reducible refine (ff_signed.calls a0_0 a0_1 a1 ji58 t116 _ A59.out).mono ?_
          rintro e w63 ⟨rfl, hb⟩
          refine ⟨_, rfl, ?_⟩
          have n0_ := As0.mk (bkb (g := gb108) (o := .cells #[.int .i64 a0_0, .int .i64 a0_1] 43 (0, 0)) (by (with_reducible repeat (first | refine bkN ?_ _ | refine bkd ?_ | refine bka ?_ _)); exact BK108.out) hb)
          have n1_ := As0.mk (bst (by repeat (first | (with_reducible first | exact HB.out | apply bal | apply pwB_ | apply bd1 | refine bse ?_ GE108.out) | exact HB.out)) hb)
          clear BK108
          clear HB
          have BK108 := n0_
          have HB := n1_
          clear n0_ n1_
          (try clear hb)
          (try clear hb2)
          (try clear hk)
          (try clear hi)
          refine hK.out _ _ ⟨(bce BK108.out 0).trans rfl, (bce BK108.out 1).trans rfl⟩ (fun hHeld => ?_)
          clear hK K
          refine norm_ (a' := ?_) ?_ ?_
          rotate_left
          ·show Act.put _ (some 109) _ = _
           simp only [Act.put, zsi, zcz, zcs, i64_w, i32_w]
           rfl
          refine pure_ (i := 14) (N := some 10) (v := ?_) (a' := ?_) #[true, true, true, true, true, true, true, true, true, true, true, true, true, true, true] rfl rfl (any_of HT_.out (by kernel_rfl)) (fun _ _ _ h => h) (Or.inl ⟨by rfl, ?_⟩) ?_ ?_
          rotate_left
          ·intro w'
           go_simp
           with_reducible rfl
          rotate_left
          ·simp only [Act.put, zsi, zcz, zcs, i64_w, i32_w]
           rfl
          refine done_ (done_of HT_.out (by kernel_rfl)) ?_
          try go_wp2
          go_ret
          exact ⟨by first | rfl | (simp only [← hji11, ← hji12, ← hji15, ← hji35, ← hji37, ← hji44, ← hji46, ← hji54, ← hji56, ← hji58]; first | rfl) | (simp [*] <;> rfl), by repeat (first | (with_reducible first | exact HB.out | apply bal | apply pwB_ | apply bd1 | refine bse ?_ GE108.out) | exact HB.out)⟩
         ·rw [if_neg c55] at H
          exact absurd H (by simp)
       ·rw [if_neg c45] at H
        exact absurd H (by simp)
    ·rw [if_neg c36] at H
     exact absurd H (by simp)
end Go.Proofs.Ytjfmomogidgbpaa.PFl
namespace Go.Proofs.Ytjfmomogidgbpaa.PFl
open Go.RowKit Go.Proofs.YtjfmomogidgbpaaW.PrintWords Go.Proofs.YtjfmomogidgbpaaW.PrintLast Go.Proofs.YtjfmomogidgbpaaW.PrintMore
attribute [local go_sem] max2_int min2_int max_two min_two max_three min_three max_four min_four
set_option linter.unusedVariables false
set_option linter.unusedSimpArgs false
def floats_Round.j0 : Nat → Int → Bool → Int → Int → Bool → Bool → Option (Int × Int)
 | 0, _, _, _, _, _, _ => none
 | k + 1, x0, x1, x2, x3, x4, x21 => if x21 = true then (some (0, 1)) else ((floats_of.f x0).bind fun bt120 => ((ff_round.f k bt120.1 bt120.2 x1 x2 x3 x4).bind fun t122 => (some (t122, 0))))
def floats_Round.f (k : Nat) (a0 : Int) (a1 : Bool) (a2 : Int) (a3 : Int) (a4 : Bool) : Option (Int × Int) := (floats_of.f a0).bind fun bt117 => ((ff_none.f bt117.1 bt117.2).bind fun t119 => (if t119 = true then (floats_Round.j0 k a0 a1 a2 a3 a4 true) else (if a4 = true then (floats_Round.j0 k a0 a1 a2 a3 a4 (decide (a2 < 288230376151711744))) else (floats_Round.j0 k a0 a1 a2 a3 a4 false))))
theorem floats_Round.mono_l : ∀ k, (∀ y0 y1 y2 y3 y4 y5, LeO (floats_Round.j0 k y0 y1 y2 y3 y4 y5) (floats_Round.j0 (k + 1) y0 y1 y2 y3 y4 y5)) := by
 intro k
 induction k with
 | zero => exact fun _ _ _ _ _ _ r h => by simp [floats_Round.j0] at h
 | succ k ih =>
  have ih0 := ih
  ·intro y0 y1 y2 y3 y4 y5
   unfold floats_Round.j0
   repeat' first
   | (with_reducible exact ih0 _ _ _ _ _ _)
   | (with_reducible exact ff_round.mono _ _ _ _ _ _ _)
   | (with_reducible exact LeO.refl _)
   | (with_reducible exact LeO.none _)
   | (with_reducible refine LeO.ite ?_ ?_)
   | (with_reducible refine LeO.bind ?_ (fun _ => ?_))
   | exact ih0 _ _ _ _ _ _
   | exact ff_round.mono _ _ _ _ _ _ _
   | exact LeO.none _
   | refine LeO.ite ?_ ?_
   | refine LeO.bind ?_ (fun _ => ?_)
theorem floats_Round.mono : ∀ a0 a1 a2 a3 a4 k, LeO (floats_Round.f k a0 a1 a2 a3 a4) (floats_Round.f (k + 1) a0 a1 a2 a3 a4) := by
 intro a0 a1 a2 a3 a4 k
 have ih0 := floats_Round.mono_l k
 unfold floats_Round.f
 repeat' first
   | (with_reducible exact ih0 _ _ _ _ _ _)
   | (with_reducible exact ff_round.mono _ _ _ _ _ _ _)
   | (with_reducible exact LeO.refl _)
   | (with_reducible exact LeO.none _)
   | (with_reducible refine LeO.ite ?_ ?_)
   | (with_reducible refine LeO.bind ?_ (fun _ => ?_))
   | exact ih0 _ _ _ _ _ _
   | exact ff_round.mono _ _ _ _ _ _ _
   | exact LeO.none _
   | refine LeO.ite ?_ ?_
   | refine LeO.bind ?_ (fun _ => ?_)
set_option maxHeartbeats 8000000 in
set_option maxRecDepth 100000 in
theorem floats_Round.calls (k : Nat) (a0 : Int) (a1 : Bool) (a2 : Int) (a3 : Int) (a4 : Bool) (r1 : Int) (r2 : Int) (w : World) (h : floats_Round.f k a0 a1 a2 a3 a4 = some (r1, r2)) :
  Calls Try.prog 17 #[.int .i64 a0, .bool a1, .int .u64 a2, .int .i64 a3, .bool a4] w fun e w' => e = .returned (.tuple #[.int .u64 r1, .int .i64 r2]) ∧ Below w.heap.size w w' := by
 have HB := As0.mk (Below.refl w.heap.size w)
 have H : ((floats_of.f a0).bind fun bt117 => ((ff_none.f bt117.1 bt117.2).bind fun t119 => (if t119 = true then (floats_Round.j0 k a0 a1 a2 a3 a4 true) else (if a4 = true then (floats_Round.j0 k a0 a1 a2 a3 a4 (decide (a2 < 288230376151711744))) else (floats_Round.j0 k a0 a1 a2 a3 a4 false))))) = some (r1, r2) := h
 clear h
 have HC6 := As0.mk H
 clear H
 go_enter Try.func17, Try.ntmps17
 go_upto_region 1 with (fail)
 go_cut [21] (fun v21 wc => ∃ (kq : Nat) (x21_5 : Bool), v21 = .bool x21_5 ∧ As0 (floats_Round.j0 kq a0 a1 a2 a3 a4 x21_5 = some (r1, r2)) ∧ As0 (kq ≤ k) ∧ As0 (Below w.heap.size w wc))
 case first =>
  have H := HC6.out
  clear HC6
  replace H := zob H
  obtain ⟨⟨t117, t118⟩, A70, H⟩ := H
  replace H : ((ff_none.f t117 t118).bind fun t119 => (if t119 = true then (floats_Round.j0 k a0 a1 a2 a3 a4 true) else (if a4 = true then (floats_Round.j0 k a0 a1 a2 a3 a4 (decide (a2 < 288230376151711744))) else (floats_Round.j0 k a0 a1 a2 a3 a4 false)))) = some (r1, r2) := H
  have A7 := As0.mk A70
  clear A70
  replace H := zob H
  obtain ⟨t119, A80, H⟩ := H
  replace H : (if t119 = true then (floats_Round.j0 k a0 a1 a2 a3 a4 true) else (if a4 = true then (floats_Round.j0 k a0 a1 a2 a3 a4 (decide (a2 < 288230376151711744))) else (floats_Round.j0 k a0 a1 a2 a3 a4 false))) = some (r1, r2) := H
  have A8 := As0.mk A80
  clear A80
  by_cases c9 : t119 = true
  ·subst c9
   have H1 : (floats_Round.j0 k a0 a1 a2 a3 a4 true) = some (r1, r2) := by rw [if_pos rfl] at H; exact H
   clear H
   have H := H1
   clear H1
   have H' := As0.mk H
   clear H
   go_wp2_with (first | ((with_reducible refine gcl (f := 31) rfl ?_); refine goesL_ (some 13) rfl rfl Try.func31 (by kernel_rfl) rfl #[.int .i64 a0] rfl (by (try simp only [zmt, zmc, zmn]); first | done | rfl) ?_; (with_reducible refine (floats_of.calls a0 t117 t118 _ A7.out).mono ?_); rintro e w10 ⟨rfl, hb⟩; refine ⟨_, rfl, ?_⟩; have n0_ := As0.mk (bst (by repeat (first | (with_reducible first | exact HB.out | apply bal | apply pwB_ | apply bd1) | exact HB.out)) hb); clear HB; have HB := n0_; clear n0_; (try clear hb); (try clear hb2); (try clear hk); (try clear hi)) | ((with_reducible refine gcl (f := 32) rfl ?_); refine goesL_ (some 14) rfl rfl Try.func32 (by kernel_rfl) rfl #[.agg #[.int .i64 t117, .int .i64 t118]] rfl (by (try simp only [zmt, zmc, zmn]); first | done | rfl) ?_; (with_reducible refine (ff_none.calls t117 t118 true _ A8.out).mono ?_); rintro e w11 ⟨rfl, hb⟩; refine ⟨_, rfl, ?_⟩; have n0_ := As0.mk (bst (by repeat (first | (with_reducible first | exact HB.out | apply bal | apply pwB_ | apply bd1) | exact HB.out)) hb); clear HB; have HB := n0_; clear n0_; (try clear hb); (try clear hb2); (try clear hk); (try clear hi)))
   go_meet
   case rel => exact ⟨_, (true), (by first | rfl | (simp; done) | (simp [*]; done)), H', ⟨by first | omega | exact Nat.le_refl _⟩, ⟨by repeat (first | (with_reducible first | exact HB.out | apply bal | apply pwB_ | apply bd1) | exact HB.out)⟩⟩
  ·replace c9 := Bool.eq_false_iff.mpr c9
   subst c9
   have H1 : (if a4 = true then (floats_Round.j0 k a0 a1 a2 a3 a4 (decide (a2 < 288230376151711744))) else (floats_Round.j0 k a0 a1 a2 a3 a4 false)) = some (r1, r2) := by rw [if_neg (show ¬ (false = true) by decide)] at H; exact H
   clear H
   have H := H1
   clear H1
   by_cases c12 : a4 = true
   ·subst c12
    have H1 : (floats_Round.j0 k a0 a1 a2 a3 true (decide (a2 < 288230376151711744))) = some (r1, r2) := by rw [if_pos rfl] at H; exact H
    clear H
    have H := H1
    clear H1
    have H' := As0.mk H
    clear H
    go_wp2_with (first | ((with_reducible refine gcl (f := 31) rfl ?_); refine goesL_ (some 13) rfl rfl Try.func31 (by kernel_rfl) rfl #[.int .i64 a0] rfl (by (try simp only [zmt, zmc, zmn]); first | done | rfl) ?_; (with_reducible refine (floats_of.calls a0 t117 t118 _ A7.out).mono ?_); rintro e w13 ⟨rfl, hb⟩; refine ⟨_, rfl, ?_⟩; have n0_ := As0.mk (bst (by repeat (first | (with_reducible first | exact HB.out | apply bal | apply pwB_ | apply bd1) | exact HB.out)) hb); clear HB; have HB := n0_; clear n0_; (try clear hb); (try clear hb2); (try clear hk); (try clear hi)) | ((with_reducible refine gcl (f := 32) rfl ?_); refine goesL_ (some 14) rfl rfl Try.func32 (by kernel_rfl) rfl #[.agg #[.int .i64 t117, .int .i64 t118]] rfl (by (try simp only [zmt, zmc, zmn]); first | done | rfl) ?_; (with_reducible refine (ff_none.calls t117 t118 false _ A8.out).mono ?_); rintro e w14 ⟨rfl, hb⟩; refine ⟨_, rfl, ?_⟩; have n0_ := As0.mk (bst (by repeat (first | (with_reducible first | exact HB.out | apply bal | apply pwB_ | apply bd1) | exact HB.out)) hb); clear HB; have HB := n0_; clear n0_; (try clear hb); (try clear hb2); (try clear hk); (try clear hi)))
    go_meet
    case rel => exact ⟨_, (decide (a2 < 288230376151711744)), (by first | rfl | (simp; done) | (simp [*]; done)), H', ⟨by first | omega | exact Nat.le_refl _⟩, ⟨by repeat (first | (with_reducible first | exact HB.out | apply bal | apply pwB_ | apply bd1) | exact HB.out)⟩⟩
   ·replace c12 := Bool.eq_false_iff.mpr c12
    subst c12
    have H1 : (floats_Round.j0 k a0 a1 a2 a3 false false) = some (r1, r2) := by rw [if_neg (show ¬ (false = true) by decide)] at H; exact H
    clear H
    have H := H1
    clear H1
    have H' := As0.mk H
    clear H
    go_wp2_with (first | ((with_reducible refine gcl (f := 31) rfl ?_); refine goesL_ (some 13) rfl rfl Try.func31 (by kernel_rfl) rfl #[.int .i64 a0] rfl (by (try simp only [zmt, zmc, zmn]); first | done | rfl) ?_; (with_reducible refine (floats_of.calls a0 t117 t118 _ A7.out).mono ?_); rintro e w15 ⟨rfl, hb⟩; refine ⟨_, rfl, ?_⟩; have n0_ := As0.mk (bst (by repeat (first | (with_reducible first | exact HB.out | apply bal | apply pwB_ | apply bd1) | exact HB.out)) hb); clear HB; have HB := n0_; clear n0_; (try clear hb); (try clear hb2); (try clear hk); (try clear hi)) | ((with_reducible refine gcl (f := 32) rfl ?_); refine goesL_ (some 14) rfl rfl Try.func32 (by kernel_rfl) rfl #[.agg #[.int .i64 t117, .int .i64 t118]] rfl (by (try simp only [zmt, zmc, zmn]); first | done | rfl) ?_; (with_reducible refine (ff_none.calls t117 t118 false _ A8.out).mono ?_); rintro e w16 ⟨rfl, hb⟩; refine ⟨_, rfl, ?_⟩; have n0_ := As0.mk (bst (by repeat (first | (with_reducible first | exact HB.out | apply bal | apply pwB_ | apply bd1) | exact HB.out)) hb); clear HB; have HB := n0_; clear n0_; (try clear hb); (try clear hb2); (try clear hk); (try clear hi)))
    go_meet
    case rel => exact ⟨_, (false), (by first | rfl | (simp; done) | (simp [*]; done)), H', ⟨by first | omega | exact Nat.le_refl _⟩, ⟨by repeat (first | (with_reducible first | exact HB.out | apply bal | apply pwB_ | apply bd1) | exact HB.out)⟩⟩
 case rest =>
  clear HC6
  try clear c1
  try clear p2
  try clear c3
  try clear c9
  try clear c12
  obtain ⟨kq, x21_5, rfl, HA, HJ5, HB⟩ := hcut
  cases kq with
  | zero => exact absurd HA.out (by simp [floats_Round.j0])
  | succ kj5 =>
   have H := HA.out
   clear HA
   simp only [floats_Round.j0] at H
   by_cases c17 : x21_5 = true
   ·subst c17
    have H1 : (some (0, 1)) = some (r1, r2) := by rw [if_pos rfl] at H; exact H
    clear H
    have H := H1
    clear H1
    simp only [Option.some.injEq, Prod.mk.injEq] at H
    obtain ⟨rfl, rfl⟩ := H
    go_wp2
    go_ret2
    exact ⟨by first | rfl | (simp [*] <;> rfl), by repeat (first | (with_reducible first | exact HB.out | apply bal | apply pwB_ | apply bd1) | exact HB.out)⟩
   ·replace c17 := Bool.eq_false_iff.mpr c17
    subst c17
    have H1 : ((floats_of.f a0).bind fun bt120 => ((ff_round.f kj5 bt120.1 bt120.2 a1 a2 a3 a4).bind fun t122 => (some (t122, 0)))) = some (r1, r2) := by rw [if_neg (show ¬ (false = true) by decide)] at H; exact H
    clear H
    have H := H1
    clear H1
    replace H := zob H
    obtain ⟨⟨t120, t121⟩, A180, H⟩ := H
    replace H : ((ff_round.f kj5 t120 t121 a1 a2 a3 a4).bind fun t122 => (some (t122, 0))) = some (r1, r2) := H
    have A18 := As0.mk A180
    clear A180
    replace H := zob H
    obtain ⟨t122, A190, H⟩ := H
    replace H : (some (t122, 0)) = some (r1, r2) := H
    have A19 := As0.mk A190
    clear A190
    simp only [Option.some.injEq, Prod.mk.injEq] at H
    obtain ⟨rfl, rfl⟩ := H
    go_wp2_with (first | ((with_reducible refine gcl (f := 31) rfl ?_); refine goesL_ (some 23) rfl rfl Try.func31 (by kernel_rfl) rfl #[.int .i64 a0] rfl (by (try simp only [zmt, zmc, zmn]); first | done | rfl) ?_; (with_reducible refine (floats_of.calls a0 t120 t121 _ A18.out).mono ?_); rintro e w20 ⟨rfl, hb⟩; refine ⟨_, rfl, ?_⟩; have n0_ := As0.mk (bst (by repeat (first | (with_reducible first | exact HB.out | apply bal | apply pwB_ | apply bd1) | exact HB.out)) hb); clear HB; have HB := n0_; clear n0_; (try clear hb); (try clear hb2); (try clear hk); (try clear hi)) | ((with_reducible refine gcl (f := 33) rfl ?_); refine goesL_ (some 28) rfl rfl Try.func33 (by kernel_rfl) rfl #[.agg #[.int .i64 t120, .int .i64 t121], .bool a1, .int .u64 a2, .int .i64 a3, .bool a4] rfl (by (try simp only [zmt, zmc, zmn]); first | done | rfl) ?_; (with_reducible refine (ff_round.calls kj5 t120 t121 a1 a2 a3 a4 t122 _ A19.out).mono ?_); rintro e w21 ⟨rfl, hb⟩; refine ⟨_, rfl, ?_⟩; have n0_ := As0.mk (bst (by repeat (first | (with_reducible first | exact HB.out | apply bal | apply pwB_ | apply bd1) | exact HB.out)) hb); clear HB; have HB := n0_; clear n0_; (try clear hb); (try clear hb2); (try clear hk); (try clear hi)))
    go_ret2
    exact ⟨by first | rfl | (simp [*] <;> rfl), by repeat (first | (with_reducible first | exact HB.out | apply bal | apply pwB_ | apply bd1) | exact HB.out)⟩
def ff_cut.f (a0_0 : Int) (a0_1 : Int) (a1 : Int) : Option (Int) := (ff_sign.f a0_0 a0_1).bind fun t124 => (some (Go.bits .and .u64 a1 (IntKind.u64.wrap ((IntKind.u64.wrap (t124 * 2)) - 1))))
set_option maxHeartbeats 8000000 in
set_option maxRecDepth 100000 in
theorem ff_cut.calls (a0_0 : Int) (a0_1 : Int) (a1 : Int) (r : Int) (w : World) (h : ff_cut.f a0_0 a0_1 a1 = some r) :
  Calls Try.prog 36 #[.agg #[.int .i64 a0_0, .int .i64 a0_1], .int .u64 a1] w fun e w' => e = .returned (.int .u64 r) ∧ Below w.heap.size w w' := by
 have hu43 := Try.underlying43
 have HB := As0.mk (Below.refl w.heap.size w)
 have H : ((ff_sign.f a0_0 a0_1).bind fun t124 => (some (Go.bits .and .u64 a1 (IntKind.u64.wrap ((IntKind.u64.wrap (t124 * 2)) - 1))))) = some r := h
 clear h
 replace H := zob H
 obtain ⟨t124, A30, H⟩ := H
 replace H : (some (Go.bits .and .u64 a1 (IntKind.u64.wrap ((IntKind.u64.wrap (t124 * 2)) - 1)))) = some r := H
 have A3 := As0.mk A30
 clear A30
 obtain rfl := Option.some.inj H
 go_enter Try.func36, Try.ntmps36
 go_wp2_with (first | ((with_reducible refine gate_dst (N := 2) rfl ?_); refine box_event ?hg (N := 2) ?hd (cs := #[.int .i64 a0_0, .int .i64 a0_1]) (t := 43) ?hr ?_; (case hd => rfl); (case hg => rfl); (case hr => first | (go_simp; done) | (go_simp; rfl)); intro gb123 hg w4 hbox hb; have n0_ := As0.mk (bst (by repeat (first | (with_reducible first | exact HB.out | apply bal | apply pwB_ | apply bd1) | exact HB.out)) hb); have n1_ := As0.mk (hbox); have n2_ := As0.mk ((by rw [hg]; exact (below_size (by repeat (first | (with_reducible first | exact HB.out | apply bal | apply pwB_ | apply bd1) | exact HB.out))) : w.heap.size ≤ gb123)); have n3_ := As0.mk ((by rw [hg]; exact (below_size (by repeat (first | (with_reducible first | exact HB.out | apply bal | apply pwB_ | apply bd1) | exact HB.out))) : w.heap.size ≤ gb123)); clear HB; have HB := n0_; have BK123 := n1_; have GW123 := n2_; have GE123 := n3_; clear n0_ n1_ n2_ n3_; clear hb hbox hg; have hcz5_0 : w4.cell? ⟨gb123, 0, none⟩ = some (.int .i64 a0_0) := (bce BK123.out 0).trans rfl; have hcz5_1 : w4.cell? ⟨gb123, 1, none⟩ = some (.int .i64 a0_1) := (bce BK123.out 1).trans rfl; have hfz5_0 := bkf BK123.out 0; have hfz5_1 := bkf BK123.out 1) | ((with_reducible refine gcl (f := 43) rfl ?_); refine goesL_ (some 7) rfl rfl Try.func43 (by kernel_rfl) rfl #[.agg #[.int .i64 a0_0, .int .i64 a0_1]] rfl (by (try simp only [zmt, zmc, zmn]); first | done | rfl) ?_; (with_reducible refine (ff_sign.calls a0_0 a0_1 t124 _ A3.out).mono ?_); rintro e w6 ⟨rfl, hb⟩; refine ⟨_, rfl, ?_⟩; have n0_ := As0.mk (bkb (g := gb123) (o := .cells #[.int .i64 a0_0, .int .i64 a0_1] 43 (0, 0)) (by (with_reducible repeat (first | refine bkN ?_ _ | refine bkd ?_ | refine bka ?_ _)); exact BK123.out) hb); have n1_ := As0.mk (bst (by repeat (first | (with_reducible first | exact HB.out | apply bal | apply pwB_ | apply bd1 | refine bse ?_ GE123.out) | exact HB.out)) hb); clear BK123; clear HB; have BK123 := n0_; have HB := n1_; clear n0_ n1_; (try clear hb); (try clear hb2); (try clear hk); (try clear hi)))
 go_ret
 exact ⟨by first | rfl | (simp [*] <;> rfl), by repeat (first | (with_reducible first | exact HB.out | apply bal | apply pwB_ | apply bd1 | refine bse ?_ GE123.out) | exact HB.out)⟩
def ff_size.f (a0_0 : Int) (a0_1 : Int) (a1 : Int) : Option (Int) := (ff_sign.f a0_0 a0_1).bind fun t126 => (some (Go.bits .and .u64 a1 (IntKind.u64.wrap (t126 - 1))))
set_option maxHeartbeats 8000000 in
set_option maxRecDepth 100000 in
theorem ff_size.calls (a0_0 : Int) (a0_1 : Int) (a1 : Int) (r : Int) (w : World) (h : ff_size.f a0_0 a0_1 a1 = some r) :
  Calls Try.prog 40 #[.agg #[.int .i64 a0_0, .int .i64 a0_1], .int .u64 a1] w fun e w' => e = .returned (.int .u64 r) ∧ Below w.heap.size w w' := by
 have hu43 := Try.underlying43
 have HB := As0.mk (Below.refl w.heap.size w)
 have H : ((ff_sign.f a0_0 a0_1).bind fun t126 => (some (Go.bits .and .u64 a1 (IntKind.u64.wrap (t126 - 1))))) = some r := h
 clear h
 replace H := zob H
 obtain ⟨t126, A30, H⟩ := H
 replace H : (some (Go.bits .and .u64 a1 (IntKind.u64.wrap (t126 - 1)))) = some r := H
 have A3 := As0.mk A30
 clear A30
 obtain rfl := Option.some.inj H
 go_enter Try.func40, Try.ntmps40
 go_wp2_with (first | ((with_reducible refine gate_dst (N := 2) rfl ?_); refine box_event ?hg (N := 2) ?hd (cs := #[.int .i64 a0_0, .int .i64 a0_1]) (t := 43) ?hr ?_; (case hd => rfl); (case hg => rfl); (case hr => first | (go_simp; done) | (go_simp; rfl)); intro gb125 hg w4 hbox hb; have n0_ := As0.mk (bst (by repeat (first | (with_reducible first | exact HB.out | apply bal | apply pwB_ | apply bd1) | exact HB.out)) hb); have n1_ := As0.mk (hbox); have n2_ := As0.mk ((by rw [hg]; exact (below_size (by repeat (first | (with_reducible first | exact HB.out | apply bal | apply pwB_ | apply bd1) | exact HB.out))) : w.heap.size ≤ gb125)); have n3_ := As0.mk ((by rw [hg]; exact (below_size (by repeat (first | (with_reducible first | exact HB.out | apply bal | apply pwB_ | apply bd1) | exact HB.out))) : w.heap.size ≤ gb125)); clear HB; have HB := n0_; have BK125 := n1_; have GW125 := n2_; have GE125 := n3_; clear n0_ n1_ n2_ n3_; clear hb hbox hg; have hcz5_0 : w4.cell? ⟨gb125, 0, none⟩ = some (.int .i64 a0_0) := (bce BK125.out 0).trans rfl; have hcz5_1 : w4.cell? ⟨gb125, 1, none⟩ = some (.int .i64 a0_1) := (bce BK125.out 1).trans rfl; have hfz5_0 := bkf BK125.out 0; have hfz5_1 := bkf BK125.out 1) | ((with_reducible refine gcl (f := 43) rfl ?_); refine goesL_ (some 7) rfl rfl Try.func43 (by kernel_rfl) rfl #[.agg #[.int .i64 a0_0, .int .i64 a0_1]] rfl (by (try simp only [zmt, zmc, zmn]); first | done | rfl) ?_; (with_reducible refine (ff_sign.calls a0_0 a0_1 t126 _ A3.out).mono ?_); rintro e w6 ⟨rfl, hb⟩; refine ⟨_, rfl, ?_⟩; have n0_ := As0.mk (bkb (g := gb125) (o := .cells #[.int .i64 a0_0, .int .i64 a0_1] 43 (0, 0)) (by (with_reducible repeat (first | refine bkN ?_ _ | refine bkd ?_ | refine bka ?_ _)); exact BK125.out) hb); have n1_ := As0.mk (bst (by repeat (first | (with_reducible first | exact HB.out | apply bal | apply pwB_ | apply bd1 | refine bse ?_ GE125.out) | exact HB.out)) hb); clear BK125; clear HB; have BK125 := n0_; have HB := n1_; clear n0_ n1_; (try clear hb); (try clear hb2); (try clear hk); (try clear hi)))
 go_ret
 exact ⟨by first | rfl | (simp [*] <;> rfl), by repeat (first | (with_reducible first | exact HB.out | apply bal | apply pwB_ | apply bd1 | refine bse ?_ GE125.out) | exact HB.out)⟩
def ff_isNaN.f (a0_0 : Int) (a0_1 : Int) (a1 : Int) : Option (Bool) := (ff_size.f a0_0 a0_1 a1).bind fun t128 => ((ff_infinity.f a0_0 a0_1).bind fun t129 => (some (decide (t128 > t129))))
set_option maxHeartbeats 8000000 in
set_option maxRecDepth 100000 in
theorem ff_isNaN.calls (a0_0 : Int) (a0_1 : Int) (a1 : Int) (r : Bool) (w : World) (h : ff_isNaN.f a0_0 a0_1 a1 = some r) :
  Calls Try.prog 37 #[.agg #[.int .i64 a0_0, .int .i64 a0_1], .int .u64 a1] w fun e w' => e = .returned (.bool r) ∧ Below w.heap.size w w' := by
 have hu43 := Try.underlying43
 have HB := As0.mk (Below.refl w.heap.size w)
 have H : ((ff_size.f a0_0 a0_1 a1).bind fun t128 => ((ff_infinity.f a0_0 a0_1).bind fun t129 => (some (decide (t128 > t129))))) = some r := h
 clear h
 replace H := zob H
 obtain ⟨t128, A30, H⟩ := H
 replace H : ((ff_infinity.f a0_0 a0_1).bind fun t129 => (some (decide (t128 > t129)))) = some r := H
 have A3 := As0.mk A30
 clear A30
 replace H := zob H
 obtain ⟨t129, A40, H⟩ := H
 replace H : (some (decide (t128 > t129))) = some r := H
 have A4 := As0.mk A40
 clear A40
 obtain rfl := Option.some.inj H
 go_enter Try.func37, Try.ntmps37
 try go_wp2_with (first | ((with_reducible refine gate_dst (N := 2) rfl ?_); refine box_event ?hg (N := 2) ?hd (cs := #[.int .i64 a0_0, .int .i64 a0_1]) (t := 43) ?hr ?_; (case hd => rfl); (case hg => rfl); (case hr => first | (go_simp; done) | (go_simp; rfl)); intro gb127 hg w5 hbox hb; have n0_ := As0.mk (bst (by repeat (first | (with_reducible first | exact HB.out | apply bal | apply pwB_ | apply bd1) | exact HB.out)) hb); have n1_ := As0.mk (hbox); have n2_ := As0.mk ((by rw [hg]; exact (below_size (by repeat (first | (with_reducible first | exact HB.out | apply bal | apply pwB_ | apply bd1) | exact HB.out))) : w.heap.size ≤ gb127)); have n3_ := As0.mk ((by rw [hg]; exact (below_size (by repeat (first | (with_reducible first | exact HB.out | apply bal | apply pwB_ | apply bd1) | exact HB.out))) : w.heap.size ≤ gb127)); clear HB; have HB := n0_; have BK127 := n1_; have GW127 := n2_; have GE127 := n3_; clear n0_ n1_ n2_ n3_; clear hb hbox hg))
 have n0_ := As0.mk (bkd BK127.out)
 have n1_ := As0.mk (bd1 HB.out)
 clear BK127
 clear HB
 have BK127 := n0_
 have HB := n1_
 clear n0_ n1_
 refine start_ (n := 7) (S := fun w' => w'.cell? ⟨gb127, 0, none⟩ = some (.int .i64 a0_0) ∧ w'.cell? ⟨gb127, 1, none⟩ = some (.int .i64 a0_1)) (ds := []) #[false, false, false, false, false, false, false] (by kernel_rfl) rfl rfl ⟨(bce BK127.out 0).trans rfl, (bce BK127.out 1).trans rfl⟩ (fun hHeld => ?_)
 generalize w5.drew = w6 at BK127 HB hHeld ⊢
 refine pure_ (i := 1) (N := some 6) (v := ?_) (a' := ?_) #[false, true, false, false, false, false, false] rfl rfl (by kernel_rfl) (fun _ _ _ h => h) (Or.inl ⟨by rfl, ?_⟩) ?_ ?_
 rotate_left
 ·intro w'
  go_simp
  with_reducible rfl
 rotate_left
 ·simp only [Act.put, zsi, zcz, zcs, i64_w, i32_w]
  rfl
 refine take_ (i := 0) (N := some 5) (v := ?_) (a' := ?_) #[true, true, false, false, false, false, false] rfl rfl (by kernel_rfl) (fun _ _ _ h => h) (Or.inl ⟨by rfl, ?_⟩) hHeld ?_ ?_
 rotate_left
 ·rintro w' ⟨s0, s1⟩
  go_simp
  with_reducible rfl
 rotate_left
 ·simp only [Act.put, zsi, zcz, zcs, i64_w, i32_w]
  rfl
 refine take_ (i := 3) (N := some 8) (v := ?_) (a' := ?_) #[true, true, false, true, false, false, false] rfl rfl (by kernel_rfl) (fun _ _ _ h => h) (Or.inl ⟨by rfl, ?_⟩) hHeld ?_ ?_
 rotate_left
 ·rintro w' ⟨s0, s1⟩
  go_simp
  with_reducible rfl
 rotate_left
 ·simp only [Act.put, zsi, zcz, zcs, i64_w, i32_w]
  rfl
 refine one_ (i := 2) (N := some 7) #[true, true, true, true, false, false, false] rfl rfl (by kernel_rfl) (by decide) (fun K hK => ?_)
 refine goes_ Try.func40 (by kernel_rfl) rfl #[.agg #[.int .i64 a0_0, .int .i64 a0_1], .int .u64 a1] (by rfl) rfl rfl (by (try simp only [zmt, zmc, zmn]); first | done | rfl) ?_
 with_reducible refine (ff_size.calls a0_0 a0_1 a1 t128 _ A3.out).mono ?_
 rintro e w7 ⟨rfl, hb⟩
 refine ⟨_, rfl, ?_⟩
 have n0_ := As0.mk (bkb (g := gb127) (o := .cells #[.int .i64 a0_0, .int .i64 a0_1] 43 (0, 0)) (by (with_reducible repeat (first | refine bkN ?_ _ | refine bkd ?_ | refine bka ?_ _)); exact BK127.out) hb)
 have n1_ := As0.mk (bst (by repeat (first | (with_reducible first | exact HB.out | apply bal | apply pwB_ | apply bd1 | refine bse ?_ GE127.out) | exact HB.out)) hb)
 clear BK127
 clear HB
 have BK127 := n0_
 have HB := n1_
 clear n0_ n1_
 (try clear hb)
 (try clear hb2)
 (try clear hk)
 (try clear hi)
 refine hK.out _ _ ⟨(bce BK127.out 0).trans rfl, (bce BK127.out 1).trans rfl⟩ (fun hHeld => ?_)
 clear hK K
 refine norm_ (a' := ?_) ?_ ?_
 rotate_left
 ·show Act.put _ (some 7) _ = _
  simp only [Act.put, zsi, zcz, zcs, i64_w, i32_w]
  rfl
 refine one_ (i := 4) (N := some 9) #[true, true, true, true, true, false, false] rfl rfl (by kernel_rfl) (by decide) (fun K hK => ?_)
 refine goes_ Try.func50 (by kernel_rfl) rfl #[.agg #[.int .i64 a0_0, .int .i64 a0_1]] (by rfl) rfl rfl (by (try simp only [zmt, zmc, zmn]); first | done | rfl) ?_
 with_reducible refine (ff_infinity.calls a0_0 a0_1 t129 _ A4.out).mono ?_
 rintro e w8 ⟨rfl, hb⟩
 refine ⟨_, rfl, ?_⟩
 have n0_ := As0.mk (bkb (g := gb127) (o := .cells #[.int .i64 a0_0, .int .i64 a0_1] 43 (0, 0)) (by (with_reducible repeat (first | refine bkN ?_ _ | refine bkd ?_ | refine bka ?_ _)); exact BK127.out) hb)
 have n1_ := As0.mk (bst (by repeat (first | (with_reducible first | exact HB.out | apply bal | apply pwB_ | apply bd1 | refine bse ?_ GE127.out) | exact HB.out)) hb)
 clear BK127
 clear HB
 have BK127 := n0_
 have HB := n1_
 clear n0_ n1_
 (try clear hb)
 (try clear hb2)
 (try clear hk)
 (try clear hi)
 refine hK.out _ _ ⟨(bce BK127.out 0).trans rfl, (bce BK127.out 1).trans rfl⟩ (fun hHeld => ?_)
 clear hK K
 refine norm_ (a' := ?_) ?_ ?_
 rotate_left
 ·show Act.put _ (some 9) _ = _
  simp only [Act.put, zsi, zcz, zcs, i64_w, i32_w]
  rfl
 refine pure_ (i := 5) (N := some 10) (v := ?_) (a' := ?_) #[true, true, true, true, true, true, false] rfl rfl (by kernel_rfl) (fun _ _ _ h => h) (Or.inl ⟨by rfl, ?_⟩) ?_ ?_
 rotate_left
 ·intro w'
  go_simp
  with_reducible rfl
 rotate_left
 ·simp only [Act.put, zsi, zcz, zcs, i64_w, i32_w]
  rfl
 refine pure_ (i := 6) (N := some 4) (v := ?_) (a' := ?_) #[true, true, true, true, true, true, true] rfl rfl (by kernel_rfl) (fun _ _ _ h => h) (Or.inl ⟨by rfl, ?_⟩) ?_ ?_
 rotate_left
 ·intro w'
  go_simp
  with_reducible rfl
 rotate_left
 ·simp only [Act.put, zsi, zcz, zcs, i64_w, i32_w]
  rfl
 refine done_ (by kernel_rfl) ?_
 try go_wp2
 go_ret
 exact ⟨by first | rfl | (simp [*] <;> rfl), by repeat (first | (with_reducible first | exact HB.out | apply bal | apply pwB_ | apply bd1 | refine bse ?_ GE127.out) | exact HB.out)⟩
def ff_neg.f (a0_0 : Int) (a0_1 : Int) (a1 : Int) : Option (Bool) := (ff_sign.f a0_0 a0_1).bind fun t131 => (some ((Go.bits .and .u64 a1 t131) != 0))
set_option maxHeartbeats 8000000 in
set_option maxRecDepth 100000 in
theorem ff_neg.calls (a0_0 : Int) (a0_1 : Int) (a1 : Int) (r : Bool) (w : World) (h : ff_neg.f a0_0 a0_1 a1 = some r) :
  Calls Try.prog 39 #[.agg #[.int .i64 a0_0, .int .i64 a0_1], .int .u64 a1] w fun e w' => e = .returned (.bool r) ∧ Below w.heap.size w w' := by
 have hu43 := Try.underlying43
 have HB := As0.mk (Below.refl w.heap.size w)
 have H : ((ff_sign.f a0_0 a0_1).bind fun t131 => (some ((Go.bits .and .u64 a1 t131) != 0))) = some r := h
 clear h
 replace H := zob H
 obtain ⟨t131, A30, H⟩ := H
 replace H : (some ((Go.bits .and .u64 a1 t131) != 0)) = some r := H
 have A3 := As0.mk A30
 clear A30
 obtain rfl := Option.some.inj H
 go_enter Try.func39, Try.ntmps39
 go_wp2_with (first | ((with_reducible refine gate_dst (N := 2) rfl ?_); refine box_event ?hg (N := 2) ?hd (cs := #[.int .i64 a0_0, .int .i64 a0_1]) (t := 43) ?hr ?_; (case hd => rfl); (case hg => rfl); (case hr => first | (go_simp; done) | (go_simp; rfl)); intro gb130 hg w4 hbox hb; have n0_ := As0.mk (bst (by repeat (first | (with_reducible first | exact HB.out | apply bal | apply pwB_ | apply bd1) | exact HB.out)) hb); have n1_ := As0.mk (hbox); have n2_ := As0.mk ((by rw [hg]; exact (below_size (by repeat (first | (with_reducible first | exact HB.out | apply bal | apply pwB_ | apply bd1) | exact HB.out))) : w.heap.size ≤ gb130)); have n3_ := As0.mk ((by rw [hg]; exact (below_size (by repeat (first | (with_reducible first | exact HB.out | apply bal | apply pwB_ | apply bd1) | exact HB.out))) : w.heap.size ≤ gb130)); clear HB; have HB := n0_; have BK130 := n1_; have GW130 := n2_; have GE130 := n3_; clear n0_ n1_ n2_ n3_; clear hb hbox hg; have hcz5_0 : w4.cell? ⟨gb130, 0, none⟩ = some (.int .i64 a0_0) := (bce BK130.out 0).trans rfl; have hcz5_1 : w4.cell? ⟨gb130, 1, none⟩ = some (.int .i64 a0_1) := (bce BK130.out 1).trans rfl; have hfz5_0 := bkf BK130.out 0; have hfz5_1 := bkf BK130.out 1) | ((with_reducible refine gcl (f := 43) rfl ?_); refine goesL_ (some 7) rfl rfl Try.func43 (by kernel_rfl) rfl #[.agg #[.int .i64 a0_0, .int .i64 a0_1]] rfl (by (try simp only [zmt, zmc, zmn]); first | done | rfl) ?_; (with_reducible refine (ff_sign.calls a0_0 a0_1 t131 _ A3.out).mono ?_); rintro e w6 ⟨rfl, hb⟩; refine ⟨_, rfl, ?_⟩; have n0_ := As0.mk (bkb (g := gb130) (o := .cells #[.int .i64 a0_0, .int .i64 a0_1] 43 (0, 0)) (by (with_reducible repeat (first | refine bkN ?_ _ | refine bkd ?_ | refine bka ?_ _)); exact BK130.out) hb); have n1_ := As0.mk (bst (by repeat (first | (with_reducible first | exact HB.out | apply bal | apply pwB_ | apply bd1 | refine bse ?_ GE130.out) | exact HB.out)) hb); clear BK130; clear HB; have BK130 := n0_; have HB := n1_; clear n0_ n1_; (try clear hb); (try clear hb2); (try clear hk); (try clear hi)))
 go_ret
 exact ⟨by first | rfl | (simp [*] <;> rfl), by repeat (first | (with_reducible first | exact HB.out | apply bal | apply pwB_ | apply bd1 | refine bse ?_ GE130.out) | exact HB.out)⟩
end Go.Proofs.Ytjfmomogidgbpaa.PFl
