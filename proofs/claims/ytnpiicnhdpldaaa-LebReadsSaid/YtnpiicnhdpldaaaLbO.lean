/-
  The walk of the law LebNone. No condition but that of every slice that is read: it takes no more than 2^47 bytes.
-/
import Derived.Test.YtnpiicnhdpldaaaLbN
import Derived.Test.YtnpiicnhdpldaaaLbH
namespace Go.Proofs.Ytnpiicnhdpldaaa.Lb
set_option linter.unusedVariables false
set_option linter.unusedSimpArgs false
open Go.RowKit Go.Proofs.YtnpiicnhdpldaaaW.PrintWords

/-- What is made of a row that is turned byte by byte: a row as long. -/
def SomeRow (w : World) (base : Nat) (v : Value) (n : Nat) : Prop := ∃ ys : List Int, ys.length = n ∧ w.ownsRow base 5 1 v n (nums .u8 ys)

theorem rdr_set {T : Nat} {w : World} {g : Nat} {y : Int} (H : Rdr T w g [] y) {p : Addr} (hp : g ≠ p.block) (u : Value) : Rdr T (w.setCell p u) g [] y := by
  obtain ⟨A, c, hb, hc, hr, hx, hl⟩ := H.out
  exact ⟨A, c, (Below.heap_setCell w p u g hp).trans hb, hc, ⟨rfl, by simp, fun h => absurd h (by simp)⟩, hx, hl⟩
theorem string_reads {w w' : World} {A : Option Addr} {c : Nat} {l : List Int} (hr : ReadsInt w .u8 A l.length l) (hb : Below w.heap.size w w') : (convert 25 9 (.slice A l.length c)).run Try.prog w' = .ok (.string (strOfNums l)) w' :=
  string_of_reads Try.underlying25 Try.underlying5 Try.underlying9 (hr.below hb)
def NoneRel (w : World) (g n base : Nat) (v : Value) (i : Value) (wr : World) : Prop := ∃ k : Nat, i = .int .i64 k ∧ k ≤ n ∧ SomeRow wr base v n ∧ Below w.heap.size w wr ∧ Rdr 55 wr g [] 0

set_option maxRecDepth 100000 in
theorem none_law (A : Option Addr) (c : Nat) (l : List Int) (n : Int) (w : World) (hr : ReadsInt w .u8 A l.length l) (hc : l.length ≤ c) (hx : ∀ x ∈ l, 0 ≤ x ∧ x < 256) (hl : l.length ≤ 140737488351232) :
    Calls Try.prog 7 #[.slice A l.length c, .int .i64 n] w fun e w' => e = .returned (.bool true) ∧ Below w.heap.size w w' := by
  have HR := Lib.hid hr
  have HC := Lib.hid hc
  have HX := Lib.hid hx
  have HL := Lib.hid hl
  clear hr hc hx hl
  by_cases hlen : (l.length : Int) > 1000
  · go_enter Try.func7, Try.ntmps7
    go_wp2_with (first | (go_at_call 9; refine (awake_c _).mono ?_; rintro e w1 ⟨rfl, hb⟩; have HB := Lib.hid hb; clear hb) | (go_at_call 31; refine (nil_fail _ _).mono ?_; rintro e w' ⟨rfl, rfl⟩) | (go_at_call 25; refine (nil_byte _).mono ?_; rintro e w' ⟨rfl, rfl⟩) | (go_at_call 14; refine (nil_U _ _).mono ?_; rintro e w' ⟨rfl, rfl⟩) | (go_at_call 23; refine (nil_S _ _).mono ?_; rintro e w' ⟨rfl, rfl⟩) | (go_at_call 27; ((with_reducible refine (nil_Take _ _).mono ?_)); rintro e w' ⟨rfl, rfl⟩) | (go_at_call 29; refine (nil_Name _).mono ?_; rintro e w2 ⟨rfl, hb⟩; have HB2 := Lib.hid (HB.out.trans (hb.mono HB.out.size)); clear hb) | (go_at_call 16; refine (nil_left _).mono ?_; rintro e w' ⟨rfl, rfl⟩) | (go_at_call 15; ((with_reducible refine (nil_err _).mono ?_)); rintro e w' ⟨rfl, rfl⟩))
    go_ret
    exact ⟨rfl, HB2.out⟩
  · have hlen' : (l.length : Int) ≤ 1000 := by omega
    clear hlen
    go_enter Try.func7, Try.ntmps7
    go_wp2_with (first | (go_at_call 9; refine (awake_c _).mono ?_; rintro e w1 ⟨rfl, hb⟩; have HB := Lib.hid hb; clear hb) | (go_at_call 31; refine (nil_fail _ _).mono ?_; rintro e w' ⟨rfl, rfl⟩) | (go_at_call 25; refine (nil_byte _).mono ?_; rintro e w' ⟨rfl, rfl⟩) | (go_at_call 14; refine (nil_U _ _).mono ?_; rintro e w' ⟨rfl, rfl⟩) | (go_at_call 23; refine (nil_S _ _).mono ?_; rintro e w' ⟨rfl, rfl⟩) | (go_at_call 27; ((with_reducible refine (nil_Take _ _).mono ?_)); rintro e w' ⟨rfl, rfl⟩) | (go_at_call 29; refine (nil_Name _).mono ?_; rintro e w2 ⟨rfl, hb⟩; have HB2 := Lib.hid (HB.out.trans (hb.mono HB.out.size)); have hcv := string_reads (c := c) HR.out HB2.out; clear hb) | (go_at_call 16; refine (nil_left _).mono ?_; rintro e w' ⟨rfl, rfl⟩) | (go_at_call 15; ((with_reducible refine (nil_err _).mono ?_)); rintro e w' ⟨rfl, rfl⟩) | (go_at_call 13; refine (read_c _ _ _ _ (HR.out.below HB2.out) HC.out HX.out HL.out).mono ?_; rintro e w3 ⟨rfl, hq, hb⟩; have HQ3 := Lib.hid hq; have HB3 := Lib.hid (HB2.out.trans (hb.mono HB2.out.size)); clear hb hq) | (go_at_call 27; refine (take_c _ _ _ _ _ HQ3.out (.inl rfl)).mono ?_; intro e w4 hnq; rw [show takeF (l.length : Int) l 0 = (l, [], 0) from by unfold takeF; rw [if_neg (by omega), if_pos rfl, if_pos (Int.le_refl _), Int.toNat_natCast, List.take_length, List.drop_length]] at hnq; obtain ⟨v, he, ho, hq, ht⟩ : ∃ v, e = .returned v ∧ w4.ownsRow w3.heap.size 5 1 v l.length (nums .u8 l) ∧ Rdr 55 w4 w2.heap.size [] 0 ∧ Turn w3 w4 w2.heap.size := hnq.out; subst he; obtain ⟨A2, c2, rfl⟩ := own_slice ho; have HO := Lib.hid ho; have HQ4 := Lib.hid hq; have HT4 := Lib.hid ht; clear hnq ho hq ht))
    have HB4 : Hid (Below w.heap.size w w4) := Lib.hid (HT4.out.below HB3.out HB2.out.size)
    have HGG : Hid (w2.heap.size < w3.heap.size) := Lib.hid (by obtain ⟨_, _, hb, _⟩ := HQ3.out.out; exact blk_lt hb)
    clear HT4 HQ3
    go_loopw [10] (NoneRel w w2.heap.size l.length w3.heap.size (.slice A2 l.length c2)) (fun i _ => l.length - (intOf i).toNat)
    case atStart => exact ⟨0, rfl, Nat.zero_le _, ⟨l, rfl, HO.out⟩, HB4.out, HQ4.out⟩
    case round =>
      obtain ⟨k, rfl, hk, ⟨ys, hys, hown⟩, hb, hq⟩ := hrel
      clear HO HQ4 HB4 HB3
      have HYS := Lib.hid hys
      have HOW := Lib.hid hown
      have HBR := Lib.hid hb
      have HQR := Lib.hid hq
      clear hys hown hb hq
      by_cases hlt : k < l.length
      · obtain ⟨g2, cap, hv, hg2, _⟩ := HOW.out.form (by omega)
        obtain ⟨rfl, _, rfl⟩ : A2 = some ⟨g2, 0, none⟩ ∧ True ∧ c2 = cap := by injection hv with h1 _ h3; exact ⟨h1, trivial, h3⟩
        clear hv
        obtain ⟨hc1, hf1⟩ := own_at HOW.out (k : Int) (by omega) (by omega)
        rw [Int.toNat_natCast] at hc1 hf1
        have HG2 := Lib.hid hg2
        clear hg2
        go_wp2
        go_roundw
        case rel =>
          have hs := own_store HOW.out (k : Int) (Go.bits .xor .u8 (rd ys k) 255)
          rw [Int.toNat_natCast] at hs
          exact ⟨k + 1, by go_num, by omega, ⟨_, by rw [List.length_set]; exact HYS.out, hs.1⟩, HBR.out.setCell (by have := HG2.out; have := HB2.out.size; have := HGG.out; show _ ≤ g2; omega) _, rdr_set HQR.out (by have := HG2.out; have := HGG.out; show _ ≠ g2; omega) _⟩
        case measure => simp [intOf]; omega
      · have hge : (l.length : Int) ≤ k := by omega
        have hcv2 := string_reads (c := c) HR.out HBR.out
        go_wp2_with (go_at_call 15; refine (err_k _ _ _ _ HQR.out).mono ?_; rintro e w' ⟨rfl, rfl⟩)
        go_ret
        exact ⟨by simp [size_strOfNums], HBR.out⟩
theorem none_walk (a0 : Option Addr) (len0 cap0 : Nat) (z0 : List Int) (a1 : Int) (w : World) (w0 : (a0 = none ∧ len0 = 0 ∧ cap0 = 0 ∧ z0 = []) ∨ ∃ x, a0 = some x ∧ len0 ≤ cap0 ∧ cap0 ≤ maxLen ∧ z0.length = cap0 ∧ (∀ i, i < z0.length → w.cell? (x.add i) = some (.int .u8 (z0.getD i 0))) ∧ ∀ n ∈ z0, (Lit.int .u8 n).wf = true) (y0 : len0 * 1 ≤ 140737488351232) (w1 : (Lit.int .i64 a1).wf = true) :
    Calls Try.prog 7 #[.slice a0 len0 cap0, .int .i64 a1] w fun e w' => e = .returned (.bool true) ∧ Below w.heap.size w w' := by
  obtain ⟨l0, rfl, hr0, hm0, hw0, hc0⟩ := ReadsInt.ofRowC w0
  exact none_law a0 cap0 l0 a1 w hr0 hc0 (fun x hx => by have := bounds_u8 (hw0 x hx); omega) (by omega)
end Go.Proofs.Ytnpiicnhdpldaaa.Lb
