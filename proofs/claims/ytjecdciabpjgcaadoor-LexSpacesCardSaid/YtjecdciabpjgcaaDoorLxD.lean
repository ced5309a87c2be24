/-
  The walks of the reader's small functions of lex (sees, comment, sign). No condition but that the reader's block is one.
-/
import Derived.Test.YtjecdciabpjgcaaDoorLxI
import Derived.Deep.QuietTactic
import Derived.BigQuiet
import Derived.Lib.Split
namespace Go.Proofs.YtjecdciabpjgcaaDoor.Lx
set_option linter.unusedVariables false
set_option linter.unusedSimpArgs false
open Go.RowKit Go.Proofs.YtjecdciabpjgcaaDoorW.PrintWords

/-- A reader: its block, its text, its place. -/
structure Rd (w : World) (g : Nat) (s : ByteArray) (n : Nat) : Prop where mk ::
  (out : w.heap[g]? = some (.cells #[.string s, .int .i64 (n : Int)] 51 (0, 0)))
/-- What a call on the block g has turned: that block, and what is new. -/
structure Turn (w w' : World) (g : Nat) : Prop where
  os : w'.os = w.os
  tape : w'.tape = w.tape
  output : w'.output = w.output
  size : w.heap.size ≤ w'.heap.size
  block : ∀ k, k < w.heap.size → k ≠ g → w'.heap[k]? = w.heap[k]?
theorem Turn.refl (w : World) (g : Nat) : Turn w w g := ⟨rfl, rfl, rfl, Nat.le_refl _, fun _ _ _ => rfl⟩
theorem Turn.of_below {w w' : World} (h : Below w.heap.size w w') (g : Nat) : Turn w w' g := ⟨h.os, h.tape, h.output, h.size, fun k hk _ => h.block k hk⟩
theorem Turn.trans {a b c : World} {g : Nat} (h : Turn a b g) (k : Turn b c g) : Turn a c g :=
  ⟨k.os.trans h.os, k.tape.trans h.tape, k.output.trans h.output, Nat.le_trans h.size k.size, fun i hi hg => (k.block i (Nat.lt_of_lt_of_le hi h.size) hg).trans (h.block i hi hg)⟩
theorem Turn.set (w : World) (g i : Nat) (u : Value) : Turn w (w.setCell ⟨g, i, none⟩ u) g :=
  ⟨rfl, rfl, rfl, by simp [World.setCell], fun k _ hk => Below.heap_setCell w ⟨g, i, none⟩ u k hk⟩
theorem Turn.drewN (w : World) (n g : Nat) : Turn w (w.drewN n) g := Turn.of_below (pw_below_drewN (Below.refl _ _) n) g
theorem Turn.below {w0 w w' : World} {g : Nat} (hb : Below w0.heap.size w0 w) (h : Turn w w' g) (hg : w0.heap.size ≤ g) : Below w0.heap.size w0 w' :=
  hb.trans ⟨h.os, h.tape, h.output, h.size, fun k hk => h.block k (Nat.lt_of_lt_of_le hk hb.size) (by omega)⟩
theorem Turn.keep {w w' : World} {g : Nat} (h : Turn w w' g) : KeepBut w w' g none := ⟨h.size, fun i hi hg _ => h.block i hi hg⟩
theorem ML.turn {w w' : World} {g : Nat} (h : ML w) (ht : Turn w w' g) (hg : g ≠ 0) : ML w' := by
  obtain ⟨m, hm⟩ := h
  have hlt := World.block_lt_of_cell? w _ hm
  exact ⟨m, by rw [World.cell?_of_block (w := w) (ht.block 0 hlt (fun h => hg h.symm))]; exact hm⟩
theorem Rd.c0 {w : World} {g : Nat} {s : ByteArray} {n : Nat} (h : Rd w g s n) : w.cell? ⟨g, 0, none⟩ = some (.string s) := (blk_cell h.out 0).trans rfl
theorem Rd.c1 {w : World} {g : Nat} {s : ByteArray} {n : Nat} (h : Rd w g s n) : w.cell? ⟨g, 1, none⟩ = some (.int .i64 (n : Int)) := (blk_cell h.out 1).trans rfl
theorem Rd.f1 {w : World} {g : Nat} {s : ByteArray} {n : Nat} (h : Rd w g s n) : w.frozen? ⟨g, 1, none⟩ = false := blk_frozen h.out 1
theorem Rd.set {w : World} {g : Nat} {s : ByteArray} {n : Nat} (h : Rd w g s n) (m : Int) (k : Nat) (hm : m = (k : Int)) : Rd (w.setCell ⟨g, 1, none⟩ (.int .i64 m)) g s k := by
  subst hm
  have := blk_set h.out 1 (.int .i64 (k : Int))
  exact ⟨by simpa using this⟩
theorem Rd.drewN {w : World} {g : Nat} {s : ByteArray} {n : Nat} (h : Rd w g s n) (m : Nat) : Rd (w.drewN m) g s n := ⟨by have := h.out; simpa using this⟩
theorem Rd.below {w w' : World} {g : Nat} {s : ByteArray} {n : Nat} (h : Rd w g s n) (hb : Below w.heap.size w w') : Rd w' g s n := ⟨(hb.block g (blk_lt h.out)).trans h.out⟩
theorem Rd.lt {w : World} {g : Nat} {s : ByteArray} {n : Nat} (h : Rd w g s n) : g < w.heap.size := blk_lt h.out

theorem rest_data (s : ByteArray) (n : Nat) : (s.extract n s.size).data.toList = s.data.toList.drop n := by
  rw [Lib.extract_data, List.take_of_length_le (by rw [List.length_drop, len_data]; omega)]
structure SeeQ (w : World) (b : Bool) (e : Ending) (w' : World) : Prop where mk ::
  (out : e = .returned (.bool b) ∧ ∃ m, w' = w.drewN m)
theorem sees_c (g : Nat) (s : ByteArray) (n : Nat) (p : List UInt8) (b : Bool) (hn : n ≤ s.size) (hs : s.size ≤ 4000000000) (h : Lib.hasPrefix (s.data.toList.drop n) p = b) (w : World) (hr : Rd w g s n) :
    Calls Tryd.prog 27 #[.pointer (some ⟨g, 0, none⟩), .string ⟨p.toArray⟩] w (SeeQ w b) := by
  have HC := Lib.hid (fun w => (Tryd.strings_HasPrefix (s.extract n s.size) ⟨p.toArray⟩ w))
  have HB : Hid (Lib.hasPrefix (s.extract n s.size).data.toList p = b) := Lib.hid (by rw [rest_data]; exact h)
  have h0 := hr.c0
  have h1 := hr.c1
  have hn1 : (n : Int) ≤ (s.size : Int) := by omega
  clear h hr
  go_enter Tryd.func27, Tryd.ntmps27
  go_wp2
  go_quiet ((go_at_call 34; exact Calls.quiet_of_same (HC.out _)))
  go_wp2
  go_ret
  exact ⟨by rw [HB.out]; rfl, _, rfl⟩

/-- The place of a reader. -/
def rdPos (w : World) (g : Nat) : Nat := match w.cell? ⟨g, 1, none⟩ with | some (.int _ n) => n.toNat | _ => 0
theorem Rd.pos {w : World} {g : Nat} {s : ByteArray} {n : Nat} (h : Rd w g s n) : rdPos w g = n := by unfold rdPos; rw [h.c1]; simp
theorem cm_nil (f d : Nat) : cm f d [] = none := by cases f <;> rfl
theorem cm_open (f d : Nat) (l : List UInt8) (h : Lib.hasPrefix l [40, 59] = true) : cm (f + 1) d l = cm f (d + 1) (l.drop 2) := by
  cases l with
  | nil => cases h
  | cons c t => simp only [cm]; rw [if_pos h]
theorem cm_shut (f d : Nat) (l : List UInt8) (h1 : Lib.hasPrefix l [40, 59] = false) (h : Lib.hasPrefix l [59, 41] = true) : cm (f + 1) d l = if d = 1 then some (l.drop 2) else cm f (d - 1) (l.drop 2) := by
  cases l with
  | nil => cases h
  | cons c t => simp only [cm]; rw [h1, if_neg (by decide), if_pos h]
theorem cm_on (f d : Nat) (l : List UInt8) (hl : l ≠ []) (h1 : Lib.hasPrefix l [40, 59] = false) (h : Lib.hasPrefix l [59, 41] = false) : cm (f + 1) d l = cm f d (l.drop 1) := by
  cases l with
  | nil => exact absurd rfl hl
  | cons c t => simp only [cm]; rw [h1, if_neg (by decide), h, if_neg (by decide)]; rfl
theorem pre_len (l p : List UInt8) (h : Lib.hasPrefix l p = true) : p.length ≤ l.length := (List.isPrefixOf_iff_prefix.1 h).length_le

def CmR (g : Nat) (s : ByteArray) (w : World) (R : Option (List UInt8)) (v3 : Value) (wr : World) : Prop :=
  ∃ d n f : Nat, v3 = .int .i64 (d : Int) ∧ n ≤ s.size ∧ d ≤ n ∧ Rd wr g s n ∧ Turn w wr g ∧ s.size - n < f ∧ cm f d (s.data.toList.drop n) = R ∧ (d = 0 → Lib.hasPrefix (s.data.toList.drop n) [40, 59] = true)
structure CmQ (g : Nat) (s : ByteArray) (w : World) (R : Option (List UInt8)) (e : Ending) (w' : World) : Prop where mk ::
  (out : ∃ n, n ≤ s.size ∧ Rd w' g s n ∧ Turn w w' g ∧ ((R = none ∧ e = .returned (.bool false)) ∨ (R = some (s.data.toList.drop n) ∧ e = .returned (.bool true))))
set_option maxRecDepth 100000 in
theorem comment_c (g : Nat) (s : ByteArray) (n : Nat) (hn : n ≤ s.size) (hs : s.size ≤ 4000000000) (w : World) (hr : Rd w g s n) (hp : Lib.hasPrefix (s.data.toList.drop n) [40, 59] = true) (R : Option (List UInt8)) (hR : cm (s.size - n + 1) 0 (s.data.toList.drop n) = R) :
    Calls Tryd.prog 28 #[.pointer (some ⟨g, 0, none⟩)] w (CmQ g s w R) := by
  have HS := Lib.hid (fun n p b hn h w hr => sees_c g s n p b hn hs h w hr)
  have HA : Hid (CmR g s w R (.int .i64 0) w) := Lib.hid ⟨0, n, _, rfl, hn, Nat.zero_le _, hr, Turn.refl _ _, Nat.lt_succ_self _, hR, fun _ => hp⟩
  clear hn hr hp hR
  go_enter Tryd.func28, Tryd.ntmps28
  go_wp2
  go_loopw [3] (CmR g s w R) (fun _ wr => s.size - rdPos wr g)
  case atStart => exact HA.out
  case round =>
    obtain ⟨d, n, f, rfl, hn, hdn, hr, ht, hf, hc, hz⟩ := hrel
    have HR0 := Lib.hid hr
    have HT0 := Lib.hid ht
    have HC := Lib.hid hc
    have HZ := Lib.hid hz
    have h0 := hr.c0
    have h1 := hr.c1
    have hfz := hr.f1
    have hdl : d ≤ 4000000000 := by omega
    clear hr ht hc hz
    by_cases hlt : n < s.size
    · by_cases ha : Lib.hasPrefix (s.data.toList.drop n) [40, 59] = true
      · have hl2 : n + 2 ≤ s.size := by have := pre_len _ _ ha; rw [List.length_drop, len_data] at this; simp at this; omega
        have HSA := Lib.hid (fun w hr => HS.out n [40, 59] true hn ha w hr)
        have HN : Hid (cm (f - 1) (d + 1) (s.data.toList.drop (n + 2)) = R) := Lib.hid (by
          obtain ⟨f, rfl⟩ : ∃ k, f = k + 1 := ⟨f - 1, by omega⟩
          have := HC.out
          rw [cm_open f d _ ha, List.drop_drop] at this
          exact this)
        clear ha
        go_wp2
        go_quiet (fail)
        go_wp2_with (go_at_call 27; refine (HSA.out _ (HR0.out.drewN _)).mono ?_; intro e w1 hq; obtain ⟨he, m1, hw1⟩ := hq.out; subst he; subst hw1; clear hq)
        go_roundw
        case rel => exact ⟨d + 1, n + 2, f - 1, by push_cast; rfl, by omega, by omega, (HR0.out.drewN _).set _ _ (by push_cast; rfl), (HT0.out.trans (Turn.drewN _ _ _)).trans (Turn.set _ _ _ _), by omega, HN.out, by omega⟩
        case measure =>
          rw [HR0.out.pos, ((HR0.out.drewN _).set _ (n + 2) (by push_cast; rfl)).pos]
          omega
      · have ha' : Lib.hasPrefix (s.data.toList.drop n) [40, 59] = false := by simpa using ha
        have hd1 : 1 ≤ d := by
          rcases Nat.eq_zero_or_pos d with h | h
          · exact absurd (HZ.out h) ha
          · exact h
        have HSA := Lib.hid (fun w hr => HS.out n [40, 59] false hn ha' w hr)
        by_cases hb : Lib.hasPrefix (s.data.toList.drop n) [59, 41] = true
        · have hl2 : n + 2 ≤ s.size := by have := pre_len _ _ hb; rw [List.length_drop, len_data] at this; simp at this; omega
          have HSB := Lib.hid (fun w hr => HS.out n [59, 41] true hn hb w hr)
          have HN : Hid ((if d = 1 then some (s.data.toList.drop (n + 2)) else cm (f - 1) (d - 1) (s.data.toList.drop (n + 2))) = R) := Lib.hid (by
            obtain ⟨f, rfl⟩ : ∃ k, f = k + 1 := ⟨f - 1, by omega⟩
            have := HC.out
            rw [cm_shut f d _ ha' hb, List.drop_drop] at this
            exact this)
          clear ha ha' hb
          by_cases hd : d = 1
          · have HN2 : Hid (R = some (s.data.toList.drop (n + 2))) := Lib.hid (by have := HN.out; rw [if_pos hd] at this; exact this.symm)
            subst hd
            go_wp2
            go_quiet (fail)
            go_wp2_with (first | (go_at_call 27; ((with_reducible refine (HSA.out _ (HR0.out.drewN _)).mono ?_)); intro e w1 hq; obtain ⟨he, m1, hw1⟩ := hq.out; subst he; subst hw1; clear hq) | (go_at_call 27; ((with_reducible refine (HSB.out _ (HR0.out.drewN _)).mono ?_)); intro e w2 hq; obtain ⟨he, m2, hw2⟩ := hq.out; subst he; subst hw2; clear hq))
            go_ret
            exact ⟨n + 2, by omega, (HR0.out.drewN _).set _ _ (by push_cast; rfl), (HT0.out.trans (Turn.drewN _ _ _)).trans (Turn.set _ _ _ _), .inr ⟨HN2.out, rfl⟩⟩
          · have hd2 : 2 ≤ d := by omega
            have HN2 : Hid (cm (f - 1) (d - 1) (s.data.toList.drop (n + 2)) = R) := Lib.hid (by have := HN.out; rw [if_neg hd] at this; exact this)
            have hd3 : ((d : Int) - 1 == 0) = false := by simp; omega
            clear hd
            go_wp2
            go_quiet (fail)
            go_wp2_with (first | (go_at_call 27; ((with_reducible refine (HSA.out _ (HR0.out.drewN _)).mono ?_)); intro e w1 hq; obtain ⟨he, m1, hw1⟩ := hq.out; subst he; subst hw1; clear hq) | (go_at_call 27; ((with_reducible refine (HSB.out _ (HR0.out.drewN _)).mono ?_)); intro e w2 hq; obtain ⟨he, m2, hw2⟩ := hq.out; subst he; subst hw2; clear hq))
            go_roundw
            case rel => exact ⟨d - 1, n + 2, f - 1, by congr 1; omega, by omega, by omega, (HR0.out.drewN _).set _ _ (by push_cast; rfl), (HT0.out.trans (Turn.drewN _ _ _)).trans (Turn.set _ _ _ _), by omega, HN2.out, by omega⟩
            case measure =>
              rw [HR0.out.pos, ((HR0.out.drewN _).set _ (n + 2) (by push_cast; rfl)).pos]
              omega
        · have hb' : Lib.hasPrefix (s.data.toList.drop n) [59, 41] = false := by simpa using hb
          have HSB := Lib.hid (fun w hr => HS.out n [59, 41] false hn hb' w hr)
          have HN : Hid (cm (f - 1) d (s.data.toList.drop (n + 1)) = R) := Lib.hid (by
            obtain ⟨f, rfl⟩ : ∃ k, f = k + 1 := ⟨f - 1, by omega⟩
            have := HC.out
            rw [cm_on f d _ (by rw [drop_at s n hlt]; simp) ha' hb', List.drop_drop] at this
            exact this)
          clear ha ha' hb hb'
          go_wp2
          go_quiet (fail)
          go_wp2_with (first | (go_at_call 27; ((with_reducible refine (HSA.out _ (HR0.out.drewN _)).mono ?_)); intro e w1 hq; obtain ⟨he, m1, hw1⟩ := hq.out; subst he; subst hw1; clear hq) | (go_at_call 27; ((with_reducible refine (HSB.out _ (HR0.out.drewN _)).mono ?_)); intro e w2 hq; obtain ⟨he, m2, hw2⟩ := hq.out; subst he; subst hw2; clear hq))
          go_roundw
          case rel => exact ⟨d, n + 1, f - 1, rfl, by omega, by omega, (HR0.out.drewN _).set _ _ (by push_cast; rfl), (HT0.out.trans (Turn.drewN _ _ _)).trans (Turn.set _ _ _ _), by omega, HN.out, by omega⟩
          case measure =>
            rw [HR0.out.pos, ((HR0.out.drewN _).set _ (n + 1) (by push_cast; rfl)).pos]
            omega
    · have hn' : n = s.size := by omega
      have HN : Hid (R = none) := Lib.hid (by have := HC.out; rw [drop_end s n (by omega), cm_nil] at this; exact this.symm)
      have hge : (s.size : Int) ≤ (n : Int) := by omega
      clear hlt
      go_wp2
      go_quiet (fail)
      go_wp2
      go_ret
      exact ⟨n, by omega, HR0.out.drewN _, HT0.out.trans (Turn.drewN _ _ _), .inl ⟨HN.out, rfl⟩⟩
end Go.Proofs.YtjecdciabpjgcaaDoor.Lx
