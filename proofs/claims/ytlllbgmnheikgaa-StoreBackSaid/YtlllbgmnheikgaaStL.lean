/-
  The walk of the law StoreBack, begun. No condition but that of every slice that is read: it takes no more than 2^47 bytes.
-/
import Derived.Test.YtlllbgmnheikgaaStJ
namespace Go.Proofs.Ytlllbgmnheikgaa.St
set_option linter.unusedVariables false
set_option linter.unusedSimpArgs false
open Go.RowKit Go.Proofs.YtlllbgmnheikgaaW.PrintWords Go.Proofs.Ytlllbgmnheikgaa.PStoreNone

theorem back_big (A : Option Addr) (c n : Nat) (p f k : Int) (w : World) (h : (n : Int) > 2000) :
    Calls Try.prog 5 #[.slice A n c, .int .u64 p, .int .u64 f, .int .u64 k] w fun e w' => e = .returned (.bool true) ∧ Below w.heap.size w w' := by
  go_enter Try.func5, Try.ntmps5
  go_wp2_with (go_at_call 8; refine (awake_c _).mono ?_; rintro e w1 ⟨rfl, hb⟩; have HB := Lib.hid hb; clear hb)
  go_ret
  exact ⟨rfl, HB.out⟩
set_option maxHeartbeats 1000000 in
set_option maxRecDepth 100000 in
theorem back_trap (A : Option Addr) (c : Nat) (xs : List Int) (p f n : Nat) (w : World) (hl : (xs.length : Int) ≤ 2000) (hr : ReadsInt w .u8 A xs.length xs) (hc : xs.length ≤ c) (he : initE p f n xs.length xs.length = 44) :
    Calls Try.prog 5 #[.slice A xs.length c, .int .u64 (p : Int), .int .u64 (f : Int), .int .u64 (n : Int)] w fun e w' => e = .returned (.bool true) ∧ Below w.heap.size w w' := by
  have hx : initF p f n xs xs = xs := by
    unfold initE at he
    unfold initF
    split at he
    · cases he
    · rename_i q; rw [if_neg q]
  have HX := Lib.hid hx
  have HE := Lib.hid he
  have HR := Lib.hid hr
  have HLN : Hid ((([] : List Int).length + xs.length) * 1 ≤ 140737488355328) := Lib.hid (by simp; omega)
  clear hx he hr
  go_enter Try.func5, Try.ntmps5
  go_upto_region 8 with (first | (go_at_call 8; refine (awake_c _).mono ?_; rintro e w1 ⟨rfl, hb⟩; have HB := Lib.hid hb; have HR1 := Lib.hid (HR.out.below hb); clear hb) | (at_builtin; refine print_append_row (w0 := w) w.heap.size rfl (.tmp 21) (.tmp 22) 29 5 .u8 1 rfl Try.underlying29 info5 (by decide) (.slice none 0 0) [] xs A xs.length c rfl rfl (own_nil _ _ _ _) HR1.out HB.out HB.out.size HLN.out ?_; intro v1 w2 hown hbl hg hat; obtain ⟨A2, c2, rfl⟩ := own_slice hown; have HO := Lib.hid hown; have HB2 := Lib.hid hbl; clear hown hbl hg hat))
  have HM : Hid (MemI (w2.alloc (.cells #[.int .i64 0, .int .i64 0, .bool false, .slice A2 xs.length c2] 31)) w.heap.size w2.heap.size 0 0 false (.slice A2 xs.length c2) xs) := Lib.hid
    ⟨heap_alloc_new _ _, own_alloc (by simpa using HO.out) _, HB2.out.size, by omega⟩
  have HB3 := Lib.hid (HB2.out.alloc HB2.out.size (.cells #[.int .i64 0, .int .i64 0, .bool false, .slice A2 xs.length c2] 31))
  have hcv := string_of_reads (P := Try.prog) (src := 29) (dst := 9) (c := c) Try.underlying29 Try.underlying5 Try.underlying9 (HR.out.below HB3.out)
  go_upto_region 10 with fail
  generalize w2.alloc (.cells #[.int .i64 0, .int .i64 0, .bool false, .slice A2 xs.length c2] 31) = w3 at HM HB3 hcv ⊢
  clear hcv
  go_wp2_with (go_at_call 19; have hcp := copy_c w3 w.heap.size w2.heap.size 0 0 false (.slice A2 xs.length c2) xs HM.out p f n; rw [HX.out, HE.out] at hcp; refine hcp.mono ?_; intro e w4 hq; obtain ⟨he, hm, hg⟩ := hq.out; subst he; have hcB := hm.cellB; have hcv := own_string (P := Try.prog) (src := 29) (dst := 9) Try.underlying29 Try.underlying5 Try.underlying9 hm.own; have HB4 := Lib.hid (HB3.out.grown hg HB3.out.size (own_base HM.out.own)); clear hq hm hg hcp)
  go_ret
  exact ⟨by simp, HB4.out⟩
/-- What is written back gives the bytes as they were. -/
theorem back_plain (xs : List Int) (p f n : Nat) (hp : p + n ≤ xs.length) (hf : f + n ≤ xs.length) :
    (xs.take p ++ ((xs.drop f).take n ++ xs.drop (p + n))).take p ++ ((xs.drop p).take n ++ (xs.take p ++ ((xs.drop f).take n ++ xs.drop (p + n))).drop (p + n)) = xs := by
  have l1 : (xs.take p).length = p := by rw [List.length_take]; omega
  have l2 : ((xs.drop f).take n).length = n := by rw [List.length_take, List.length_drop]; omega
  have e1 : (xs.take p ++ ((xs.drop f).take n ++ xs.drop (p + n))).take p = xs.take p := by
    rw [List.take_append, l1, List.take_of_length_le (l := xs.take p) (by omega), Nat.sub_self, List.take_zero, List.append_nil]
  have e2 : (xs.take p ++ ((xs.drop f).take n ++ xs.drop (p + n))).drop (p + n) = xs.drop (p + n) := by
    rw [← List.append_assoc, List.drop_append_of_le_length (by rw [List.length_append, l1, l2]; omega), List.drop_of_length_le (by rw [List.length_append, l1, l2]; omega), List.nil_append]
  rw [e1, e2, ← List.append_assoc, ← List.take_add, List.take_append_drop]
end Go.Proofs.Ytlllbgmnheikgaa.St
