/-
  Walks of the reader's methods (leb) on a reader that is none. No condition.
-/
import Derived.Test.YtnpiicnhdpldaaaLbG
namespace Go.Proofs.Ytnpiicnhdpldaaa.Lb
set_option linter.unusedVariables false
set_option linter.unusedSimpArgs false
open Go.RowKit Go.Proofs.YtnpiicnhdpldaaaW.PrintWords

theorem nil_bytes (w : World) : Calls Try.prog 33 #[.pointer none] w fun e w' => e = .returned (.slice none 0 0) ∧ w = w' := by
  go_enter Try.func33, Try.ntmps33
  go_wp2
  go_ret
  exact ⟨rfl, rfl⟩
theorem nil_err (w : World) : Calls Try.prog 15 #[.pointer none] w fun e w' => e = .returned (.int .i64 1) ∧ w = w' := by
  go_enter Try.func15, Try.ntmps15
  go_wp2
  go_ret
  exact ⟨rfl, rfl⟩
theorem nil_left (w : World) : Calls Try.prog 16 #[.pointer none] w fun e w' => e = .returned (.int .i64 0) ∧ w = w' := by
  go_enter Try.func16, Try.ntmps16
  go_wp2_with (go_at_call 33; refine (nil_bytes _).mono ?_; rintro e w' ⟨rfl, rfl⟩)
  go_ret
  exact ⟨rfl, rfl⟩
theorem nil_fail (x : Int) (w : World) : Calls Try.prog 31 #[.pointer none, .int .i64 x] w fun e w' => e = .returned (.tuple #[]) ∧ w = w' := by
  go_enter Try.func31, Try.ntmps31
  go_wp2
  go_end0
  exact ⟨rfl, rfl⟩
theorem nil_byte (w : World) : Calls Try.prog 25 #[.pointer none] w fun e w' => e = .returned (.int .u8 0) ∧ w = w' := by
  go_enter Try.func25, Try.ntmps25
  go_wp2_with (first | (go_at_call 16; refine (nil_left _).mono ?_; rintro e w' ⟨rfl, rfl⟩) | (go_at_call 31; refine (nil_fail _ _).mono ?_; rintro e w' ⟨rfl, rfl⟩))
  go_ret
  exact ⟨rfl, rfl⟩
theorem nil_number (bits : Int) (w : World) : Calls Try.prog 34 #[.pointer none, .int .i64 bits] w fun e w' => e = .returned (.tuple #[.int .u64 0, .int .i64 0, .bool false, .bool false]) ∧ w = w' := by
  by_cases hb : 1 ≤ bits ∧ bits ≤ 64
  · obtain ⟨h1, h2⟩ := hb
    go_enter Try.func34, Try.ntmps34
    go_wp2
    refine wp_scope_jumps 0 (fun _ _ => False) (fun _ _ => 0) rfl ?_ (fun _ _ h => h.elim)
    go_wp2
    go_step3
    go_wp2_with (first | (go_at_call 25; refine (nil_byte _).mono ?_; rintro e w' ⟨rfl, rfl⟩) | (go_at_call 15; refine (nil_err _).mono ?_; rintro e w' ⟨rfl, rfl⟩))
    simp only [Exit.jump]
    refine bodyPost_ret (v := .tuple #[.int .u64 0, .int .i64 0, .bool false, .bool false]) (by simp [results, Try.results34, go_sem]) rfl ⟨rfl, rfl⟩
  · by_cases h1 : bits < 1
    · go_enter Try.func34, Try.ntmps34
      go_wp2
      refine wp_scope_jumps 0 (fun _ _ => False) (fun _ _ => 0) rfl ?_ (fun _ _ h => h.elim)
      go_wp2_with (go_at_call 31; refine (nil_fail _ _).mono ?_; rintro e w' ⟨rfl, rfl⟩)
      simp only [Exit.jump]
      refine bodyPost_ret (v := .tuple #[.int .u64 0, .int .i64 0, .bool false, .bool false]) (by simp [results, Try.results34, go_sem]) rfl ⟨rfl, rfl⟩
    · have h2 : 64 < bits := by omega
      clear hb
      go_enter Try.func34, Try.ntmps34
      go_wp2
      refine wp_scope_jumps 0 (fun _ _ => False) (fun _ _ => 0) rfl ?_ (fun _ _ h => h.elim)
      go_wp2_with (go_at_call 31; refine (nil_fail _ _).mono ?_; rintro e w' ⟨rfl, rfl⟩)
      simp only [Exit.jump]
      refine bodyPost_ret (v := .tuple #[.int .u64 0, .int .i64 0, .bool false, .bool false]) (by simp [results, Try.results34, go_sem]) rfl ⟨rfl, rfl⟩
theorem nil_U (bits : Int) (w : World) : Calls Try.prog 14 #[.pointer none, .int .i64 bits] w fun e w' => e = .returned (.int .u64 0) ∧ w = w' := by
  go_enter Try.func14, Try.ntmps14
  go_wp2_with (first | (go_at_call 33; refine (nil_bytes _).mono ?_; rintro e w' ⟨rfl, rfl⟩) | (go_at_call 34; refine (nil_number _ _).mono ?_; rintro e w' ⟨rfl, rfl⟩))
  go_ret
  exact ⟨rfl, rfl⟩
theorem nil_S (bits : Int) (w : World) : Calls Try.prog 23 #[.pointer none, .int .i64 bits] w fun e w' => e = .returned (.int .i64 0) ∧ w = w' := by
  go_enter Try.func23, Try.ntmps23
  go_wp2_with (first | (go_at_call 33; refine (nil_bytes _).mono ?_; rintro e w' ⟨rfl, rfl⟩) | (go_at_call 34; refine (nil_number _ _).mono ?_; rintro e w' ⟨rfl, rfl⟩))
  go_ret
  exact ⟨rfl, rfl⟩
theorem nil_Take (n : Int) (w : World) : Calls Try.prog 27 #[.pointer none, .int .i64 n] w fun e w' => e = .returned (.slice none 0 0) ∧ w = w' := by
  by_cases h1 : n < 0
  · go_enter Try.func27, Try.ntmps27
    go_wp2_with (first | (go_at_call 31; refine (nil_fail _ _).mono ?_; rintro e w' ⟨rfl, rfl⟩) | (go_at_call 16; refine (nil_left _).mono ?_; rintro e w' ⟨rfl, rfl⟩) | (go_at_call 15; refine (nil_err _).mono ?_; rintro e w' ⟨rfl, rfl⟩))
    go_ret
    exact ⟨rfl, rfl⟩
  · have h0 : 0 ≤ n := by omega
    clear h1
    by_cases h2 : 0 < n
    · go_enter Try.func27, Try.ntmps27
      go_wp2_with (first | (go_at_call 31; refine (nil_fail _ _).mono ?_; rintro e w' ⟨rfl, rfl⟩) | (go_at_call 16; refine (nil_left _).mono ?_; rintro e w' ⟨rfl, rfl⟩) | (go_at_call 15; refine (nil_err _).mono ?_; rintro e w' ⟨rfl, rfl⟩))
      go_ret
      exact ⟨rfl, rfl⟩
    · obtain rfl : n = 0 := by omega
      go_enter Try.func27, Try.ntmps27
      go_wp2_with (first | (go_at_call 31; refine (nil_fail _ _).mono ?_; rintro e w' ⟨rfl, rfl⟩) | (go_at_call 16; refine (nil_left _).mono ?_; rintro e w' ⟨rfl, rfl⟩) | (go_at_call 15; refine (nil_err _).mono ?_; rintro e w' ⟨rfl, rfl⟩))
      go_ret
      exact ⟨rfl, rfl⟩
theorem valid_empty (w : World) : Calls Try.prog 10 #[.string ⟨#[]⟩] w fun e w' => e = .returned (.bool true) ∧ Below w.heap.size w w' :=
  (valid_w ⟨#[]⟩ (by decide) w).mono fun e w' hq => by
    rw [show validG ⟨#[]⟩ (⟨#[]⟩ : ByteArray).size 0 = true from by decide +kernel] at hq
    obtain ⟨he, pos, rfl⟩ := hq.out
    exact ⟨he, iter_below _ _ _⟩
theorem nil_Name (w : World) : Calls Try.prog 29 #[.pointer none] w fun e w' => e = .returned (.string ⟨#[]⟩) ∧ Below w.heap.size w w' := by
  have hcv : ∀ w : World, (convert 25 9 (.slice none 0 0)).run Try.prog w = .ok (.string ⟨#[]⟩) w := fun w => own_string (P := Try.prog) (src := 25) (dst := 9) (xs := []) Try.underlying25 Try.underlying5 Try.underlying9 (own_nil w 0 5 1)
  go_enter Try.func29, Try.ntmps29
  go_wp2_with (first | (go_at_call 14; refine (nil_U _ _).mono ?_; rintro e w' ⟨rfl, rfl⟩) | (go_at_call 31; refine (nil_fail _ _).mono ?_; rintro e w' ⟨rfl, rfl⟩) | (go_at_call 16; refine (nil_left _).mono ?_; rintro e w' ⟨rfl, rfl⟩) | (go_at_call 27; refine (nil_Take _ _).mono ?_; rintro e w' ⟨rfl, rfl⟩) | (go_at_call 10; refine (valid_empty _).mono ?_; rintro e w1 ⟨rfl, hb⟩; have HB := Lib.hid hb; clear hb) | (go_at_call 15; refine (nil_err _).mono ?_; rintro e w' ⟨rfl, rfl⟩))
  go_ret
  exact ⟨rfl, HB.out⟩
end Go.Proofs.Ytnpiicnhdpldaaa.Lb
