/-
  The walks of TrailingZeros64, of ints.Un where it counts trailing noughts, and of the law IntsOne. Condition: the library's table math/bits.deBruijn64tab reads as its initialiser lays it.
-/
import Derived.Test.YtajmjmnlapplaaaDoorOnB
import Derived.Test.YtajmjmnlapplaaaDoorPureRel
import Derived.Shelf.Spec.TrailingZeros
import Derived.Lib.Hide
namespace Go.Proofs.YtajmjmnlapplaaaDoor.Pure
set_option linter.unusedVariables false
set_option linter.unusedSimpArgs false
open Go.RowKit Go.Proofs.YtajmjmnlapplaaaDoor.PInts Go.Proofs.YtajmjmnlapplaaaDoor.PIno Go.Proofs.YtajmjmnlapplaaaDoorW.PrintWords Go.Proofs.YtajmjmnlapplaaaDoorW.PrintLast Go.Proofs.YtajmjmnlapplaaaDoorW.PrintMore

set_option maxHeartbeats 1000000 in
theorem tz_core (x k idx : Nat) (w : World) (hx0 : ((x : Int) == 0) = false)
    (key : IntKind.u64.wrap (bits BinOp.and IntKind.u64 (x : Int) (IntKind.u64.wrap (-(x : Int))) * 285870213051353865) / 288230376151711744 = (idx : Int))
    (hi : idx < 64) (hk : k < 64) (hcell : w.cell? ⟨0, idx, none⟩ = some (.int .u8 k)) :
    Calls Tryd.prog 39 #[.int .u64 x] w fun e w' => e = .returned (.int .i64 k) ∧ w' = w := by
  go_enter Tryd.func39, Tryd.ntmps39
  go_wp2_with (simp only [key])
  go_ret
  exact ⟨rfl, rfl⟩
theorem tz_zero (w : World) : Calls Tryd.prog 39 #[.int .u64 0] w fun e w' => e = .returned (.int .i64 64) ∧ w' = w := by
  go_enter Tryd.func39, Tryd.ntmps39
  go_wp2
  go_ret
  exact ⟨rfl, rfl⟩
theorem tz_any (x : Nat) (hx : x < 18446744073709551616) (w : World) (hT : TabAt 0 Lib.deBruijn64tab w) :
    Calls Tryd.prog 39 #[.int .u64 x] w fun e w' => e = .returned (.int .i64 (Lib.ctz 64 x)) ∧ w = w' := by
  by_cases hx0 : x = 0
  · subst hx0
    exact (tz_zero w).mono fun e w' h => ⟨h.1, h.2.symm⟩
  · obtain ⟨hlow, hk⟩ := Lib.lowest_bit 64 x hx0 hx
    obtain ⟨hi, htab⟩ := Lib.deBruijn64_at _ hk
    have hcell := hT _ hi
    rw [htab] at hcell
    exact (tz_core x _ _ w (by simp; omega) (tz64_key x _ hx hx0 hlow) hi hk hcell).mono fun e w' h => ⟨h.1, h.2.symm⟩
theorem tab_drewN {w : World} (h : TabAt 0 Lib.deBruijn64tab w) (n : Nat) : TabAt 0 Lib.deBruijn64tab (w.drewN n) := fun j hj => by
  have := h j hj
  simpa using this
theorem tab_below {w w' : World} (h : TabAt 0 Lib.deBruijn64tab w) (hb : Below w.heap.size w w') : TabAt 0 Lib.deBruijn64tab w' := fun j hj => by
  have hh := h j hj
  rw [hb.cell (p := ⟨0, j, none⟩) (World.block_lt_of_cell? w _ hh)]
  exact hh
theorem right_k (n : Int) (w : World) (h : R n) : Calls Tryd.prog 25 #[.int .i64 n] w fun e w' => e = .returned (.bool true) ∧ Drawn0 w w' := ints_right.calls n true w (right_yes n h)
theorem mask_k (n : Int) (w : World) (h : R n) : Calls Tryd.prog 26 #[.int .i64 n] w fun e w' => e = .returned (.int .u64 (pw n - 1)) ∧ Drawn0 w w' := ints_mask.calls n _ w (mask_ok n h)
attribute [local go_sem] max2_int min2_int max_two min_two
set_option maxRecDepth 100000 in
theorem un_two (n a : Int) (w : World) (h : R n) (a0 : 0 ≤ a) (a1 : a < 18446744073709551616) (hT : TabAt 0 Lib.deBruijn64tab w) :
    Calls Tryd.prog 20 #[.int .i64 n, .int .i64 2, .int .u64 a] w fun e w' => e = .returned (.tuple #[.int .u64 (unI n 2 (a % pw n)).1, .int .i64 (unI n 2 (a % pw n)).2]) ∧ Below w.heap.size w w' := by
  have ca := cut_bounds n a; have hp := pw_pos n
  have hn : 8 ≤ n ∧ n ≤ 64 := by unfold R at h; omega
  obtain ⟨X, hX⟩ := Int.eq_ofNat_of_zero_le ca.1
  have ham := and_mask n a h a0 a1
  rw [hX] at ham ca ⊢
  have hc : Lib.ctz 64 X ≤ 64 := by
    unfold Lib.ctz
    split
    · exact Nat.le_refl _
    · rename_i h0
      obtain ⟨m, _, hm⟩ := Lib.ctzFrom_spec 64 X (by omega) (by omega)
      omega
  have hu : unI n 2 (X : Int) = (min (Lib.ctz 64 X : Int) n, 0) := by unfold unI; rw [if_neg (by decide), if_pos rfl, Int.toNat_natCast]
  rw [hu]
  have hX64 : X < 18446744073709551616 := by omega
  obtain ⟨c, hcc⟩ : ∃ c, c = Lib.ctz 64 X := ⟨_, rfl⟩
  rw [← hcc] at hc ⊢
  have HZ : Hid (∀ w, TabAt 0 Lib.deBruijn64tab w → Calls Tryd.prog 39 #[.int .u64 (X : Int)] w fun e w' => e = .returned (.int .i64 (c : Int)) ∧ w = w') := Lib.hid (by rw [hcc]; exact fun w => tz_any X hX64 w)
  have HM : Hid (IntKind.u64.wrap (min (c : Int) n) = min (c : Int) n) := Lib.hid (wr_u _ (by omega) (by omega))
  have HT := Lib.hid hT
  have H := Lib.hid h
  clear hT h hcc hu hX
  go_enter Tryd.func20, Tryd.ntmps20
  go_wp2_with (first | (go_at_call 25; refine (right_k n _ H.out).mono ?_; rintro e w1 ⟨rfl, ⟨d1, rfl⟩⟩) | (go_at_call 26; refine (mask_k n _ H.out).mono ?_; rintro e w1 ⟨rfl, ⟨d2, rfl⟩⟩) | (go_at_call 39; refine (HZ.out _ (by intro j hj; have := HT.out j hj; simpa using this)).mono ?_; rintro e w3 ⟨rfl, rfl⟩))
  all_goals go_ret2
  · have e : min (c : Int) n = n := by omega
    rw [e]
    exact ⟨rfl, pw_below_drewN (Below.refl _ _) _⟩
  · have e : min (c : Int) n = c := by omega
    rw [e]
    exact ⟨rfl, pw_below_drewN (Below.refl _ _) _⟩
/-- What the law's calls of Un come to. -/
def unR (n op a : Int) : Int × Int := if R n ∧ 1 ≤ op ∧ op ≤ 8 then unI n op (a % pw n) else (0, 1)
theorem un_k (n op a : Int) (w : World) (a0 : 0 ≤ a) (a1 : a < 18446744073709551616) (hT : TabAt 0 Lib.deBruijn64tab w) :
    Calls Tryd.prog 20 #[.int .i64 n, .int .i64 op, .int .u64 a] w fun e w' => e = .returned (.tuple #[.int .u64 (unR n op a).1, .int .i64 (unR n op a).2]) ∧ Below w.heap.size w w' := by
  by_cases ho : op = 2
  · by_cases hR : R n
    · subst ho
      have e : unR n 2 a = unI n 2 (a % pw n) := if_pos ⟨hR, by decide, by decide⟩
      rw [e]
      exact un_two n a w hR a0 a1 hT
    · have e : unR n op a = (0, 1) := if_neg (fun h => hR h.1)
      rw [e]
      exact ints_Un.calls 300 n op a 0 1 w (un_no 299 n op a (fun h => hR h.1))
  · exact ints_Un.calls 300 n op a _ _ w (un_all n op a ho a0 a1)
theorem rUn_k (n op a : Int) (w : World) (a0 : 0 ≤ a) (a1 : a < 18446744073709551616) :
    Calls Tryd.prog 21 #[.int .i64 n, .int .i64 op, .int .u64 a] w fun e w' => e = .returned (.tuple #[.int .u64 (unR n op a).1, .int .i64 (unR n op a).2]) ∧ Below w.heap.size w w' :=
  bodkinref02_Un.calls 300 n op a _ _ w (rUn_all n op a a0 a1)
theorem sig_k (n a : Int) (a0 : 0 ≤ a) (a1 : a < 18446744073709551616) : ∃ s, (∀ w, Calls Tryd.prog 22 #[.int .i64 n, .int .u64 a] w fun e w' => e = .returned (.int .i64 s) ∧ Drawn0 w w') ∧ ∀ w, Calls Tryd.prog 23 #[.int .i64 n, .int .u64 a] w fun e w' => e = .returned (.int .i64 s) ∧ Drawn0 w w' := by
  by_cases h : R n
  · exact ⟨_, fun w => ints_Signed.calls n a _ w (signed_ok n a h a0 a1), fun w => bodkinref02_Signed.calls 100 n a _ w (rSigned 100 n a (by omega) h a0 a1)⟩
  · exact ⟨_, fun w => ints_Signed.calls n a _ w (signed_no n a h), fun w => bodkinref02_Signed.calls 100 n a _ w (rSigned_no 100 n a h)⟩
theorem aw_k (w : World) : Calls Tryd.prog 15 #[] w fun e w' => e = .returned (.bool true) ∧ Below w.heap.size w w' := bodkinlaw02_awake.calls 20 true w awake_ok
theorem bel_drawn {w w' : World} (h : Drawn0 w w') : Below w.heap.size w w' := by
  obtain ⟨n, rfl⟩ := h.out
  exact pw_below_drewN (Below.refl _ _) n
set_option maxRecDepth 100000 in
theorem one_walk (n op a b : Int) (w : World) (_ : (Lit.int .i64 n).wf = true) (_ : (Lit.int .i64 op).wf = true) (wa : (Lit.int .u64 a).wf = true) (wb : (Lit.int .u64 b).wf = true) (hT : TabAt 0 Lib.deBruijn64tab w) :
    Calls Tryd.prog 5 #[.int .i64 n, .int .i64 op, .int .u64 a, .int .u64 b] w fun e w' => e = .returned (.bool true) ∧ Below w.heap.size w w' := by
  have ⟨a0, a1⟩ := Go.bounds_u64 wa
  have ⟨b0, b1⟩ := Go.bounds_u64 wb
  have a1' : a < 18446744073709551616 := by omega
  have b1' : b < 18446744073709551616 := by omega
  obtain ⟨⟨r1, r2⟩, hr⟩ := agree_rel n op a b a0 a1' b0 b1'
  have hr := hr 101 (Nat.le_refl _)
  obtain ⟨s, hs1, hs2⟩ := sig_k n a a0 a1'
  have HU := Lib.hid (fun w hT => un_k n op a w a0 a1' hT)
  have HV := Lib.hid (fun w => rUn_k n op a w a0 a1')
  generalize unR n op a = u at *
  obtain ⟨u1, u2⟩ := u
  have HR1 := Lib.hid (fun w => (ints_Rel.calls 101 n op a b r1 r2 w hr.1).mono fun e w' h => (⟨h.1, bel_drawn h.2⟩ : e = .returned (.tuple #[.bool r1, .int .i64 r2]) ∧ Below w.heap.size w w'))
  have HR2 := Lib.hid (fun w => bodkinref02_Rel.calls 101 n op a b r1 r2 w hr.2)
  have HS1 := Lib.hid (fun w => (hs1 w).mono fun e w' h => (⟨h.1, bel_drawn h.2⟩ : e = .returned (.int .i64 s) ∧ Below w.heap.size w w'))
  have HS2 := Lib.hid (fun w => (hs2 w).mono fun e w' h => (⟨h.1, bel_drawn h.2⟩ : e = .returned (.int .i64 s) ∧ Below w.heap.size w w'))
  have HT := Lib.hid hT
  clear hr hs1 hs2 hT
  go_enter Tryd.func5, Tryd.ntmps5
  go_wp2_with fail
  refine (aw_k _).mono ?_
  rintro e w1 ⟨rfl, hb⟩
  have HB1 := Lib.hid hb
  clear hb
  go_wp2_with fail
  refine (HR1.out _).mono ?_
  rintro e w2 ⟨rfl, hb⟩
  have HB2 := Lib.hid (HB1.out.trans (hb.mono HB1.out.size))
  clear hb
  go_wp2_with fail
  refine (HR2.out _).mono ?_
  rintro e w3 ⟨rfl, hb⟩
  have HB3 := Lib.hid (HB2.out.trans (hb.mono HB2.out.size))
  have HT3 := Lib.hid (tab_below HT.out HB3.out)
  clear hb
  go_wp2_with fail
  refine (HU.out _ HT3.out).mono ?_
  rintro e w4 ⟨rfl, hb⟩
  have HB4 := Lib.hid (HB3.out.trans (hb.mono HB3.out.size))
  clear hb
  go_wp2_with fail
  refine (HV.out _).mono ?_
  rintro e w5 ⟨rfl, hb⟩
  have HB5 := Lib.hid (HB4.out.trans (hb.mono HB4.out.size))
  clear hb
  go_wp2_with fail
  refine (HS1.out _).mono ?_
  rintro e w6 ⟨rfl, hb⟩
  have HB6 := Lib.hid (HB5.out.trans (hb.mono HB5.out.size))
  clear hb
  go_wp2_with fail
  refine (HS2.out _).mono ?_
  rintro e w7 ⟨rfl, hb⟩
  have HB7 := Lib.hid (HB6.out.trans (hb.mono HB6.out.size))
  clear hb
  go_wp2_with fail
  go_ret
  exact ⟨rfl, HB7.out⟩
end Go.Proofs.YtajmjmnlapplaaaDoor.Pure
