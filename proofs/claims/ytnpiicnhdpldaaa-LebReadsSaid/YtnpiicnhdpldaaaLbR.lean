/-
  The walk of the law LebLonger. No condition but that the number is one of 32 bits.
-/
import Derived.Test.YtnpiicnhdpldaaaLbQ
import Derived.Test.YtnpiicnhdpldaaaLbO
namespace Go.Proofs.Ytnpiicnhdpldaaa.Lb
set_option linter.unusedVariables false
set_option linter.unusedSimpArgs false
open Go.RowKit Go.Proofs.YtnpiicnhdpldaaaW.PrintWords Go.Proofs.Ytnpiicnhdpldaaa.PLeb Go.Proofs.Ytnpiicnhdpldaaa.Pure

theorem and7 (x : Int) : 0 ≤ Go.bits .and .i64 x 7 ∧ Go.bits .and .i64 x 7 ≤ 7 := by
  unfold Go.bits
  simp only
  rw [BitVec.toNat_and]
  have h7 : (BitVec.ofInt (IntKind.bits .i64) 7).toNat = 7 := by decide
  rw [h7]
  have h := @Nat.and_le_right (BitVec.ofInt (IntKind.bits .i64) x).toNat 7
  generalize (BitVec.ofInt (IntKind.bits .i64) x).toNat &&& 7 = y at *
  have e : IntKind.i64.wrap (y : Int) = (y : Int) := by
    simp [IntKind.wrap, IntKind.signed, IntKind.bits]
    omega
  rw [e]
  omega

theorem own_cap {w : World} {base n c : Nat} {e : TypeId} {size : Nat} {A : Option Addr} {xs : List Value} (h : w.ownsRow base e size (.slice A n c) n xs) : n ≤ c := by
  rcases h.2 with ⟨hv, hn⟩ | ⟨g, cap, cur, hv, _, _, hc, _⟩
  · omega
  · injection hv with _ _ h3; omega
theorem read_n (A : Option Addr) (c n : Nat) (l : List Int) (w : World) (hn : l.length = n) (hr : ReadsInt w .u8 A l.length l) (hc : l.length ≤ c) (hx : ∀ x ∈ l, 0 ≤ x ∧ x < 256) (hl : l.length ≤ 140737488351232) :
    Calls Try.prog 13 #[.slice A n c] w fun e w' => e = .returned (.pointer (some ⟨w.heap.size, 0, none⟩)) ∧ Rdr 55 w' w.heap.size l 0 ∧ Below w.heap.size w w' := by
  subst hn; exact read_c A c l w hr hc hx hl
/-- The bytes in the loop: the number's, more by one each round. -/
def LongRel (w : World) (base n m : Nat) (v i : Value) (wr : World) : Prop :=
  ∃ (k : Nat) (p : List Int) (c : Int), i = .int .i64 k ∧ k ≤ m ∧ Parts n p c ∧ p.length ≤ 4 + k ∧ wr.ownsRow base 5 1 v (p ++ [c]).length (nums .u8 (p ++ [c])) ∧ Below w.heap.size w wr

set_option maxRecDepth 100000 in
theorem longer_law (n more : Int) (w : World) (h0 : 0 ≤ n) (h1 : n < 4294967296) :
    Calls Try.prog 4 #[.int .u32 n, .int .i64 more] w fun e w' => e = .returned (.bool true) ∧ Below w.heap.size w w' := by
  obtain ⟨n, rfl⟩ := Int.eq_ofNat_of_zero_le h0
  obtain ⟨p, c, hU, hP, hp⟩ := U_nil32 n (by omega)
  have hk := and7 more
  generalize hm : Go.bits .and .i64 more 7 = m at *
  have HM := Lib.hid hm
  obtain ⟨m, rfl⟩ := Int.eq_ofNat_of_zero_le hk.1
  have hm7 : m ≤ 7 := by omega
  have HU := Lib.hid hU
  have HP := Lib.hid hP
  have HPL := Lib.hid hp
  clear hU hP hp hk
  have hn : n < 4294967296 := by omega
  clear hm
  go_enter Try.func4, Try.ntmps4
  go_wp2_with (first | (go_at_call 9; refine (awake_c _).mono ?_; rintro e w1 ⟨rfl, hb⟩; have HB := Lib.hid hb; clear hb) | (go_at_call 12; refine (U_c 20 none 0 [] (n : Int) _ _ (ReadsInt.nil _ _) (Nat.le_refl _) HU.out).mono ?_; intro e w2 hnq; obtain ⟨v, he, ho, hb⟩ := hnq.out; subst he; clear hnq; have HO := Lib.hid ho; have HB2 := Lib.hid (HB.out.trans (hb.mono HB.out.size)); clear ho hb))
  have HN := Lib.hid hn
  clear h0 h1 hn
  go_loopw [6, 8] (LongRel w w.heap.size n m) (fun _ i _ => m - (intOf i).toNat)
  case atStart => exact ⟨0, p, c, rfl, Nat.zero_le _, HP.out, HPL.out, own_weaken HO.out HB.out.size, HB2.out⟩
  case round =>
    obtain ⟨k, q, d, rfl, hkm, hq, hql, hown, hb⟩ := hrel
    clear HO HB2 HP HPL HU
    have HP := Lib.hid hq
    have HPL := Lib.hid hql
    have HO := Lib.hid hown
    have HBR := Lib.hid hb
    clear hq hql hown hb
    by_cases hlt : k < m
    · have hlt2 : (k : Int) < Go.bits .and .i64 more 7 := by rw [HM.out]; omega
      obtain ⟨g2, cap, rfl, hg2, _⟩ := HO.out.form (by simp)
      obtain ⟨N, hN⟩ : ∃ N, N = (q ++ [d]).length := ⟨_, rfl⟩
      have hNq : N = q.length + 1 := by rw [hN]; simp
      obtain ⟨hc1, hf1⟩ := own_at HO.out (q.length : Int) (by omega) (by omega)
      rw [Int.toNat_natCast, show q.length = N - 1 by omega] at hc1 hf1
      have hrd : rd (q ++ [d]) ((N - 1 : Nat) : Int) = d := by rw [hNq]; unfold rd; simp
      rw [hrd] at hc1
      have hst := (own_store HO.out (q.length : Int) (Go.bits .or .u8 d 128)).1
      rw [Int.toNat_natCast, show (q ++ [d]).set q.length (Go.bits .or .u8 d 128) = q ++ [Go.bits .or .u8 d 128] by simp, show q.length = N - 1 by omega, ← hN] at hst
      have HST := Lib.hid hst
      have HBS := Lib.hid (HBR.out.setCell (p := ⟨g2, N - 1, none⟩) (by show _ ≤ g2; omega) (.int .u8 (Go.bits .or .u8 d 128)))
      have HSZ : Hid (w.heap.size ≤ (wr.setCell ⟨g2, N - 1, none⟩ (.int .u8 (Go.bits .or .u8 d 128))).heap.size) := Lib.hid HBS.out.size
      have HNQ := Lib.hid hNq
      have hN1 : 1 ≤ N := by omega
      have hN9 : N ≤ 1000 := by have := HPL.out; omega
      rw [← hN]
      clear hg2 hrd hst HO hN hNq
      have HST1 : Hid ((wr.setCell ⟨g2, N - 1, none⟩ (.int .u8 (Go.bits .or .u8 d 128))).ownsRow w.heap.size 5 1 (.slice (some ⟨g2, 0, none⟩) N cap) (q ++ [Go.bits .or .u8 d 128]).length (nums .u8 (q ++ [Go.bits .or .u8 d 128]))) := Lib.hid (by
        have := HST.out
        rwa [show (q ++ [Go.bits .or .u8 d 128]).length = N by rw [HNQ.out]; simp])
      have HLL := Lib.hid (show ((q ++ [Go.bits .or .u8 d 128]).length + 1) * 1 ≤ 140737488355328 by simp; have := HPL.out; omega)
      go_wp2_with (at_builtin; go_loud (refine print_append_num (w0 := w) w.heap.size rfl (.tmp 36) (.tmp 37) 25 5 .u8 1 rfl Try.underlying25 info5 (by decide) (.slice (some ⟨g2, 0, none⟩) N cap) (q ++ [Go.bits .or .u8 d 128]) 0 rfl (by first | (go_simp; done) | (go_simp; rfl)) HST1.out HBS.out HSZ.out HLL.out ?_; intro v1 w3 hown hbl hg hat; have HO3 := Lib.hid hown; have HB3 := Lib.hid hbl; clear hown hbl hg hat))
      go_roundw
      case rel =>
        refine ⟨k + 1, q ++ [Go.bits .or .u8 d 128], 0, by go_num, by omega, HP.out.pad, by simp; have := HPL.out; omega, HO3.out, HB3.out⟩
      case measure => simp [intOf]; omega
    · have hge : Go.bits .and .i64 more 7 ≤ (k : Int) := by rw [HM.out]; omega
      obtain ⟨A, cc, rfl⟩ := own_slice HO.out
      have HLN : Hid ((q ++ [d]).length = q.length + 1) := Lib.hid (by simp)
      have HROW := Lib.hid (own_reads' HO.out)
      have HCC := Lib.hid (own_cap HO.out)
      have HXX : Hid (∀ x ∈ q ++ [d], 0 ≤ x ∧ x < 256) := Lib.hid (fun x hx => by
        rcases List.mem_append.1 hx with hx | hx
        · have := HP.out.go x hx; omega
        · rw [List.mem_singleton] at hx; have := HP.out.lo; have := HP.out.hi; omega)
      have HLL : Hid ((q ++ [d]).length ≤ 140737488351232) := Lib.hid (by rw [HLN.out]; have := HPL.out; omega)
      have HUF := Lib.hid (uF_parts HP.out HN.out)
      clear hlt hkm
      by_cases h5 : q.length < 5
      · have h5' : (q.length : Int) + 1 ≤ 5 := by omega
        have hn1 : (n : Int) ≤ 4294967295 := by have := HN.out; omega
        go_wp2_with (first | (go_at_call 13; refine (read_n A cc (q.length + 1) (q ++ [d]) _ HLN.out HROW.out HCC.out HXX.out HLL.out).mono ?_; rintro e w3 ⟨rfl, hq, hb⟩; have HQ3 := Lib.hid hq; have HB3 := Lib.hid (HBR.out.trans (hb.mono HBR.out.size)); clear hb hq) | (go_at_call 14; refine (u_c _ _ _ _ _ HQ3.out (.inl rfl)).mono ?_; intro e w4 hnq; rw [HUF.out, if_pos h5] at hnq; obtain ⟨he, hq, ht⟩ : e = .returned (.int .u64 n) ∧ Rdr 55 w4 wr.heap.size [] 0 ∧ Turn w3 w4 wr.heap.size := hnq.out; subst he; have HQ4 := Lib.hid hq; have HB4 := Lib.hid (ht.below HB3.out HBR.out.size); clear hnq hq ht) | (go_at_call 15; refine (err_k _ _ _ _ HQ4.out).mono ?_; rintro e w5 ⟨rfl, rfl⟩) | (go_at_call 16; refine (left_k _ _ _ _ HQ4.out).mono ?_; rintro e w5 ⟨rfl, rfl⟩))
        go_ret
        exact ⟨rfl, HB4.out⟩
      · have h5' : 5 < (q.length : Int) + 1 := by omega
        go_wp2_with (first | (go_at_call 13; refine (read_n A cc (q.length + 1) (q ++ [d]) _ HLN.out HROW.out HCC.out HXX.out HLL.out).mono ?_; rintro e w3 ⟨rfl, hq, hb⟩; have HQ3 := Lib.hid hq; have HB3 := Lib.hid (HBR.out.trans (hb.mono HBR.out.size)); clear hb hq) | (go_at_call 14; refine (u_c _ _ _ _ _ HQ3.out (.inl rfl)).mono ?_; intro e w4 hnq; rw [HUF.out, if_neg h5] at hnq; obtain ⟨he, hq, ht⟩ : e = .returned (.int .u64 0) ∧ Rdr 55 w4 wr.heap.size [] 11 ∧ Turn w3 w4 wr.heap.size := hnq.out; subst he; have HQ4 := Lib.hid hq; have HB4 := Lib.hid (ht.below HB3.out HBR.out.size); clear hnq hq ht) | (go_at_call 15; refine (err_k _ _ _ _ HQ4.out).mono ?_; rintro e w5 ⟨rfl, rfl⟩) | (go_at_call 16; refine (left_k _ _ _ _ HQ4.out).mono ?_; rintro e w5 ⟨rfl, rfl⟩))
        go_ret
        exact ⟨rfl, HB4.out⟩
theorem longer_walk (a0 a1 : Int) (w : World) (w0 : (Lit.int .u32 a0).wf = true) (w1 : (Lit.int .i64 a1).wf = true) :
    Calls Try.prog 4 #[.int .u32 a0, .int .i64 a1] w fun e w' => e = .returned (.bool true) ∧ Below w.heap.size w w' :=
  longer_law a0 a1 w (bounds_u32 w0).1 (by have := (bounds_u32 w0).2; omega)
end Go.Proofs.Ytnpiicnhdpldaaa.Lb
