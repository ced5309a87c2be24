/-
  The walk of literal.Int. Condition: the library's variable internal/bytealg.MaxLen holds a number; the text is shorter than 4000000000 bytes.
-/
import Derived.Test.YtjecdciabpjgcaaDoorLxB
import Derived.Laws.BitsAllLaws
import Derived.Laws.BitsLemmas
namespace Go.Proofs.YtjecdciabpjgcaaDoor.Lx
set_option linter.unusedVariables false
set_option linter.unusedSimpArgs false
open Go.RowKit Go.Proofs.YtjecdciabpjgcaaDoorW.PrintWords

theorem and_most (n : Int) (h : n = 8 ∨ n = 16 ∨ n = 32 ∨ n = 64) (a : Int) (h0 : 0 ≤ a) (h1 : a < 18446744073709551616) : Go.bits .and .u64 a ((most n : Nat) : Int) = a % ((most n + 1 : Nat) : Int) := by
  have hk : ∀ m : Int, 0 ≤ m → m < 2 ^ 64 → IntKind.u64.wrap m = m := fun m a b => IntWalk.u64_in m (by omega)
  rcases h with rfl | rfl | rfl | rfl
  · exact bits_mask .u64 64 (by decide) hk 8 (by decide) a h0 (by omega)
  · exact bits_mask .u64 64 (by decide) hk 16 (by decide) a h0 (by omega)
  · exact bits_mask .u64 64 (by decide) hk 32 (by decide) a h0 (by omega)
  · exact bits_mask .u64 64 (by decide) hk 64 (by decide) a h0 (by omega)
theorem most_8 : most 8 = 255 := by decide
theorem most_16 : most 16 = 65535 := by decide
theorem most_32 : most 32 = 4294967295 := by decide
theorem most_64 : most 64 = 18446744073709551615 := by decide
theorem neg_most (n : Int) (h : n = 8 ∨ n = 16 ∨ n = 32 ∨ n = 64) (m : Nat) (hm : m ≤ most n) : Go.bits .and .u64 (IntKind.u64.wrap (-(m : Int))) ((most n : Nat) : Int) = (((most n + 1 - m) % (most n + 1) : Nat) : Int) := by
  have hw : 0 ≤ IntKind.u64.wrap (-(m : Int)) ∧ IntKind.u64.wrap (-(m : Int)) < 18446744073709551616 := by rw [IntKind.wrap_u64]; omega
  rw [and_most n h _ hw.1 hw.2, IntKind.wrap_u64]
  rcases h with rfl | rfl | rfl | rfl
  · rw [most_8] at *; omega
  · rw [most_16] at *; omega
  · rw [most_32] at *; omega
  · rw [most_64] at *; omega
theorem rowF_hex (t : List UInt8) (hex : Bool) : ∀ c ∈ (rowF t hex).1, ishex c = true := by
  intro c hc
  unfold rowF at hc
  split at hc
  · rename_i h
    have := List.all_eq_true.1 h c hc
    cases hex
    · have h2 : ∀ n : Fin 256, isdig false n.val.toUInt8 = true → ishex n.val.toUInt8 = true := by decide +kernel
      have h3 := h2 ⟨c.toNat, c.toNat_lt⟩
      simp at h3
      exact h3 this
    · exact this
  · cases hc
theorem trim_len (l p : List UInt8) : (Lib.trimPrefix l p).length ≤ l.length := by
  unfold Lib.trimPrefix; split <;> simp
theorem signF_len (l : List UInt8) : (signF l).2.length ≤ l.length := by
  unfold signF; split
  · simp
  · exact trim_len _ _
theorem rowF_len (t : List UInt8) (hex : Bool) : (rowF t hex).1.length ≤ t.length := by
  unfold rowF; split
  · exact List.length_filter_le _ _
  · simp
theorem size_arr (l : List UInt8) : (⟨l.toArray⟩ : ByteArray).size = l.length := by simp [ByteArray.size]

structure IntQ (w : World) (r : Nat × Bool) (e : Ending) (w' : World) : Prop where mk ::
  (out : e = .returned (.tuple #[.int .u64 (r.1 : Int), .bool r.2]) ∧ Below w.heap.size w w')
theorem IntQ.of {w w' : World} {r : Nat × Bool} {n : Nat} {b : Bool} (h : (n, b) = r) (hb : Below w.heap.size w w') : IntQ w r (.returned (.tuple #[.int .u64 (n : Int), .bool b])) w' := by
  subst h; exact ⟨rfl, hb⟩
/-- Behind the digits: what the number comes to. -/
def intE (bits : Int) (neg : Bool) (fine : Bool) (K : Option Nat) : Nat × Bool :=
  if right bits = true ∧ fine = true then
    match K with
    | none => (0, false)
    | some n => if (neg = true ∧ most bits / 2 + 1 < n) ∨ most bits < n then (0, false) else if neg = true then ((most bits + 1 - n) % (most bits + 1), true) else (n, true)
  else (0, false)
theorem intF_eq (bits : Int) (l : List UInt8) : intF bits l = intE bits (signF l).1 (rowF (hexF (signF l).2).2 (hexF (signF l).2).1).2 (numK (if (hexF (signF l).2).1 then 16 else 10) (rowF (hexF (signF l).2).2 (hexF (signF l).2).1).1 0) := rfl

set_option maxRecDepth 1000000 in
theorem int_c (s : ByteArray) (bits : Int) (hs : s.size ≤ 4000000000) (w : World) (hm : ML w) (R : Nat × Bool) (hR : intF bits s.data.toList = R) :
    Calls Tryd.prog 42 #[.int .i64 bits, .string s] w (IntQ w R) := by
  rw [intF_eq] at hR
  obtain ⟨neg, s1, hsg⟩ : ∃ neg s1, signF s.data.toList = (neg, s1) := ⟨_, _, rfl⟩
  have hl1 : s1.length ≤ s.size := by have := signF_len s.data.toList; rw [hsg, len_data] at this; exact this
  rw [hsg] at hR
  obtain ⟨hex, t, hhx⟩ : ∃ hex t, hexF s1 = (hex, t) := ⟨_, _, rfl⟩
  have hl2 : t.length ≤ s1.length := by have := trim_len s1 [48, 120]; unfold hexF at hhx; obtain ⟨_, rfl⟩ := Prod.mk.inj hhx; exact this
  simp only at hR
  rw [hhx] at hR
  simp only at hR
  obtain ⟨d, fine, hrw⟩ : ∃ d fine, rowF t hex = (d, fine) := ⟨_, _, rfl⟩
  have hl3 : d.length ≤ t.length := by have := rowF_len t hex; rw [hrw] at this; exact this
  have hdh : ∀ c ∈ d, ishex c = true := by have := rowF_hex t hex; rw [hrw] at this; exact this
  rw [hrw] at hR
  simp only at hR
  obtain ⟨K, hK⟩ : ∃ K, numK (if hex then 16 else 10) d 0 = K := ⟨_, rfl⟩
  rw [hK] at hR
  obtain ⟨base, hbase⟩ : ∃ base : Nat, base = if hex then 16 else 10 := ⟨_, rfl⟩
  have hb : base = 10 ∨ base = 16 := by cases hex <;> simp [hbase]
  rw [← hbase] at hK
  have HR := Lib.hid hR
  have HM := Lib.hid hm
  have C1 := Lib.hid (fun w => sign_c s neg s1 hsg w)
  have C2 := Lib.hid (fun w => cutp_c ⟨s1.toArray⟩ [48, 120] hex t (by unfold hexF at hhx; exact (Prod.mk.inj hhx).1) (by unfold hexF at hhx; exact (Prod.mk.inj hhx).2) w)
  have C3 := Lib.hid (fun w hm => row_c ⟨t.toArray⟩ hex (by rw [size_arr]; omega) w hm (d, fine) hrw)
  have C4 := Lib.hid (fun w => number_c ⟨d.toArray⟩ base hb hdh (by rw [size_arr]; omega) w K hK)
  have HBASE := Lib.hid hbase
  clear hR hm hsg hhx hrw hdh hK hb hbase hl1 hl2 hl3
  go_enter Tryd.func42, Tryd.ntmps42
  go_upto_if 32 with (first | (go_at_call 45; refine (C1.out _).mono ?_; rintro e w1 ⟨rfl, rfl⟩) | (go_at_call 40; refine (C2.out _).mono ?_; rintro e w1 ⟨rfl, rfl⟩) | (go_at_call 46; refine (C3.out _ HM.out).mono ?_; intro e w1 hq; obtain ⟨he, hb⟩ := hq.out; subst he; have HM1 := Lib.hid (HM.out.below hb); have HB1 := Lib.hid hb; clear hb hq))
  go_cut [12] (fun v wx => v = .int .u64 (base : Int) ∧ w1 = wx)
  case first =>
    cases hex
    · go_wp2
      go_meet
      exact ⟨by rw [HBASE.out]; rfl, rfl⟩
    · go_wp2
      go_meet
      exact ⟨by rw [HBASE.out]; rfl, rfl⟩
  case rest =>
    obtain ⟨rfl, rfl⟩ := hcut
    go_upto_region 8 with (go_at_call 47; refine (C4.out _).mono ?_; intro e w2 hq; obtain ⟨he, hb⟩ := hq.out; subst he; have HB2 := Lib.hid (HB1.out.trans (hb.mono HB1.out.size)); clear hb hq)
    by_cases hri : right bits = true
    · have hri4 : bits = 8 ∨ bits = 16 ∨ bits = 32 ∨ bits = 64 := by unfold right at hri; simpa [or_assoc] using hri
      have HNM := Lib.hid (fun m hm => neg_most bits hri4 m hm)
      cases fine
      · have HE : Hid ((0, false) = R) := Lib.hid (by have := HR.out; unfold intE at this; rw [if_neg (by simp)] at this; exact this)
        rcases hri4 with rfl | rfl | rfl | rfl
        all_goals
          go_wp2
          go_ret2
          exact IntQ.of HE.out HB2.out
      · cases K with
        | none =>
          have HE : Hid ((0, false) = R) := Lib.hid (by have := HR.out; unfold intE at this; rw [if_pos ⟨hri, rfl⟩] at this; exact this)
          rcases hri4 with rfl | rfl | rfl | rfl
          all_goals
            simp only [numR]
            go_wp2
            go_ret2
            exact IntQ.of HE.out HB2.out
        | some n =>
          have HE : Hid ((if (neg = true ∧ most bits / 2 + 1 < n) ∨ most bits < n then ((0, false) : Nat × Bool) else if neg = true then ((most bits + 1 - n) % (most bits + 1), true) else (n, true)) = R) := Lib.hid (by have := HR.out; unfold intE at this; rw [if_pos ⟨hri, rfl⟩] at this; exact this)
          clear hri
          rcases hri4 with rfl | rfl | rfl | rfl
          · rw [most_8] at HE HNM
            cases neg
            · by_cases h1 : 255 < n
              · have h1' : (255 : Int) < (n : Int) := by omega
                have HE2 : Hid ((0, false) = R) := Lib.hid (by have := HE.out; rw [if_pos (.inr h1)] at this; exact this)
                clear h1
                simp only [numR]
                go_wp2
                go_ret2
                exact IntQ.of HE2.out HB2.out
              · have h1' : (n : Int) ≤ (255 : Int) := by omega
                have HE2 : Hid ((n, true) = R) := Lib.hid (by have := HE.out; rw [if_neg (by simp; omega), if_neg (by simp)] at this; exact this)
                clear h1
                simp only [numR]
                go_wp2
                go_ret2
                exact IntQ.of HE2.out HB2.out
            · by_cases h1 : 128 < n
              · have h1' : (128 : Int) < (n : Int) := by omega
                have HE2 : Hid ((0, false) = R) := Lib.hid (by have := HE.out; rw [if_pos (.inl ⟨rfl, by omega⟩)] at this; exact this)
                clear h1
                simp only [numR]
                go_wp2
                go_ret2
                exact IntQ.of HE2.out HB2.out
              · have h1' : (n : Int) ≤ (128 : Int) := by omega
                have h2' : (n : Int) ≤ (255 : Int) := by omega
                have HE2 : Hid (((255 + 1 - n) % (255 + 1), true) = R) := Lib.hid (by have := HE.out; rw [if_neg (by simp; omega), if_pos rfl] at this; exact this)
                have HNV := Lib.hid (HNM.out n (by omega))
                clear h1
                simp only [numR]
                go_wp2
                go_ret2
                have := IntQ.of (w := w) HE2.out HB2.out
                rw [← HNV.out] at this
                exact this
          · rw [most_16] at HE HNM
            cases neg
            · by_cases h1 : 65535 < n
              · have h1' : (65535 : Int) < (n : Int) := by omega
                have HE2 : Hid ((0, false) = R) := Lib.hid (by have := HE.out; rw [if_pos (.inr h1)] at this; exact this)
                clear h1
                simp only [numR]
                go_wp2
                go_ret2
                exact IntQ.of HE2.out HB2.out
              · have h1' : (n : Int) ≤ (65535 : Int) := by omega
                have HE2 : Hid ((n, true) = R) := Lib.hid (by have := HE.out; rw [if_neg (by simp; omega), if_neg (by simp)] at this; exact this)
                clear h1
                simp only [numR]
                go_wp2
                go_ret2
                exact IntQ.of HE2.out HB2.out
            · by_cases h1 : 32768 < n
              · have h1' : (32768 : Int) < (n : Int) := by omega
                have HE2 : Hid ((0, false) = R) := Lib.hid (by have := HE.out; rw [if_pos (.inl ⟨rfl, by omega⟩)] at this; exact this)
                clear h1
                simp only [numR]
                go_wp2
                go_ret2
                exact IntQ.of HE2.out HB2.out
              · have h1' : (n : Int) ≤ (32768 : Int) := by omega
                have h2' : (n : Int) ≤ (65535 : Int) := by omega
                have HE2 : Hid (((65535 + 1 - n) % (65535 + 1), true) = R) := Lib.hid (by have := HE.out; rw [if_neg (by simp; omega), if_pos rfl] at this; exact this)
                have HNV := Lib.hid (HNM.out n (by omega))
                clear h1
                simp only [numR]
                go_wp2
                go_ret2
                have := IntQ.of (w := w) HE2.out HB2.out
                rw [← HNV.out] at this
                exact this
          · rw [most_32] at HE HNM
            cases neg
            · by_cases h1 : 4294967295 < n
              · have h1' : (4294967295 : Int) < (n : Int) := by omega
                have HE2 : Hid ((0, false) = R) := Lib.hid (by have := HE.out; rw [if_pos (.inr h1)] at this; exact this)
                clear h1
                simp only [numR]
                go_wp2
                go_ret2
                exact IntQ.of HE2.out HB2.out
              · have h1' : (n : Int) ≤ (4294967295 : Int) := by omega
                have HE2 : Hid ((n, true) = R) := Lib.hid (by have := HE.out; rw [if_neg (by simp; omega), if_neg (by simp)] at this; exact this)
                clear h1
                simp only [numR]
                go_wp2
                go_ret2
                exact IntQ.of HE2.out HB2.out
            · by_cases h1 : 2147483648 < n
              · have h1' : (2147483648 : Int) < (n : Int) := by omega
                have HE2 : Hid ((0, false) = R) := Lib.hid (by have := HE.out; rw [if_pos (.inl ⟨rfl, by omega⟩)] at this; exact this)
                clear h1
                simp only [numR]
                go_wp2
                go_ret2
                exact IntQ.of HE2.out HB2.out
              · have h1' : (n : Int) ≤ (2147483648 : Int) := by omega
                have h2' : (n : Int) ≤ (4294967295 : Int) := by omega
                have HE2 : Hid (((4294967295 + 1 - n) % (4294967295 + 1), true) = R) := Lib.hid (by have := HE.out; rw [if_neg (by simp; omega), if_pos rfl] at this; exact this)
                have HNV := Lib.hid (HNM.out n (by omega))
                clear h1
                simp only [numR]
                go_wp2
                go_ret2
                have := IntQ.of (w := w) HE2.out HB2.out
                rw [← HNV.out] at this
                exact this
          · rw [most_64] at HE HNM
            cases neg
            · by_cases h1 : 18446744073709551615 < n
              · have h1' : (18446744073709551615 : Int) < (n : Int) := by omega
                have HE2 : Hid ((0, false) = R) := Lib.hid (by have := HE.out; rw [if_pos (.inr h1)] at this; exact this)
                clear h1
                simp only [numR]
                go_wp2
                go_ret2
                exact IntQ.of HE2.out HB2.out
              · have h1' : (n : Int) ≤ (18446744073709551615 : Int) := by omega
                have HE2 : Hid ((n, true) = R) := Lib.hid (by have := HE.out; rw [if_neg (by simp; omega), if_neg (by simp)] at this; exact this)
                clear h1
                simp only [numR]
                go_wp2
                go_ret2
                exact IntQ.of HE2.out HB2.out
            · by_cases h1 : 9223372036854775808 < n
              · have h1' : (9223372036854775808 : Int) < (n : Int) := by omega
                have HE2 : Hid ((0, false) = R) := Lib.hid (by have := HE.out; rw [if_pos (.inl ⟨rfl, by omega⟩)] at this; exact this)
                clear h1
                simp only [numR]
                go_wp2
                go_ret2
                exact IntQ.of HE2.out HB2.out
              · have h1' : (n : Int) ≤ (9223372036854775808 : Int) := by omega
                have h2' : (n : Int) ≤ (18446744073709551615 : Int) := by omega
                have HE2 : Hid (((18446744073709551615 + 1 - n) % (18446744073709551615 + 1), true) = R) := Lib.hid (by have := HE.out; rw [if_neg (by simp; omega), if_pos rfl] at this; exact this)
                have HNV := Lib.hid (HNM.out n (by omega))
                clear h1
                simp only [numR]
                go_wp2
                go_ret2
                have := IntQ.of (w := w) HE2.out HB2.out
                rw [← HNV.out] at this
                exact this
    · have HE : Hid ((0, false) = R) := Lib.hid (by have := HR.out; unfold intE at this; rw [if_neg (fun h => hri h.1)] at this; exact this)
      have h8 : (bits != 8) = true := by simp only [bne_iff_ne, ne_eq]; rintro rfl; exact hri rfl
      have h16 : (bits != 16) = true := by simp only [bne_iff_ne, ne_eq]; rintro rfl; exact hri rfl
      have h32 : (bits != 32) = true := by simp only [bne_iff_ne, ne_eq]; rintro rfl; exact hri rfl
      have h64 : (bits != 64) = true := by simp only [bne_iff_ne, ne_eq]; rintro rfl; exact hri rfl
      clear hri
      go_wp2
      go_ret2
      exact IntQ.of HE.out HB2.out
end Go.Proofs.YtjecdciabpjgcaaDoor.Lx
