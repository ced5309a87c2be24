/-
  The walk of lex's escape, on. Condition: the library's variable internal/bytealg.MaxLen holds a number; the text is shorter than 3000000000 bytes.
-/
import Derived.Test.YtjecdciabpjgcaaDoorLxF
namespace Go.Proofs.YtjecdciabpjgcaaDoor.Lx
set_option linter.unusedVariables false
set_option linter.unusedSimpArgs false
open Go.RowKit Go.Proofs.YtjecdciabpjgcaaDoorW.PrintWords

set_option maxRecDepth 1000000 in
set_option maxHeartbeats 1000000 in
theorem uni_open (s : ByteArray) (u ds : List UInt8) (w : World) (R : Option (List UInt8 × Nat)) (N : Nat × Bool)
    (hne : s.toList.isEmpty = false) (h0' : 0 < (s.size : Int)) (HM : Hid (ML w)) (hdn : ds.length ≤ 3000000000) (HSZ : Hid ((⟨ds.toArray⟩ : ByteArray).size = ds.length))
    (HI : Hid (∀ w, Calls Tryd.prog 26 #[.string ⟨#[116, 110, 114, 34, 39, 92]⟩, .int .u8 ((s[0]'(by omega)).toNat : Int)] w fun e w' => e = .returned (.int .i64 (-1)) ∧ w = w'))
    (HP : Hid (∀ w, Calls Tryd.prog 40 #[.string s, .string ⟨#[117, 123]⟩] w fun e w' => e = .returned (.tuple #[.string ⟨u.toArray⟩, .bool true]) ∧ w = w'))
    (HCU : Hid (∀ w, ML w → Calls Tryd.prog 41 #[.string ⟨u.toArray⟩, .string ⟨#[125]⟩] w fun e w' => (∃ x, e = .returned (.tuple #[.string ⟨ds.toArray⟩, x, .bool false])) ∧ Below w.heap.size w w'))
    (HIN : Hid (∀ w, ML w → Calls Tryd.prog 42 #[.int .i64 64, .string (⟨#[48, 120]⟩ ++ ⟨ds.toArray⟩)] w (IntQ w N)))
    (HE : Hid (R = none)) :
    Calls Tryd.prog 35 #[.string s] w (EscQ w R) := by
  go_enter Tryd.func35, Tryd.ntmps35
  go_wp2_with (first | (go_at_call 26; refine (HI.out _).mono ?_; rintro e w' ⟨rfl, rfl⟩) | (go_at_call 40; refine (HP.out _).mono ?_; rintro e w' ⟨rfl, rfl⟩) | (go_at_call 41; refine (HCU.out _ HM.out).mono ?_; rintro e w1 ⟨⟨x, rfl⟩, hb⟩; have HM1 := Lib.hid (HM.out.below hb); have HB1 := Lib.hid hb; clear hb) | (go_at_call 42; refine (HIN.out _ HM1.out).mono ?_; intro e w2 hq; obtain ⟨he, hb⟩ := hq.out; subst he; have HB2 := Lib.hid (HB1.out.trans (hb.mono HB1.out.size)); clear hb hq))
  go_ret2
  exact EscQ.none HE.out HB2.out
set_option maxRecDepth 1000000 in
set_option maxHeartbeats 1000000 in
theorem uni_bad (s : ByteArray) (u ds : List UInt8) (w : World) (R : Option (List UInt8 × Nat)) (n : Nat)
    (hne : s.toList.isEmpty = false) (h0' : 0 < (s.size : Int)) (HM : Hid (ML w)) (hdn : ds.length ≤ 3000000000) (HSZ : Hid ((⟨ds.toArray⟩ : ByteArray).size = ds.length))
    (HI : Hid (∀ w, Calls Tryd.prog 26 #[.string ⟨#[116, 110, 114, 34, 39, 92]⟩, .int .u8 ((s[0]'(by omega)).toNat : Int)] w fun e w' => e = .returned (.int .i64 (-1)) ∧ w = w'))
    (HP : Hid (∀ w, Calls Tryd.prog 40 #[.string s, .string ⟨#[117, 123]⟩] w fun e w' => e = .returned (.tuple #[.string ⟨u.toArray⟩, .bool true]) ∧ w = w'))
    (HCU : Hid (∀ w, ML w → Calls Tryd.prog 41 #[.string ⟨u.toArray⟩, .string ⟨#[125]⟩] w fun e w' => (∃ x, e = .returned (.tuple #[.string ⟨ds.toArray⟩, x, .bool true])) ∧ Below w.heap.size w w'))
    (HIN : Hid (∀ w, ML w → Calls Tryd.prog 42 #[.int .i64 64, .string (⟨#[48, 120]⟩ ++ ⟨ds.toArray⟩)] w (IntQ w (n, false))))
    (HE : Hid (R = none)) :
    Calls Tryd.prog 35 #[.string s] w (EscQ w R) := by
  go_enter Tryd.func35, Tryd.ntmps35
  go_wp2_with (first | (go_at_call 26; refine (HI.out _).mono ?_; rintro e w' ⟨rfl, rfl⟩) | (go_at_call 40; refine (HP.out _).mono ?_; rintro e w' ⟨rfl, rfl⟩) | (go_at_call 41; refine (HCU.out _ HM.out).mono ?_; rintro e w1 ⟨⟨x, rfl⟩, hb⟩; have HM1 := Lib.hid (HM.out.below hb); have HB1 := Lib.hid hb; clear hb) | (go_at_call 42; refine (HIN.out _ HM1.out).mono ?_; intro e w2 hq; obtain ⟨he, hb⟩ := hq.out; subst he; have HB2 := Lib.hid (HB1.out.trans (hb.mono HB1.out.size)); clear hb hq))
  go_ret2
  exact EscQ.none HE.out HB2.out
set_option maxRecDepth 1000000 in
set_option maxHeartbeats 1000000 in
theorem uni_big (s : ByteArray) (u ds : List UInt8) (w : World) (R : Option (List UInt8 × Nat)) (n : Nat) (hb' : (1114111 : Int) < (n : Int))
    (hne : s.toList.isEmpty = false) (h0' : 0 < (s.size : Int)) (HM : Hid (ML w)) (hdn : ds.length ≤ 3000000000) (HSZ : Hid ((⟨ds.toArray⟩ : ByteArray).size = ds.length))
    (HI : Hid (∀ w, Calls Tryd.prog 26 #[.string ⟨#[116, 110, 114, 34, 39, 92]⟩, .int .u8 ((s[0]'(by omega)).toNat : Int)] w fun e w' => e = .returned (.int .i64 (-1)) ∧ w = w'))
    (HP : Hid (∀ w, Calls Tryd.prog 40 #[.string s, .string ⟨#[117, 123]⟩] w fun e w' => e = .returned (.tuple #[.string ⟨u.toArray⟩, .bool true]) ∧ w = w'))
    (HCU : Hid (∀ w, ML w → Calls Tryd.prog 41 #[.string ⟨u.toArray⟩, .string ⟨#[125]⟩] w fun e w' => (∃ x, e = .returned (.tuple #[.string ⟨ds.toArray⟩, x, .bool true])) ∧ Below w.heap.size w w'))
    (HIN : Hid (∀ w, ML w → Calls Tryd.prog 42 #[.int .i64 64, .string (⟨#[48, 120]⟩ ++ ⟨ds.toArray⟩)] w (IntQ w (n, true))))
    (HE : Hid (R = none)) :
    Calls Tryd.prog 35 #[.string s] w (EscQ w R) := by
  go_enter Tryd.func35, Tryd.ntmps35
  go_wp2_with (first | (go_at_call 26; refine (HI.out _).mono ?_; rintro e w' ⟨rfl, rfl⟩) | (go_at_call 40; refine (HP.out _).mono ?_; rintro e w' ⟨rfl, rfl⟩) | (go_at_call 41; refine (HCU.out _ HM.out).mono ?_; rintro e w1 ⟨⟨x, rfl⟩, hb⟩; have HM1 := Lib.hid (HM.out.below hb); have HB1 := Lib.hid hb; clear hb) | (go_at_call 42; refine (HIN.out _ HM1.out).mono ?_; intro e w2 hq; obtain ⟨he, hb⟩ := hq.out; subst he; have HB2 := Lib.hid (HB1.out.trans (hb.mono HB1.out.size)); clear hb hq))
  go_ret2
  exact EscQ.none HE.out HB2.out
set_option maxRecDepth 1000000 in
set_option maxHeartbeats 1000000 in
theorem uni_sur (s : ByteArray) (u ds : List UInt8) (w : World) (R : Option (List UInt8 × Nat)) (n : Nat) (hb' : (n : Int) ≤ (1114111 : Int)) (hs1 : (55296 : Int) ≤ (n : Int)) (hs2 : (n : Int) < (57344 : Int))
    (hne : s.toList.isEmpty = false) (h0' : 0 < (s.size : Int)) (HM : Hid (ML w)) (hdn : ds.length ≤ 3000000000) (HSZ : Hid ((⟨ds.toArray⟩ : ByteArray).size = ds.length))
    (HI : Hid (∀ w, Calls Tryd.prog 26 #[.string ⟨#[116, 110, 114, 34, 39, 92]⟩, .int .u8 ((s[0]'(by omega)).toNat : Int)] w fun e w' => e = .returned (.int .i64 (-1)) ∧ w = w'))
    (HP : Hid (∀ w, Calls Tryd.prog 40 #[.string s, .string ⟨#[117, 123]⟩] w fun e w' => e = .returned (.tuple #[.string ⟨u.toArray⟩, .bool true]) ∧ w = w'))
    (HCU : Hid (∀ w, ML w → Calls Tryd.prog 41 #[.string ⟨u.toArray⟩, .string ⟨#[125]⟩] w fun e w' => (∃ x, e = .returned (.tuple #[.string ⟨ds.toArray⟩, x, .bool true])) ∧ Below w.heap.size w w'))
    (HIN : Hid (∀ w, ML w → Calls Tryd.prog 42 #[.int .i64 64, .string (⟨#[48, 120]⟩ ++ ⟨ds.toArray⟩)] w (IntQ w (n, true))))
    (HE : Hid (R = none)) :
    Calls Tryd.prog 35 #[.string s] w (EscQ w R) := by
  go_enter Tryd.func35, Tryd.ntmps35
  go_wp2_with (first | (go_at_call 26; refine (HI.out _).mono ?_; rintro e w' ⟨rfl, rfl⟩) | (go_at_call 40; refine (HP.out _).mono ?_; rintro e w' ⟨rfl, rfl⟩) | (go_at_call 41; refine (HCU.out _ HM.out).mono ?_; rintro e w1 ⟨⟨x, rfl⟩, hb⟩; have HM1 := Lib.hid (HM.out.below hb); have HB1 := Lib.hid hb; clear hb) | (go_at_call 42; refine (HIN.out _ HM1.out).mono ?_; intro e w2 hq; obtain ⟨he, hb⟩ := hq.out; subst he; have HB2 := Lib.hid (HB1.out.trans (hb.mono HB1.out.size)); clear hb hq))
  go_ret2
  exact EscQ.none HE.out HB2.out
set_option maxRecDepth 1000000 in
set_option maxHeartbeats 1000000 in
theorem uni_lo (s : ByteArray) (u ds : List UInt8) (w : World) (R : Option (List UInt8 × Nat)) (n : Nat) (hn0 : 0 ≤ (n : Int)) (hb' : (n : Int) ≤ (1114111 : Int)) (hs1' : (n : Int) < (55296 : Int)) (HEN : Hid (Utf8.encode (n : Int) = ⟨(utf8 n).toArray⟩))
    (hne : s.toList.isEmpty = false) (h0' : 0 < (s.size : Int)) (HM : Hid (ML w)) (hdn : ds.length ≤ 3000000000) (HSZ : Hid ((⟨ds.toArray⟩ : ByteArray).size = ds.length))
    (HI : Hid (∀ w, Calls Tryd.prog 26 #[.string ⟨#[116, 110, 114, 34, 39, 92]⟩, .int .u8 ((s[0]'(by omega)).toNat : Int)] w fun e w' => e = .returned (.int .i64 (-1)) ∧ w = w'))
    (HP : Hid (∀ w, Calls Tryd.prog 40 #[.string s, .string ⟨#[117, 123]⟩] w fun e w' => e = .returned (.tuple #[.string ⟨u.toArray⟩, .bool true]) ∧ w = w'))
    (HCU : Hid (∀ w, ML w → Calls Tryd.prog 41 #[.string ⟨u.toArray⟩, .string ⟨#[125]⟩] w fun e w' => (∃ x, e = .returned (.tuple #[.string ⟨ds.toArray⟩, x, .bool true])) ∧ Below w.heap.size w w'))
    (HIN : Hid (∀ w, ML w → Calls Tryd.prog 42 #[.int .i64 64, .string (⟨#[48, 120]⟩ ++ ⟨ds.toArray⟩)] w (IntQ w (n, true))))
    (HE : Hid (R = some (utf8 n, ds.length + 3))) :
    Calls Tryd.prog 35 #[.string s] w (EscQ w R) := by
  have hq1 : decide ((55296 : Int) ≤ (n : Int)) = false := decide_eq_false (by omega)
  clear hs1'
  go_enter Tryd.func35, Tryd.ntmps35
  go_wp2_with (first | (go_at_call 26; refine (HI.out _).mono ?_; rintro e w' ⟨rfl, rfl⟩) | (go_at_call 40; refine (HP.out _).mono ?_; rintro e w' ⟨rfl, rfl⟩) | (go_at_call 41; refine (HCU.out _ HM.out).mono ?_; rintro e w1 ⟨⟨x, rfl⟩, hb⟩; have HM1 := Lib.hid (HM.out.below hb); have HB1 := Lib.hid hb; clear hb) | (go_at_call 42; refine (HIN.out _ HM1.out).mono ?_; intro e w2 hq; obtain ⟨he, hb⟩ := hq.out; subst he; have HB2 := Lib.hid (HB1.out.trans (hb.mono HB1.out.size)); clear hb hq))
  go_ret2
  have := EscQ.some (w := w) HE.out (show (ds.length : Int) + 3 = ((ds.length + 3 : Nat) : Int) by push_cast; rfl) HB2.out
  rw [← HEN.out] at this
  exact this
set_option maxRecDepth 1000000 in
set_option maxHeartbeats 1000000 in
theorem uni_hi (s : ByteArray) (u ds : List UInt8) (w : World) (R : Option (List UInt8 × Nat)) (n : Nat) (hn0 : 0 ≤ (n : Int)) (hb' : (n : Int) ≤ (1114111 : Int)) (hs1' : (57344 : Int) ≤ (n : Int)) (HEN : Hid (Utf8.encode (n : Int) = ⟨(utf8 n).toArray⟩))
    (hne : s.toList.isEmpty = false) (h0' : 0 < (s.size : Int)) (HM : Hid (ML w)) (hdn : ds.length ≤ 3000000000) (HSZ : Hid ((⟨ds.toArray⟩ : ByteArray).size = ds.length))
    (HI : Hid (∀ w, Calls Tryd.prog 26 #[.string ⟨#[116, 110, 114, 34, 39, 92]⟩, .int .u8 ((s[0]'(by omega)).toNat : Int)] w fun e w' => e = .returned (.int .i64 (-1)) ∧ w = w'))
    (HP : Hid (∀ w, Calls Tryd.prog 40 #[.string s, .string ⟨#[117, 123]⟩] w fun e w' => e = .returned (.tuple #[.string ⟨u.toArray⟩, .bool true]) ∧ w = w'))
    (HCU : Hid (∀ w, ML w → Calls Tryd.prog 41 #[.string ⟨u.toArray⟩, .string ⟨#[125]⟩] w fun e w' => (∃ x, e = .returned (.tuple #[.string ⟨ds.toArray⟩, x, .bool true])) ∧ Below w.heap.size w w'))
    (HIN : Hid (∀ w, ML w → Calls Tryd.prog 42 #[.int .i64 64, .string (⟨#[48, 120]⟩ ++ ⟨ds.toArray⟩)] w (IntQ w (n, true))))
    (HE : Hid (R = some (utf8 n, ds.length + 3))) :
    Calls Tryd.prog 35 #[.string s] w (EscQ w R) := by
  go_enter Tryd.func35, Tryd.ntmps35
  go_wp2_with (first | (go_at_call 26; refine (HI.out _).mono ?_; rintro e w' ⟨rfl, rfl⟩) | (go_at_call 40; refine (HP.out _).mono ?_; rintro e w' ⟨rfl, rfl⟩) | (go_at_call 41; refine (HCU.out _ HM.out).mono ?_; rintro e w1 ⟨⟨x, rfl⟩, hb⟩; have HM1 := Lib.hid (HM.out.below hb); have HB1 := Lib.hid hb; clear hb) | (go_at_call 42; refine (HIN.out _ HM1.out).mono ?_; intro e w2 hq; obtain ⟨he, hb⟩ := hq.out; subst he; have HB2 := Lib.hid (HB1.out.trans (hb.mono HB1.out.size)); clear hb hq))
  go_ret2
  have := EscQ.some (w := w) HE.out (show (ds.length : Int) + 3 = ((ds.length + 3 : Nat) : Int) by push_cast; rfl) HB2.out
  rw [← HEN.out] at this
  exact this
theorem esc_uni (s : ByteArray) (c : UInt8) (t : List UInt8) (hl : longE c) (hu : Lib.hasPrefix (c :: t) [117, 123] = true) (hL : s.data.toList = c :: t) (hs : s.size ≤ 3000000000) (w : World) (hm : ML w) (R : Option (List UInt8 × Nat)) (hR : esc s.data.toList = R) :
    Calls Tryd.prog 35 #[.string s] w (EscQ w R) := by
  obtain ⟨h0, hs0⟩ := at0 s c t hL
  have hne : s.toList.isEmpty = false := by rw [Go.ByteArray.toList_eq, hL]; rfl
  have h0' : 0 < (s.size : Int) := by omega
  have HI := Lib.hid (fun w => ixb_c [116, 110, 114, 34, 39, 92] s[0].toNat (-1) (by rw [hs0]; simpa using long_ix c hl) w)
  rw [hL, esc_uni_eq c t hl hu] at hR
  simp only at hR
  have hul : ((c :: t).drop 2).length + 2 = s.size := by have := pre_len _ _ hu; rw [List.length_drop, ← hL, len_data]; rw [← hL, len_data] at this; simp at this; omega
  have HP := Lib.hid (fun w => cutp_c s [117, 123] true ((c :: t).drop 2) (by rw [hL]; exact hu) (by rw [hL]; unfold Lib.trimPrefix; rw [if_pos hu]; rfl) w)
  obtain ⟨u, hud⟩ : ∃ u, u = (c :: t).drop 2 := ⟨_, rfl⟩
  rw [← hud] at hR hul HP
  obtain ⟨ds, hds⟩ : ∃ ds, u.takeWhile (· != 125) = ds := ⟨_, rfl⟩
  have hdl : ds.length ≤ u.length := by rw [← hds]; exact (List.takeWhile_prefix _).length_le
  rw [hds] at hR
  obtain ⟨b, hb⟩ : ∃ b, decide (ds.length < u.length) = b := ⟨_, rfl⟩
  have HCU := Lib.hid (fun w hm => cut_c ⟨u.toArray⟩ 125 ds b (by simpa using hds) (by simpa using hb) (by rw [size_arr]; omega) w hm)
  have HIN := Lib.hid (fun w hm => int_c (⟨#[48, 120]⟩ ++ ⟨ds.toArray⟩) 64 (by rw [app_size [48, 120] ds]; simp; omega) w hm _ rfl)
  have hint : intF 64 ((⟨#[48, 120]⟩ ++ ⟨ds.toArray⟩ : ByteArray).data.toList) = if (rowF ds true).2 = true then (match numK 16 (rowF ds true).1 0 with | some n => (n, true) | none => (0, false)) else (0, false) := by
    rw [app_data [48, 120] ds]; exact int_hex64 ds
  have HS1 : Hid ((ds.length : Int) + 3 = ((ds.length + 3 : Nat) : Int)) := Lib.hid (by push_cast; rfl)
  have HSZ : Hid ((⟨ds.toArray⟩ : ByteArray).size = ds.length) := Lib.hid (size_arr ds)
  have hdn : ds.length ≤ 3000000000 := by omega
  have HM := Lib.hid hm
  generalize hN : intF 64 ((⟨#[48, 120]⟩ ++ ⟨ds.toArray⟩ : ByteArray).data.toList) = N at *
  cases b
  · exact uni_open s u ds w R N hne h0' HM hdn HSZ HI HP HCU HIN (Lib.hid (by rw [if_neg (fun h => absurd h.1 (of_decide_eq_false hb))] at hR; exact hR.symm))
  · by_cases hrf : (rowF ds true).2 = true
    · rw [if_pos ⟨of_decide_eq_true hb, hrf⟩] at hR
      rw [if_pos hrf] at hint
      cases hk : numK 16 (rowF ds true).1 0 with
      | none =>
        rw [hk] at hR hint
        simp only at hR hint
        subst hint
        exact uni_bad s u ds w R 0 hne h0' HM hdn HSZ HI HP HCU HIN (Lib.hid hR.symm)
      | some n =>
        rw [hk] at hR hint
        simp only at hR hint
        subst hint
        by_cases hbig : 1114111 < n
        · exact uni_big s u ds w R n (by omega) hne h0' HM hdn HSZ HI HP HCU HIN (Lib.hid (by rw [if_neg (by omega)] at hR; exact hR.symm))
        · by_cases hsur : 55296 ≤ n ∧ n < 57344
          · exact uni_sur s u ds w R n (by omega) (by omega) (by omega) hne h0' HM hdn HSZ HI HP HCU HIN (Lib.hid (by rw [if_neg (by omega)] at hR; exact hR.symm))
          · have HEN := Lib.hid (enc_utf8 n (by omega) hsur)
            rw [if_pos ⟨by omega, hsur⟩] at hR
            by_cases hs1 : n < 55296
            · exact uni_lo s u ds w R n (by omega) (by omega) (by omega) HEN hne h0' HM hdn HSZ HI HP HCU HIN (Lib.hid hR.symm)
            · exact uni_hi s u ds w R n (by omega) (by omega) (by omega) HEN hne h0' HM hdn HSZ HI HP HCU HIN (Lib.hid hR.symm)
    · rw [if_neg (fun h => hrf h.2)] at hR
      rw [if_neg hrf] at hint
      subst hint
      exact uni_bad s u ds w R 0 hne h0' HM hdn HSZ HI HP HCU HIN (Lib.hid hR.symm)
end Go.Proofs.YtjecdciabpjgcaaDoor.Lx
