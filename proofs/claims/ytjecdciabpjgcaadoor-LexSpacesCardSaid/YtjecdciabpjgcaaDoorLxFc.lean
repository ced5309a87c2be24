/-
  The walk of lex's escape, at last: two hex digits; all together. Condition: the library's variable internal/bytealg.MaxLen holds a number; the text is shorter than 3000000000 bytes.
-/
import Derived.Test.YtjecdciabpjgcaaDoorLxFb
namespace Go.Proofs.YtjecdciabpjgcaaDoor.Lx
set_option linter.unusedVariables false
set_option linter.unusedSimpArgs false
open Go.RowKit Go.Proofs.YtjecdciabpjgcaaDoorW.PrintWords

theorem head2 (s : ByteArray) (c d : UInt8) (t : List UInt8) (hL : s.data.toList = c :: d :: t) : ∃ h : 2 ≤ s.size, s[1] = d := by
  have h : 2 ≤ s.size := by rw [← len_data, hL]; simp
  refine ⟨h, ?_⟩
  have := drop_at s 1 (by omega)
  rw [hL] at this
  exact (List.cons.inj this).1.symm
set_option maxRecDepth 1000000 in
set_option maxHeartbeats 1000000 in
theorem esc_one (s : ByteArray) (c : UInt8) (hl : longE c) (hL : s.data.toList = [c]) (w : World) :
    Calls Tryd.prog 35 #[.string s] w (EscQ w none) := by
  obtain ⟨h0, hs0⟩ := at0 s c [] hL
  have hne : s.toList.isEmpty = false := by rw [Go.ByteArray.toList_eq, hL]; rfl
  have h0' : 0 < (s.size : Int) := by omega
  have hs1 : (s.size : Int) < 2 := by rw [← len_data, hL]; simp
  have HI := Lib.hid (fun w => ixb_c [116, 110, 114, 34, 39, 92] s[0].toNat (-1) (by rw [hs0]; simpa using long_ix c hl) w)
  have HP := Lib.hid (fun w => cutp_c s [117, 123] false _ (by rw [hL]; simp [Lib.hasPrefix, List.isPrefixOf]) rfl w)
  generalize Lib.trimPrefix s.data.toList [117, 123] = u at *
  clear hL hs0
  go_enter Tryd.func35, Tryd.ntmps35
  go_wp2_with (first | (go_at_call 26; refine (HI.out _).mono ?_; rintro e w' ⟨rfl, rfl⟩) | (go_at_call 40; refine (HP.out _).mono ?_; rintro e w' ⟨rfl, rfl⟩))
  go_ret2
  exact EscQ.none rfl (Below.refl _ _)
set_option maxRecDepth 1000000 in
set_option maxHeartbeats 1000000 in
theorem esc_95 (s : ByteArray) (c : UInt8) (t : List UInt8) (hl : longE c) (hu : Lib.hasPrefix (c :: 95 :: t) [117, 123] = false) (hL : s.data.toList = c :: 95 :: t) (w : World) (hs : s.size ≤ 3000000000) :
    Calls Tryd.prog 35 #[.string s] w (EscQ w none) := by
  obtain ⟨h0, hs0⟩ := at0 s c (95 :: t) hL
  obtain ⟨h2, hs2⟩ := head2 s c 95 t hL
  have hne : s.toList.isEmpty = false := by rw [Go.ByteArray.toList_eq, hL]; rfl
  have h0' : 0 < (s.size : Int) := by omega
  have h2' : 2 ≤ (s.size : Int) := by omega
  have HI := Lib.hid (fun w => ixb_c [116, 110, 114, 34, 39, 92] s[0].toNat (-1) (by rw [hs0]; simpa using long_ix c hl) w)
  have HP := Lib.hid (fun w => cutp_c s [117, 123] false _ (by rw [hL]; exact hu) rfl w)
  generalize Lib.trimPrefix s.data.toList [117, 123] = u at *
  have h95 : ((s[1].toNat : Int) == 95) = true := by rw [hs2]; decide
  clear hL hs0 hs2 hu
  go_enter Tryd.func35, Tryd.ntmps35
  go_wp2_with (first | (go_at_call 26; refine (HI.out _).mono ?_; rintro e w' ⟨rfl, rfl⟩) | (go_at_call 40; refine (HP.out _).mono ?_; rintro e w' ⟨rfl, rfl⟩))
  go_ret2
  exact EscQ.none rfl (Below.refl _ _)
theorem lit_str (W : World) (n : Nat) (h : n < 256) : (convert 63 9 (.slice (some ⟨W.heap.size, 0, none⟩) 1 1)).run Tryd.prog (W.alloc (Obj.cells #[.int .u8 (n : Int)] 5)) = .ok (.string ⟨#[n.toUInt8]⟩) (W.alloc (Obj.cells #[.int .u8 (n : Int)] 5)) := by
  have ho := own_lit W W.heap.size 5 .u8 [(n : Int)] (Nat.le_refl _) (by simp)
  have := own_string (P := Tryd.prog) (src := 63) (dst := 9) Tryd.underlying63 Tryd.underlying5 Tryd.underlying9 ho
  have e : strOfNums [(n : Int)] = ⟨#[n.toUInt8]⟩ := rfl
  rw [e] at this
  exact this
theorem take2 (s : ByteArray) : (s.extract 0 2).data.toList = s.data.toList.take 2 := by rw [Lib.extract_data]; rfl
theorem app_d (a b : ByteArray) : (a ++ b).data.toList = a.data.toList ++ b.data.toList := by simp
set_option maxRecDepth 1000000 in
set_option maxHeartbeats 1000000 in
theorem esc_hx (s : ByteArray) (c d : UInt8) (t : List UInt8) (hl : longE c) (hd : d ≠ 95) (hu : Lib.hasPrefix (c :: d :: t) [117, 123] = false) (hL : s.data.toList = c :: d :: t) (w : World) (hs : s.size ≤ 3000000000) (hm : ML w) (R : Option (List UInt8 × Nat)) (hR : esc s.data.toList = R) :
    Calls Tryd.prog 35 #[.string s] w (EscQ w R) := by
  obtain ⟨h0, hs0⟩ := at0 s c (d :: t) hL
  obtain ⟨h2, hs2⟩ := head2 s c d t hL
  have hne : s.toList.isEmpty = false := by rw [Go.ByteArray.toList_eq, hL]; rfl
  have h0' : 0 < (s.size : Int) := by omega
  have h2' : 2 ≤ (s.size : Int) := by omega
  have HI := Lib.hid (fun w => ixb_c [116, 110, 114, 34, 39, 92] s[0].toNat (-1) (by rw [hs0]; simpa using long_ix c hl) w)
  have HP := Lib.hid (fun w => cutp_c s [117, 123] false _ (by rw [hL]; exact hu) rfl w)
  have hint : intF 8 ((⟨#[48, 120]⟩ ++ s.extract 0 2 : ByteArray).data.toList) = if ishex c = true ∧ ishex d = true then (16 * dval c + dval d, true) else (0, false) := by
    rw [app_d, take2, hL]; exact two_hex c d hd
  have HIN := Lib.hid (fun w hm => int_c (⟨#[48, 120]⟩ ++ s.extract 0 2) 8 (by rw [← len_data, app_d, take2, hL]; simp) w hm _ hint)
  generalize Lib.trimPrefix s.data.toList [117, 123] = u at *
  have h95 : ((s[1].toNat : Int) == 95) = false := by
    rw [hs2]
    simp only [beq_eq_false_iff_ne, ne_eq]
    intro h
    apply hd
    have : d.toNat = (95 : UInt8).toNat := by
      have : (95 : UInt8).toNat = 95 := rfl
      omega
    exact UInt8.toNat_inj.1 this
  rw [hL, esc_hex_eq c d t hl hu] at hR
  have HM := Lib.hid hm
  have hsz : ((s.extract 0 2).size : Nat) = 2 := by rw [← len_data, take2, hL]; simp
  have HSZ := Lib.hid hsz
  clear hL hs0 hs2 hu hint hm hsz
  by_cases hh : ishex c = true ∧ ishex d = true
  · rw [if_pos hh] at hR HIN
    have hc := dval_lt c hh.1
    have hdd := dval_lt d hh.2
    generalize hn : 16 * dval c + dval d = n at *
    have hn2 : (n : Int) ≤ 255 := by omega
    have hn1 : 0 ≤ (n : Int) := by omega
    have hcv : ∀ W : World, (convert 63 9 (.slice (some ⟨W.heap.size, 0, none⟩) 1 1)).run Tryd.prog (W.alloc (Obj.cells #[.int .u8 (n : Int)] 5)) = _ := fun W => lit_str W n (by omega)
    have HE := Lib.hid hR.symm
    clear hR hc hdd hn hh
    go_enter Tryd.func35, Tryd.ntmps35
    go_wp2_with (first | (go_at_call 26; refine (HI.out _).mono ?_; rintro e w' ⟨rfl, rfl⟩) | (go_at_call 40; refine (HP.out _).mono ?_; rintro e w' ⟨rfl, rfl⟩) | (go_at_call 42; refine (HIN.out _ HM.out).mono ?_; intro e w2 hq; obtain ⟨he, hb⟩ := hq.out; subst he; have HB2 := Lib.hid hb; clear hb hq))
    go_ret2
    exact EscQ.some HE.out rfl (HB2.out.trans ((Below.refl _ _).alloc HB2.out.size _))
  · rw [if_neg hh] at hR HIN
    have HE := Lib.hid hR.symm
    clear hR hh
    go_enter Tryd.func35, Tryd.ntmps35
    go_wp2_with (first | (go_at_call 26; refine (HI.out _).mono ?_; rintro e w' ⟨rfl, rfl⟩) | (go_at_call 40; refine (HP.out _).mono ?_; rintro e w' ⟨rfl, rfl⟩) | (go_at_call 42; refine (HIN.out _ HM.out).mono ?_; intro e w2 hq; obtain ⟨he, hb⟩ := hq.out; subst he; have HB2 := Lib.hid hb; clear hb hq))
    go_ret2
    exact EscQ.none HE.out HB2.out
theorem escape_c (s : ByteArray) (hs : s.size ≤ 3000000000) (w : World) (hm : ML w) : Calls Tryd.prog 35 #[.string s] w (EscQ w (esc s.data.toList)) := by
  cases hL : s.data.toList with
  | nil => exact esc_nil s hL w
  | cons c t =>
    rw [← hL]
    by_cases k1 : c = 116
    · exact esc_short s c 9 t 0 (by decide) (by rw [k1]; rfl) rfl hL (fun W => by kernel_rfl) (by rw [k1]; rfl) w
    by_cases k2 : c = 110
    · exact esc_short s c 10 t 1 (by decide) (by rw [k2]; rfl) rfl hL (fun W => by kernel_rfl) (by rw [k2]; rfl) w
    by_cases k3 : c = 114
    · exact esc_short s c 13 t 2 (by decide) (by rw [k3]; rfl) rfl hL (fun W => by kernel_rfl) (by rw [k3]; rfl) w
    by_cases k4 : c = 34
    · exact esc_short s c 34 t 3 (by decide) (by rw [k4]; rfl) rfl hL (fun W => by kernel_rfl) (by rw [k4]; rfl) w
    by_cases k5 : c = 39
    · exact esc_short s c 39 t 4 (by decide) (by rw [k5]; rfl) rfl hL (fun W => by kernel_rfl) (by rw [k5]; rfl) w
    by_cases k6 : c = 92
    · exact esc_short s c 92 t 5 (by decide) (by rw [k6]; rfl) rfl hL (fun W => by kernel_rfl) (by rw [k6]; rfl) w
    have hl : longE c := ⟨k1, k2, k3, k4, k5, k6⟩
    by_cases hu : Lib.hasPrefix (c :: t) [117, 123] = true
    · exact esc_uni s c t hl hu hL hs w hm _ rfl
    · have hu' : Lib.hasPrefix (c :: t) [117, 123] = false := by simpa using hu
      cases t with
      | nil => rw [hL, esc_one_eq c hl]; exact esc_one s c hl hL w
      | cons d t =>
        by_cases hd : d = 95
        · subst hd
          rw [hL, esc_hex_eq c 95 t hl hu', if_neg (fun h => absurd h.2 (by decide))]
          exact esc_95 s c t hl hu' hL w hs
        · exact esc_hx s c d t hl hd hu' hL w hs hm _ rfl
theorem esc_pos (l b : List UInt8) (n : Nat) (h : esc l = some (b, n)) : 1 ≤ n ∧ n ≤ l.length := by
  cases l with
  | nil => cases h
  | cons c t =>
    by_cases hl : longE c
    · by_cases hu : Lib.hasPrefix (c :: t) [117, 123] = true
      · rw [esc_uni_eq c t hl hu] at h
        simp only at h
        split at h
        · rename_i h1
          split at h
          · cases h
          · split at h
            · injection h with h; injection h with _ h
              have := pre_len _ _ hu
              have h2 := h1.1
              rw [List.length_drop] at h2
              simp only [List.length_cons] at this h2 ⊢
              omega
            · cases h
        · cases h
      · have hu' : Lib.hasPrefix (c :: t) [117, 123] = false := by simpa using hu
        cases t with
        | nil => rw [esc_one_eq c hl] at h; cases h
        | cons d t =>
          rw [esc_hex_eq c d t hl hu'] at h
          split at h
          · injection h with h; injection h with _ h; subst h; simp
          · cases h
    · have hh : c = 116 ∨ c = 110 ∨ c = 114 ∨ c = 34 ∨ c = 39 ∨ c = 92 := by
        refine Classical.byContradiction fun hn => hl ⟨fun e => hn (by simp [e]), fun e => hn (by simp [e]), fun e => hn (by simp [e]), fun e => hn (by simp [e]), fun e => hn (by simp [e]), fun e => hn (by simp [e])⟩
      have he : ∃ x, esc (c :: t) = some ([x], 1) := by
        rcases hh with rfl | rfl | rfl | rfl | rfl | rfl <;> exact ⟨_, rfl⟩
      obtain ⟨x, he⟩ := he
      rw [he] at h
      injection h with h; injection h with _ h; subst h; simp
end Go.Proofs.YtjecdciabpjgcaaDoor.Lx
