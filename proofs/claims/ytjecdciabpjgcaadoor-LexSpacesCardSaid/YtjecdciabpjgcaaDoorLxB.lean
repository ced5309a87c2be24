/-
  The walk of literal's row. Condition: the library's variable internal/bytealg.MaxLen holds a number; the text is shorter than 4000000000 bytes.
-/
import Derived.Test.YtjecdciabpjgcaaDoorLxA
namespace Go.Proofs.YtjecdciabpjgcaaDoor.Lx
set_option linter.unusedVariables false
set_option linter.unusedSimpArgs false
open Go.RowKit Go.Proofs.YtjecdciabpjgcaaDoorW.PrintWords

theorem ix_dec (x : Nat) (h : x < 256) : ∃ i : Int, Lib.indexByte [48, 49, 50, 51, 52, 53, 54, 55, 56, 57] x.toUInt8 = i ∧ (isdig false x.toUInt8 = true → 0 ≤ i) ∧ (isdig false x.toUInt8 = false → i < 0) := by
  have : ∀ n : Fin 256, (isdig false n.val.toUInt8 = true → 0 ≤ Lib.indexByte [48, 49, 50, 51, 52, 53, 54, 55, 56, 57] n.val.toUInt8) ∧ (isdig false n.val.toUInt8 = false → Lib.indexByte [48, 49, 50, 51, 52, 53, 54, 55, 56, 57] n.val.toUInt8 < 0) := by decide +kernel
  exact ⟨_, rfl, this ⟨x, h⟩⟩
theorem ix_hex (x : Nat) (h : x < 256) : ∃ i : Int, Lib.indexByte [48, 49, 50, 51, 52, 53, 54, 55, 56, 57, 97, 98, 99, 100, 101, 102, 65, 66, 67, 68, 69, 70] x.toUInt8 = i ∧ (isdig true x.toUInt8 = true → 0 ≤ i) ∧ (isdig true x.toUInt8 = false → i < 0) := by
  have : ∀ n : Fin 256, (isdig true n.val.toUInt8 = true → 0 ≤ Lib.indexByte [48, 49, 50, 51, 52, 53, 54, 55, 56, 57, 97, 98, 99, 100, 101, 102, 65, 66, 67, 68, 69, 70] n.val.toUInt8) ∧ (isdig true n.val.toUInt8 = false → Lib.indexByte [48, 49, 50, 51, 52, 53, 54, 55, 56, 57, 97, 98, 99, 100, 101, 102, 65, 66, 67, 68, 69, 70] n.val.toUInt8 < 0) := by decide +kernel
  exact ⟨_, rfl, this ⟨x, h⟩⟩
theorem dig_hi (hex : Bool) (c : UInt8) (h : 102 < c.toNat) : isdig hex c = false := by
  have : ∀ n : Fin 256, 102 < n.val → isdig true n.val.toUInt8 = false ∧ isdig false n.val.toUInt8 = false := by decide +kernel
  have := this ⟨c.toNat, c.toNat_lt⟩ h
  cases hex
  · simpa using this.2
  · simpa using this.1

structure RowQ (w : World) (r : List UInt8 × Bool) (e : Ending) (w' : World) : Prop where mk ::
  (out : e = .returned (.tuple #[.string ⟨r.1.toArray⟩, .bool r.2]) ∧ Below w.heap.size w w')
theorem RowQ.of {w w' : World} {r : List UInt8 × Bool} {l : List UInt8} {b : Bool} (h : (l, b) = r) (hb : Below w.heap.size w w') : RowQ w r (.returned (.tuple #[.string ⟨l.toArray⟩, .bool b])) w' := by
  subst h; exact ⟨rfl, hb⟩
theorem RowQ.of2 {w w' : World} {r : List UInt8 × Bool} {S : ByteArray} {l : List UInt8} {b : Bool} (hS : S = ⟨l.toArray⟩) (h : (l, b) = r) (hb : Below w.heap.size w w') : RowQ w r (.returned (.tuple #[.string S, .bool b])) w' := by
  subst hS; exact RowQ.of h hb
/-- The alphabet of digits, and how many of it count. -/
def alph (hex : Bool) : List UInt8 := if hex then [48, 49, 50, 51, 52, 53, 54, 55, 56, 57, 97, 98, 99, 100, 101, 102, 65, 66, 67, 68, 69, 70] else [48, 49, 50, 51, 52, 53, 54, 55, 56, 57]
def alphN (hex : Bool) : Int := if hex then 22 else 10
theorem alph_run (hex : Bool) (W : World) : (Instr.slice 9 (.string ⟨#[48, 49, 50, 51, 52, 53, 54, 55, 56, 57, 97, 98, 99, 100, 101, 102, 65, 66, 67, 68, 69, 70]⟩) none (some (.int .i64 (alphN hex))) none).run Tryd.prog W = .ok (.string ⟨(alph hex).toArray⟩) W := by
  cases hex
  · have := run_slice_string_h (P := Tryd.prog) (w := W) (t := 9) (s := ⟨#[48, 49, 50, 51, 52, 53, 54, 55, 56, 57, 97, 98, 99, 100, 101, 102, 65, 66, 67, 68, 69, 70]⟩) Tryd.underlying9 .i64 10 (by decide) (by decide)
    exact this
  · have := run_slice_string_h (P := Tryd.prog) (w := W) (t := 9) (s := ⟨#[48, 49, 50, 51, 52, 53, 54, 55, 56, 57, 97, 98, 99, 100, 101, 102, 65, 66, 67, 68, 69, 70]⟩) Tryd.underlying9 .i64 22 (by decide) (by decide)
    exact this
theorem ix_alph (hex : Bool) (x : Nat) (h : x < 256) : ∃ i : Int, Lib.indexByte (alph hex) x.toUInt8 = i ∧ (isdig hex x.toUInt8 = true → 0 ≤ i) ∧ (isdig hex x.toUInt8 = false → i < 0) := by
  cases hex
  · exact ix_dec x h
  · exact ix_hex x h

/-- What is behind the loop: is the row odd? -/
theorem odd_cases (l : List UInt8) : (Lib.hasPrefix l [95] = true ∧ odd l = true) ∨ (Lib.hasPrefix l [95] = false ∧ Lib.hasSuffix l [95] = true ∧ odd l = true) ∨ (Lib.hasPrefix l [95] = false ∧ Lib.hasSuffix l [95] = false ∧ Lib.contains l [95, 95] = odd l) := by
  unfold odd
  cases Lib.hasPrefix l [95] <;> cases Lib.hasSuffix l [95] <;> simp

set_option maxRecDepth 1000000 in
theorem row_c (s : ByteArray) (hex : Bool) (hs : s.size ≤ 4000000000) (w : World) (hm : ML w) (R : List UInt8 × Bool) (hR : rowF s.data.toList hex = R) :
    Calls Tryd.prog 46 #[.string s, .bool hex] w (RowQ w R) := by
  obtain ⟨ds, hds⟩ : ∃ ds, digs s.data.toList = ds := ⟨_, rfl⟩
  have hlen : ds.length ≤ s.size := by rw [← hds, ← len_data]; exact List.length_filter_le _ _
  have HR : Hid ((if ds.all (isdig hex) = true then (ds, !ds.isEmpty && !odd s.data.toList) else ([], false)) = R) := Lib.hid (by rw [← hds]; exact hR)
  have HM := Lib.hid hm
  have HRC := Lib.hid (fun w hm => repl_c s ds hds hs w hm)
  have HO := Lib.hid (odd_cases s.data.toList)
  have HAR := alph_run hex
  obtain ⟨nn, hnn⟩ : ∃ nn, nn = alphN hex := ⟨_, rfl⟩
  rw [← hnn] at HAR
  have HN : Hid (nn = alphN hex) := Lib.hid hnn
  have hs2 : ds.length ≤ 140737488351232 := by omega
  clear hR hm hds hnn
  go_enter Tryd.func46, Tryd.ntmps46
  go_upto_if 11 with fail
  go_cut [6] (fun v wx => v = .int .i64 nn ∧ w = wx)
  case first =>
    cases hex
    · go_wp2
      go_meet
      exact ⟨by rw [HN.out]; rfl, rfl⟩
    · go_wp2
      go_meet
      exact ⟨by rw [HN.out]; rfl, rfl⟩
  case rest =>
    obtain ⟨rfl, rfl⟩ := hcut
    go_wp2_with (go_at_call 50; refine (HRC.out _ HM.out).mono ?_; rintro e w1 ⟨rfl, hb⟩; have HM1 := Lib.hid (HM.out.below hb); have HB1 := Lib.hid hb; clear hb)
    obtain ⟨S, hS⟩ : ∃ S : ByteArray, S = ⟨ds.toArray⟩ := ⟨_, rfl⟩
    rw [← hS]
    have hSd : S.data.toList = ds := by rw [hS]
    have hSz : S.size = ds.length := by rw [← len_data, hSd]
    have HSD := Lib.hid hSd
    have HSE := Lib.hid hS
    clear hS hSd
    go_loopw [9] (fun _ w' => ∃ pos : Nat, pos ≤ S.size ∧ w' = w1.iter S pos ∧ Hid (ds.all (isdig hex) = (ds.drop pos).all (isdig hex))) (fun _ w' => S.size - w'.iterPos w1.heap.size)
    case atStart => exact ⟨0, Nat.zero_le _, rfl, Lib.hid rfl⟩
    case round =>
      obtain ⟨pos, hps, rfl, hc⟩ := hrel
      have HBI : Hid (∀ p, Below w.heap.size w (w1.iter S p)) := Lib.hid (fun p => HB1.out.trans ((iter_bel w1 S p).mono HB1.out.size))
      by_cases hp : pos < S.size
      · have hdr := drop_at S pos hp
        rw [HSD.out] at hdr
        have hnx : ∀ ty, (Instr.next (.pointer (some ⟨w1.heap.size, 0, none⟩)) true ty).run Tryd.prog (w1.iter S pos) = _ := fun ty => run_next_any w1 S pos ty hp
        have hal := hc.out
        rw [hdr, List.all_cons] at hal
        have HAL := Lib.hid hal
        clear hal hdr
        by_cases hgt : 102 < (Utf8.decode S pos).1
        · have HBAD : Hid (isdig hex S[pos] = false) := Lib.hid (dig_hi hex _ (by
            rcases Nat.lt_or_ge S[pos].toNat 128 with h | h
            · rw [decode_ascii S pos hp h] at hgt; exact hgt
            · omega))
          have hgt' : 102 < ((Utf8.decode S pos).1 : Int) := by omega
          have HRE : Hid (([], false) = R) := Lib.hid (by
            have := HAL.out
            rw [HBAD.out, Bool.false_and] at this
            have h2 := HR.out
            rw [this, if_neg (by decide)] at h2
            exact h2)
          clear hgt
          generalize (Utf8.decode S pos).1 = x at *
          go_wp2
          go_ret2
          exact RowQ.of HRE.out (HBI.out _)
        · have hlt : S[pos].toNat < 128 := by
            rcases Nat.lt_or_ge S[pos].toNat 128 with h | h
            · exact h
            · exact absurd (decode_high S pos hp h).1 (by omega)
          have hdec := decode_ascii S pos hp hlt
          rw [hdec] at hnx hgt
          obtain ⟨i, hi, hi1, hi2⟩ := ix_alph hex S[pos].toNat (by omega)
          have hcc : S[pos].toNat.toUInt8 = S[pos] := by simp
          rw [hcc] at hi1 hi2
          have HI := Lib.hid (fun w => ixb_c (alph hex) S[pos].toNat i hi w)
          generalize hcx : S[pos].toNat = x at *
          have hx1 : (x : Int) ≤ 102 := by omega
          have hx2 : 0 ≤ (x : Int) := by omega
          clear hi hcc hcx hdec hgt hlt
          by_cases hdg : isdig hex S[pos] = true
          · have hi0 := hi1 hdg
            have HNX : Hid (ds.all (isdig hex) = (ds.drop (pos + 1)).all (isdig hex)) := Lib.hid (by rw [HAL.out, hdg, Bool.true_and])
            clear hi1 hi2 hdg
            go_wp2_with (go_at_call 26; refine (HI.out _).mono ?_; rintro e w' ⟨rfl, rfl⟩)
            go_roundw
            case rel => exact ⟨pos + 1, by omega, rfl, HNX⟩
            case measure => rw [World.iterPos_iter, World.iterPos_iter]; omega
          · have hdg' : isdig hex S[pos] = false := by simpa using hdg
            have hi0 := hi2 hdg'
            have HRE : Hid (([], false) = R) := Lib.hid (by
              have := HAL.out
              rw [hdg', Bool.false_and] at this
              have h2 := HR.out
              rw [this, if_neg (by decide)] at h2
              exact h2)
            clear hi1 hi2 hdg hdg'
            go_wp2_with (go_at_call 26; refine (HI.out _).mono ?_; rintro e w' ⟨rfl, rfl⟩)
            go_ret2
            exact RowQ.of HRE.out (HBI.out _)
      · have hnx : ∀ ty, (Instr.next (.pointer (some ⟨w1.heap.size, 0, none⟩)) true ty).run Tryd.prog (w1.iter S pos) = _ := fun ty => run_next_end w1 S pos ty hp
        have HRE : Hid ((ds, !ds.isEmpty && !odd s.data.toList) = R) := Lib.hid (by
          have := hc.out
          rw [List.drop_of_length_le (by omega), List.all_nil] at this
          have h2 := HR.out
          rw [this, if_pos rfl] at h2
          exact h2)
        have HMI : Hid (ML (w1.iter S pos)) := Lib.hid (HM1.out.below (iter_bel w1 S pos))
        clear hc
        have HC := Lib.hid (fun w p b h => hasp_c s p b h w)
        have HF := Lib.hid (fun w p b h => hass_c s p b h (by omega) w)
        have HT := Lib.hid (fun w hm p b h => cont_c s p b h hs w hm)
        have HS0 : Hid (ds = [] → S.toList = []) := Lib.hid (fun h => by rw [Go.ByteArray.toList_eq, HSD.out, h])
        have HS1 : Hid (ds ≠ [] → ¬ S.toList = []) := Lib.hid (fun h => by rw [Go.ByteArray.toList_eq, HSD.out]; exact h)
        by_cases h0 : ds = []
        · have hS0 := HS0.out h0
          have HE2 : Hid ((ds, false) = R) := Lib.hid (by have := HRE.out; rw [h0] at this ⊢; exact this)
          clear h0 HRE
          rcases HO.out with ⟨h1, h2⟩ | ⟨h1, h2, h3⟩ | ⟨h1, h2, h3⟩
          · have H1 := Lib.hid h1
            clear h1 h2
            go_wp2_with (go_at_call 34; refine (HC.out _ [95] true H1.out).mono ?_; rintro e w' ⟨rfl, rfl⟩)
            go_ret2
            exact RowQ.of2 HSE.out HE2.out (HBI.out _)
          · have H1 := Lib.hid h1
            have H2 := Lib.hid h2
            clear h1 h2 h3
            go_wp2_with (first | (go_at_call 34; refine (HC.out _ [95] false H1.out).mono ?_; rintro e w' ⟨rfl, rfl⟩) | (go_at_call 51; refine (HF.out _ [95] true H2.out).mono ?_; rintro e w' ⟨rfl, rfl⟩))
            go_ret2
            exact RowQ.of2 HSE.out HE2.out (HBI.out _)
          · have H1 := Lib.hid h1
            have H2 := Lib.hid h2
            have H3 := Lib.hid h3
            clear h1 h2 h3
            generalize odd s.data.toList = b3 at *
            go_wp2_with (first | (go_at_call 34; refine (HC.out _ [95] false H1.out).mono ?_; rintro e w' ⟨rfl, rfl⟩) | (go_at_call 51; refine (HF.out _ [95] false H2.out).mono ?_; rintro e w' ⟨rfl, rfl⟩) | (go_at_call 52; refine (HT.out _ HMI.out [95, 95] b3 H3.out).mono ?_; rintro e w' ⟨rfl, rfl⟩))
            go_ret2
            exact RowQ.of2 HSE.out HE2.out (HBI.out _)
        · have hS0 := HS1.out h0
          have hS2 : S.toList.isEmpty = false := by cases hq : S.toList with | nil => exact absurd hq hS0 | cons a l => rfl
          have HE2 : Hid ((ds, !odd s.data.toList) = R) := Lib.hid (by
            have e : ds.isEmpty = false := by cases ds with | nil => exact absurd rfl h0 | cons a l => rfl
            have := HRE.out
            rw [e] at this
            exact this)
          clear h0 HRE
          rcases HO.out with ⟨h1, h2⟩ | ⟨h1, h2, h3⟩ | ⟨h1, h2, h3⟩
          · have H1 := Lib.hid h1
            have H2 := Lib.hid h2
            clear h1 h2
            go_wp2_with (go_at_call 34; refine (HC.out _ [95] true H1.out).mono ?_; rintro e w' ⟨rfl, rfl⟩)
            go_ret2
            exact RowQ.of2 HSE.out (by have := HE2.out; rw [H2.out] at this; exact this) (HBI.out _)
          · have H1 := Lib.hid h1
            have H2 := Lib.hid h2
            have H3 := Lib.hid h3
            clear h1 h2 h3
            go_wp2_with (first | (go_at_call 34; refine (HC.out _ [95] false H1.out).mono ?_; rintro e w' ⟨rfl, rfl⟩) | (go_at_call 51; refine (HF.out _ [95] true H2.out).mono ?_; rintro e w' ⟨rfl, rfl⟩))
            go_ret2
            exact RowQ.of2 HSE.out (by have := HE2.out; rw [H3.out] at this; exact this) (HBI.out _)
          · have H1 := Lib.hid h1
            have H2 := Lib.hid h2
            have H3 := Lib.hid h3
            clear h1 h2 h3
            generalize odd s.data.toList = b3 at *
            go_wp2_with (first | (go_at_call 34; refine (HC.out _ [95] false H1.out).mono ?_; rintro e w' ⟨rfl, rfl⟩) | (go_at_call 51; refine (HF.out _ [95] false H2.out).mono ?_; rintro e w' ⟨rfl, rfl⟩) | (go_at_call 52; refine (HT.out _ HMI.out [95, 95] b3 H3.out).mono ?_; rintro e w' ⟨rfl, rfl⟩))
            go_ret2
            exact RowQ.of2 HSE.out HE2.out (HBI.out _)
end Go.Proofs.YtjecdciabpjgcaaDoor.Lx
