/-
  The walks of lex's sign and space. No condition but that the reader's block is one.
-/
import Derived.Test.YtjecdciabpjgcaaDoorLxD
import Derived.ScopeJumps
import Derived.Outline
namespace Go.Proofs.YtjecdciabpjgcaaDoor.Lx
set_option linter.unusedVariables false
set_option linter.unusedSimpArgs false
open Go.RowKit Go.Proofs.YtjecdciabpjgcaaDoorW.PrintWords

def sgnL : List UInt8 := [33, 35, 36, 37, 38, 39, 42, 43, 45, 46, 47, 58, 60, 61, 62, 63, 64, 92, 94, 95, 96, 124, 126]
theorem sgn_tab : ∀ n : Fin 256, isSign n.val.toUInt8 = (decide (48 ≤ n.val ∧ n.val ≤ 57) || decide (97 ≤ n.val ∧ n.val ≤ 122) || decide (65 ≤ n.val ∧ n.val ≤ 90) || (decide (n.val < 127) && decide (0 ≤ Lib.indexByte sgnL n.val.toUInt8))) := by decide +kernel
theorem sgn_at (x : Nat) (h : x < 256) : isSign x.toUInt8 = (decide (48 ≤ x ∧ x ≤ 57) || decide (97 ≤ x ∧ x ≤ 122) || decide (65 ≤ x ∧ x ≤ 90) || (decide (x < 127) && decide (0 ≤ Lib.indexByte sgnL x.toUInt8))) := sgn_tab ⟨x, h⟩
set_option maxHeartbeats 4000000 in
set_option maxRecDepth 100000 in
theorem sgn_c (x : Nat) (hx : x < 256) (w : World) :
    Calls Tryd.prog 30 #[.int .u8 (x : Int)] w fun e w' => e = .returned (.bool (isSign x.toUInt8)) ∧ w = w' := by
  have ht := sgn_at x hx
  have h0 : 0 ≤ (x : Int) := by omega
  have HI := Lib.hid (fun w => ixb_c sgnL x _ rfl w)
  generalize Lib.indexByte sgnL x.toUInt8 = i at *
  by_cases c1 : 48 ≤ x ∧ x ≤ 57
  · have e : isSign x.toUInt8 = true := by rw [ht, decide_eq_true c1]; rfl
    rw [e]
    have d1 : 48 ≤ (x : Int) := by omega
    have d2 : (x : Int) ≤ 57 := by omega
    clear ht e c1
    go_enter Tryd.func30, Tryd.ntmps30
    go_wp2
    go_ret
    exact ⟨rfl, rfl⟩
  · by_cases c2 : 97 ≤ x ∧ x ≤ 122
    · have e : isSign x.toUInt8 = true := by rw [ht, decide_eq_false c1, decide_eq_true c2]; rfl
      rw [e]
      have d1 : 57 < (x : Int) := by omega
      have d2 : 97 ≤ (x : Int) := by omega
      have d3 : (x : Int) ≤ 122 := by omega
      clear ht e c1 c2
      go_enter Tryd.func30, Tryd.ntmps30
      go_wp2
      go_ret
      exact ⟨rfl, rfl⟩
    · by_cases c3 : 65 ≤ x ∧ x ≤ 90
      · have e : isSign x.toUInt8 = true := by rw [ht, decide_eq_false c1, decide_eq_false c2, decide_eq_true c3]; rfl
        rw [e]
        have d1 : 57 < (x : Int) := by omega
        have d2 : (x : Int) < 97 := by omega
        have d3 : 65 ≤ (x : Int) := by omega
        have d4 : (x : Int) ≤ 90 := by omega
        clear ht e c1 c2 c3
        go_enter Tryd.func30, Tryd.ntmps30
        go_wp2
        go_ret
        exact ⟨rfl, rfl⟩
      · by_cases c4 : x < 127
        · have d6 : (x : Int) < 127 := by omega
          by_cases c5 : 0 ≤ i
          · have e : isSign x.toUInt8 = true := by rw [ht, decide_eq_true c4, decide_eq_true c5]; simp
            rw [e]
            clear ht e c4
            by_cases k1 : x < 48
            · have d1 : (x : Int) < 48 := by omega
              clear c1 c2 c3 k1
              go_enter Tryd.func30, Tryd.ntmps30
              go_wp2_with (go_at_call 26; refine (HI.out _).mono ?_; rintro e w' ⟨rfl, rfl⟩)
              go_ret
              exact ⟨rfl, rfl⟩
            · have d1 : 57 < (x : Int) := by omega
              by_cases k2 : x < 65
              · have d2 : (x : Int) < 65 := by omega
                clear c1 c2 c3 k1 k2
                go_enter Tryd.func30, Tryd.ntmps30
                go_wp2_with (go_at_call 26; refine (HI.out _).mono ?_; rintro e w' ⟨rfl, rfl⟩)
                go_ret
                exact ⟨rfl, rfl⟩
              · have d2 : 90 < (x : Int) := by omega
                by_cases k3 : x < 97
                · have d3 : (x : Int) < 97 := by omega
                  clear c1 c2 c3 k1 k2 k3
                  go_enter Tryd.func30, Tryd.ntmps30
                  go_wp2_with (go_at_call 26; refine (HI.out _).mono ?_; rintro e w' ⟨rfl, rfl⟩)
                  go_ret
                  exact ⟨rfl, rfl⟩
                · have d3 : 122 < (x : Int) := by omega
                  clear c1 c2 c3 k1 k2 k3
                  go_enter Tryd.func30, Tryd.ntmps30
                  go_wp2_with (go_at_call 26; refine (HI.out _).mono ?_; rintro e w' ⟨rfl, rfl⟩)
                  go_ret
                  exact ⟨rfl, rfl⟩
          · have e : isSign x.toUInt8 = false := by rw [ht, decide_eq_false c1, decide_eq_false c2, decide_eq_false c3, decide_eq_false c5]; simp
            rw [e]
            have c5' : i < 0 := by omega
            clear ht e c4 c5
            by_cases k1 : x < 48
            · have d1 : (x : Int) < 48 := by omega
              clear c1 c2 c3 k1
              go_enter Tryd.func30, Tryd.ntmps30
              go_wp2_with (go_at_call 26; refine (HI.out _).mono ?_; rintro e w' ⟨rfl, rfl⟩)
              go_ret
              refine ⟨?_, rfl⟩
              simp
              omega
            · have d1 : 57 < (x : Int) := by omega
              by_cases k2 : x < 65
              · have d2 : (x : Int) < 65 := by omega
                clear c1 c2 c3 k1 k2
                go_enter Tryd.func30, Tryd.ntmps30
                go_wp2_with (go_at_call 26; refine (HI.out _).mono ?_; rintro e w' ⟨rfl, rfl⟩)
                go_ret
                refine ⟨?_, rfl⟩
                simp
                omega
              · have d2 : 90 < (x : Int) := by omega
                by_cases k3 : x < 97
                · have d3 : (x : Int) < 97 := by omega
                  clear c1 c2 c3 k1 k2 k3
                  go_enter Tryd.func30, Tryd.ntmps30
                  go_wp2_with (go_at_call 26; refine (HI.out _).mono ?_; rintro e w' ⟨rfl, rfl⟩)
                  go_ret
                  refine ⟨?_, rfl⟩
                  simp
                  omega
                · have d3 : 122 < (x : Int) := by omega
                  clear c1 c2 c3 k1 k2 k3
                  go_enter Tryd.func30, Tryd.ntmps30
                  go_wp2_with (go_at_call 26; refine (HI.out _).mono ?_; rintro e w' ⟨rfl, rfl⟩)
                  go_ret
                  refine ⟨?_, rfl⟩
                  simp
                  omega
        · have e : isSign x.toUInt8 = false := by rw [ht, decide_eq_false c1, decide_eq_false c2, decide_eq_false c3, decide_eq_false c4]; simp
          rw [e]
          have d6 : 127 ≤ (x : Int) := by omega
          clear ht e c1 c2 c3 c4
          go_enter Tryd.func30, Tryd.ntmps30
          go_wp2
          go_ret
          refine ⟨?_, rfl⟩
          simp
          omega
/-! ### space, as a function -/
theorem spc_nil (f : Nat) : spc (f + 1) [] = some [] := rfl
theorem spc_ws (f : Nat) (c : UInt8) (t : List UInt8) (h : isWs c = true) : spc (f + 1) (c :: t) = spc f t := by simp only [spc]; rw [if_pos h]
theorem spc_line (f : Nat) (c : UInt8) (t : List UInt8) (h : isWs c = false) (h1 : Lib.hasPrefix (c :: t) [59, 59] = true) : spc (f + 1) (c :: t) = spc f ((c :: t).dropWhile (· != 10)) := by
  simp only [spc]; rw [h, if_neg (by decide), if_pos h1]
theorem spc_com (f : Nat) (c : UInt8) (t : List UInt8) (h : isWs c = false) (h1 : Lib.hasPrefix (c :: t) [59, 59] = false) (h2 : Lib.hasPrefix (c :: t) [40, 59] = true) : spc (f + 1) (c :: t) = match cm ((c :: t).length + 1) 0 (c :: t) with | none => none | some r => spc f r := by
  simp only [spc]; rw [h, if_neg (by decide), h1, if_neg (by decide), if_pos h2]
  cases cm ((c :: t).length + 1) 0 (c :: t) <;> rfl
theorem spc_end (f : Nat) (c : UInt8) (t : List UInt8) (h : isWs c = false) (h1 : Lib.hasPrefix (c :: t) [59, 59] = false) (h2 : Lib.hasPrefix (c :: t) [40, 59] = false) : spc (f + 1) (c :: t) = some (c :: t) := by
  simp only [spc]; rw [h, if_neg (by decide), h1, if_neg (by decide), h2, if_neg (by decide)]
theorem ws_tab : ∀ n : Fin 256, (isWs n.val.toUInt8 = true → 0 ≤ Lib.indexByte [32, 9, 10, 13] n.val.toUInt8) ∧ (isWs n.val.toUInt8 = false → Lib.indexByte [32, 9, 10, 13] n.val.toUInt8 < 0) := by decide +kernel
theorem drop_ix (c : UInt8) : ∀ l : List UInt8, (Lib.indexByte l c = -1 → l.dropWhile (· != c) = []) ∧ ∀ o : Nat, Lib.indexByte l c = (o : Int) → l.dropWhile (· != c) = l.drop o ∧ o < l.length
  | [] => ⟨fun _ => rfl, fun o h => by simp [Lib.indexByte] at h⟩
  | b :: l => by
    obtain ⟨i1, i2⟩ := drop_ix c l
    have hge := Lib.indexByte_ge l c
    unfold Lib.indexByte
    by_cases hb : (b == c) = true
    · rw [if_pos hb]
      refine ⟨fun h => by omega, fun o h => ?_⟩
      obtain rfl : o = 0 := by omega
      have : (b != c) = false := by simp only [bne, hb]; rfl
      exact ⟨by rw [List.dropWhile_cons, this]; rfl, by simp⟩
    · rw [if_neg hb]
      have hbc : (b != c) = true := by simp only [bne]; simpa using hb
      rw [List.dropWhile_cons, hbc, if_pos rfl]
      by_cases h1 : Lib.indexByte l c = -1
      · rw [if_pos (beq_iff_eq.2 h1)]
        exact ⟨fun _ => i1 h1, fun o h => by omega⟩
      · rw [if_neg (fun h => h1 (beq_iff_eq.1 h))]
        refine ⟨fun h => by omega, fun o h => ?_⟩
        obtain ⟨e1, e2⟩ := i2 (o - 1) (by omega)
        obtain ⟨o, rfl⟩ : ∃ k, o = k + 1 := ⟨o - 1, by omega⟩
        exact ⟨by rw [e1]; rfl, by simp at e2 ⊢; omega⟩
theorem ixq (p : ByteArray) (x : Int) (i : Int) (h : Lib.indexByte p.data.toList x.toNat.toUInt8 = i) (w : World) :
    Calls Tryd.prog 26 #[.string p, .int .u8 x] w fun e w' => e = .returned (.int .i64 i) ∧ w' = w :=
  (Tryd.strings_IndexByte p x w).mono fun e w' hh => ⟨by rw [hh.1, ← h], hh.2⟩
theorem cm_len : ∀ (f d : Nat) (l r : List UInt8), cm f d l = some r → r.length + 2 ≤ l.length := by
  intro f
  induction f with
  | zero => intro d l r h; cases h
  | succ f ih =>
    intro d l r h
    cases hl : l with
    | nil => subst hl; rw [cm_nil] at h; cases h
    | cons c t =>
      rw [← hl]
      cases h1 : Lib.hasPrefix l [40, 59]
      · cases h2 : Lib.hasPrefix l [59, 41]
        · rw [cm_on f d l (by rw [hl]; simp) h1 h2] at h
          have := ih _ _ _ h
          rw [List.length_drop] at this
          omega
        · rw [cm_shut f d l h1 h2] at h
          have := pre_len _ _ h2
          simp only [List.length_cons, List.length_nil] at this
          split at h
          · obtain rfl := Option.some.inj h
            rw [List.length_drop]
            omega
          · have := ih _ _ _ h
            rw [List.length_drop] at this
            omega
      · rw [cm_open f d l h1] at h
        have := ih _ _ _ h
        rw [List.length_drop] at this
        omega
def SpR (g : Nat) (s : ByteArray) (w : World) (R : Option (List UInt8)) (wr : World) : Prop :=
  ∃ n f : Nat, n ≤ s.size ∧ Rd wr g s n ∧ Turn w wr g ∧ s.size - n < f ∧ spc f (s.data.toList.drop n) = R
set_option maxRecDepth 100000 in
theorem space_c (g : Nat) (s : ByteArray) (n : Nat) (hn : n ≤ s.size) (hs : s.size ≤ 4000000000) (w : World) (hr : Rd w g s n) (R : Option (List UInt8)) (hR : spc (s.size - n + 1) (s.data.toList.drop n) = R) :
    Calls Tryd.prog 19 #[.pointer (some ⟨g, 0, none⟩)] w (CmQ g s w R) := by
  have HS := Lib.hid (fun n p b hn h w hr => sees_c g s n p b hn hs h w hr)
  have HCM := Lib.hid (fun n hn w hr hp R hR => comment_c g s n hn hs w hr hp R hR)
  have HA : Hid (SpR g s w R w) := Lib.hid ⟨n, _, hn, hr, Turn.refl _ _, Nat.lt_succ_self _, hR⟩
  clear hn hr hR
  go_enter Tryd.func19, Tryd.ntmps19
  go_wp2
  go_step3
  go_wp2
  go_step3
  go_wp2
  go_loopw [3] (fun _ wr => SpR g s w R wr) (fun _ wr => s.size - rdPos wr g)
  case atStart => exact HA.out
  case round =>
    obtain ⟨n, f, hn, hr, ht, hf, hc⟩ := hrel
    have HR0 := Lib.hid hr
    have HT0 := Lib.hid ht
    have h0 := hr.c0
    have h1 := hr.c1
    have hfz := hr.f1
    obtain ⟨f, rfl⟩ : ∃ k, f = k + 1 := ⟨f - 1, by omega⟩
    by_cases hlt : n < s.size
    · have hlt' : (n : Int) < (s.size : Int) := by omega
      have hdr := drop_at s n hlt
      rw [hdr] at hc
      have HC := Lib.hid hc
      have hx := UInt8.toNat_lt s[n]
      have hcc : s[n].toNat.toUInt8 = s[n] := by simp
      have hwt := ws_tab ⟨s[n].toNat, hx⟩
      simp only [hcc] at hwt
      obtain ⟨i, hi⟩ : ∃ i, Lib.indexByte [32, 9, 10, 13] s[n] = i := ⟨_, rfl⟩
      rw [hi] at hwt
      have HI := Lib.hid (fun w => ixq ⟨#[32, 9, 10, 13]⟩ (s[n].toNat : Int) i (by rw [Int.toNat_natCast, hcc]; exact hi) w)
      clear hc hr ht hi
      by_cases hws : isWs s[n] = true
      · have hi0 := hwt.1 hws
        have HN : Hid (spc f (s.data.toList.drop (n + 1)) = R) := Lib.hid (by have := HC.out; rw [spc_ws f _ _ hws] at this; exact this)
        clear hwt hws hcc hdr
        go_wp2
        go_quiet (fail)
        go_wp2
        go_quiet ((go_at_call 26; exact (HI.out _).mono (fun e w'' h => ⟨h.1, _, h.2⟩)))
        go_wp2
        go_roundw
        case rel => exact ⟨n + 1, f, by omega, (HR0.out.drewN _).set _ _ (by push_cast; rfl), (HT0.out.trans (Turn.drewN _ _ _)).trans (Turn.set _ _ _ _), by omega, HN.out⟩
        case measure =>
          rw [HR0.out.pos, ((HR0.out.drewN _).set _ (n + 1) (by push_cast; rfl)).pos]
          omega
      · have hws' : isWs s[n] = false := by simpa using hws
        have hi0 := hwt.2 hws'
        by_cases ha : Lib.hasPrefix (s[n] :: s.data.toList.drop (n + 1)) [59, 59] = true
        · have HSA := Lib.hid (fun w hr => HS.out n [59, 59] true hn (by rw [hdr]; exact ha) w hr)
          have HN : Hid (spc f ((s.data.toList.drop n).dropWhile (· != 10)) = R) := Lib.hid (by have := HC.out; rw [spc_line f _ _ hws' ha, ← hdr] at this; exact this)
          have hdi := drop_ix 10 (s.data.toList.drop n)
          obtain ⟨j, hj⟩ : ∃ j, Lib.indexByte (s.data.toList.drop n) 10 = j := ⟨_, rfl⟩
          have hjg : -1 ≤ j := by rw [← hj]; exact Lib.indexByte_ge _ _
          rw [hj] at hdi
          have HJ := Lib.hid (fun w => ixq (s.extract n s.size) 10 j (by rw [rest_data]; exact hj) w)
          have hl2 : n + 2 ≤ s.size := by
            have := pre_len _ _ ha
            rw [← hdr, List.length_drop, len_data] at this
            simp at this
            omega
          have hll : (s.data.toList.drop n).length = s.size - n := by rw [List.length_drop, len_data]
          rw [hll] at hdi
          have HDI := Lib.hid hdi
          have hn1 : (n : Int) ≤ (s.size : Int) := by omega
          have HNE : Hid (j ≠ 0) := Lib.hid (by
            rintro rfl
            have h0 := (Lib.indexByte_some (o := 0) hj).1
            rw [hdr] at h0
            have hp := List.isPrefixOf_iff_prefix.1 ha
            obtain ⟨u, hu⟩ := hp
            have h3 : s[n] = 59 := by injection hu with h3 _; exact h3.symm
            have h4 : s[n] = 10 := by injection h0
            rw [h3] at h4
            exact absurd h4 (by decide))
          clear hwt hws hws' hcc hdr ha hj hdi hll
          by_cases hj0 : j < 0
          · obtain rfl : j = -1 := by omega
            have HN2 : Hid (spc f (s.data.toList.drop s.size) = R) := Lib.hid (by have := HN.out; rw [HDI.out.1 rfl] at this; rw [drop_end s s.size (Nat.le_refl _)]; exact this)
            clear hjg
            go_wp2
            go_quiet (fail)
            go_wp2
            go_quiet ((go_at_call 26; exact (HI.out _).mono (fun e w'' h => ⟨h.1, _, h.2⟩)))
            go_wp2_with (go_at_call 27; ((with_reducible refine (HSA.out _ (HR0.out.drewN _)).mono ?_)); intro e w1 hq; obtain ⟨he, m1, hw1⟩ := hq.out; subst he; subst hw1; clear hq)
            go_quiet ((go_at_call 26; exact (HJ.out _).mono (fun e w'' h => ⟨h.1, _, h.2⟩)))
            go_wp2
            go_quiet (fail)
            go_wp2
            go_roundw
            case rel => exact ⟨s.size, f, Nat.le_refl _, (HR0.out.drewN _).set _ _ (by omega), (HT0.out.trans (Turn.drewN _ _ _)).trans (Turn.set _ _ _ _), by omega, HN2.out⟩
            case measure =>
              rw [HR0.out.pos, ((HR0.out.drewN _).set _ s.size (by omega)).pos]
              omega
          · obtain ⟨o, rfl⟩ : ∃ o : Nat, j = (o : Int) := ⟨j.toNat, by omega⟩
            have hol := (HDI.out.2 o rfl).2
            have HN2 : Hid (spc f (s.data.toList.drop (n + o)) = R) := Lib.hid (by have := HN.out; rw [(HDI.out.2 o rfl).1, List.drop_drop] at this; exact this)
            have ho1 : 1 ≤ o := by
              rcases Nat.eq_zero_or_pos o with h | h
              · exact absurd (by rw [h]; rfl) HNE.out
              · exact h
            have hoge : 0 ≤ (o : Int) := by omega
            clear hj0 hjg
            go_wp2
            go_quiet (fail)
            go_wp2
            go_quiet ((go_at_call 26; exact (HI.out _).mono (fun e w'' h => ⟨h.1, _, h.2⟩)))
            go_wp2_with (go_at_call 27; ((with_reducible refine (HSA.out _ (HR0.out.drewN _)).mono ?_)); intro e w1 hq; obtain ⟨he, m1, hw1⟩ := hq.out; subst he; subst hw1; clear hq)
            go_quiet ((go_at_call 26; exact (HJ.out _).mono (fun e w'' h => ⟨h.1, _, h.2⟩)))
            go_wp2
            go_roundw
            case rel => exact ⟨n + o, f, by omega, (HR0.out.drewN _).set _ _ (by push_cast; rfl), (HT0.out.trans (Turn.drewN _ _ _)).trans (Turn.set _ _ _ _), by omega, HN2.out⟩
            case measure =>
              rw [HR0.out.pos, ((HR0.out.drewN _).set _ (n + o) (by push_cast; rfl)).pos]
              omega
        · have ha' : Lib.hasPrefix (s[n] :: s.data.toList.drop (n + 1)) [59, 59] = false := by simpa using ha
          have HSA := Lib.hid (fun w hr => HS.out n [59, 59] false hn (by rw [hdr]; exact ha') w hr)
          by_cases hb : Lib.hasPrefix (s[n] :: s.data.toList.drop (n + 1)) [40, 59] = true
          · have HSB := Lib.hid (fun w hr => HS.out n [40, 59] true hn (by rw [hdr]; exact hb) w hr)
            obtain ⟨C, hC⟩ : ∃ C, cm (s.size - n + 1) 0 (s.data.toList.drop n) = C := ⟨_, rfl⟩
            have hll : (s[n] :: s.data.toList.drop (n + 1)).length = s.size - n := by rw [← hdr, List.length_drop, len_data]
            have HN0 : Hid (C = none → R = none) := Lib.hid (fun h => by
              have := HC.out
              rw [spc_com f _ _ hws' ha' hb, hll, ← hdr, hC, h] at this
              exact this.symm)
            have HN1 : Hid (∀ r, C = some r → spc f r = R) := Lib.hid (fun r h => by
              have := HC.out
              rw [spc_com f _ _ hws' ha' hb, hll, ← hdr, hC, h] at this
              exact this)
            have HCL : Hid (∀ r, C = some r → r.length + 2 ≤ s.size - n) := Lib.hid (fun r h => by
              have := cm_len _ _ _ _ (hC.trans h)
              rw [List.length_drop, len_data] at this
              exact this)
            have HCC := Lib.hid (fun w hr => HCM.out n hn w hr (by rw [hdr]; exact hb) C hC)
            clear hwt hws hws' hcc hdr ha ha' hb hC hll
            go_wp2
            go_quiet (fail)
            go_wp2
            go_quiet ((go_at_call 26; exact (HI.out _).mono (fun e w'' h => ⟨h.1, _, h.2⟩)))
            go_wp2_with (go_at_call 27; ((with_reducible refine (HSA.out _ (HR0.out.drewN _)).mono ?_)); intro e w1 hq; obtain ⟨he, m1, hw1⟩ := hq.out; subst he; subst hw1; clear hq)
            go_wp2_with (go_at_call 27; ((with_reducible refine (HSB.out _ (HR0.out.drewN _)).mono ?_)); intro e w1 hq; obtain ⟨he, m2, hw1⟩ := hq.out; subst he; subst hw1; clear hq)
            refine (HCC.out _ (HR0.out.drewN _)).mono ?_
            intro e w2 hq
            obtain ⟨n2, hn2, hr2, ht2, hor⟩ := hq.out
            have HR2 := Lib.hid hr2
            have HT2 := Lib.hid ((HT0.out.trans (Turn.drewN _ _ _)).trans ht2)
            clear hq hr2 ht2
            rcases hor with ⟨hcn, he⟩ | ⟨hcs, he⟩
            · subst he
              have HE := Lib.hid (HN0.out hcn)
              clear hcn
              go_wp2
              rw [Exit.noGoto_ret]
              go_ret
              exact ⟨n2, hn2, HR2.out, HT2.out, .inl ⟨HE.out, rfl⟩⟩
            · subst he
              have HE := Lib.hid (HN1.out _ hcs)
              have hl2 := HCL.out _ hcs
              rw [List.length_drop, len_data] at hl2
              clear hcs
              go_wp2
              go_roundw
              case rel => exact ⟨n2, f, hn2, HR2.out, HT2.out, by omega, HE.out⟩
              case measure =>
                rw [HR0.out.pos, HR2.out.pos]
                omega
          · have hb' : Lib.hasPrefix (s[n] :: s.data.toList.drop (n + 1)) [40, 59] = false := by simpa using hb
            have HSB := Lib.hid (fun w hr => HS.out n [40, 59] false hn (by rw [hdr]; exact hb') w hr)
            have HE : Hid (R = some (s.data.toList.drop n)) := Lib.hid (by have := HC.out; rw [spc_end f _ _ hws' ha' hb', ← hdr] at this; exact this.symm)
            clear hwt hws hws' hcc hdr ha ha' hb hb'
            go_wp2
            go_quiet (fail)
            go_wp2
            go_quiet ((go_at_call 26; exact (HI.out _).mono (fun e w'' h => ⟨h.1, _, h.2⟩)))
            go_wp2_with (go_at_call 27; ((with_reducible refine (HSA.out _ (HR0.out.drewN _)).mono ?_)); intro e w1 hq; obtain ⟨he, m1, hw1⟩ := hq.out; subst he; subst hw1; clear hq)
            go_wp2_with (go_at_call 27; ((with_reducible refine (HSB.out _ (HR0.out.drewN _)).mono ?_)); intro e w1 hq; obtain ⟨he, m2, hw1⟩ := hq.out; subst he; subst hw1; clear hq)
            rw [Exit.noGoto_ret]
            go_ret
            exact ⟨n, hn, HR0.out.drewN _, HT0.out.trans (Turn.drewN _ _ _), .inr ⟨HE.out, rfl⟩⟩
    · have hn' : n = s.size := by omega
      have HE : Hid (R = some (s.data.toList.drop n)) := Lib.hid (by rw [drop_end s n (by omega)] at hc ⊢; rw [spc_nil] at hc; exact hc.symm)
      have hge : (s.size : Int) ≤ (n : Int) := by omega
      clear hlt hc hr ht
      go_wp2
      go_quiet (fail)
      go_wp2
      rw [Exit.noGoto_ret]
      go_ret
      exact ⟨n, hn, HR0.out.drewN _, HT0.out.trans (Turn.drewN _ _ _), .inr ⟨HE.out, rfl⟩⟩
end Go.Proofs.YtjecdciabpjgcaaDoor.Lx
