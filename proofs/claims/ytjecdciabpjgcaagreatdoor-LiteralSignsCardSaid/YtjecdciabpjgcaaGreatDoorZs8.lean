/-
  What a text says as a float without its sign (chapter 8's magnitude), as a plain function; its walk. Condition: the library's variable internal/bytealg.MaxLen holds a number; the text is no longer than 900000 bytes; a float of 32 or 64 bits.
-/
import Derived.Test.YtjecdciabpjgcaaGreatDoorZs0
import Derived.Test.YtjecdciabpjgcaaGreatDoorZs1
import Derived.Test.YtjecdciabpjgcaaGreatDoorZs2
import Derived.Test.YtjecdciabpjgcaaGreatDoorZs3
import Derived.Test.YtjecdciabpjgcaaGreatDoorZs4
import Derived.Test.YtjecdciabpjgcaaGreatDoorZs5
import Derived.Test.YtjecdciabpjgcaaGreatDoorZs6
import Derived.Test.YtjecdciabpjgcaaGreatDoorZs7
namespace Go.Proofs.YtjecdciabpjgcaaGreatDoor.Lz
set_option linter.unusedVariables false
set_option linter.unusedSimpArgs false
open Go.RowKit Go.Proofs.YtjecdciabpjgcaaGreatDoorW.PrintWords Go.Proofs.YtjecdciabpjgcaaGreatDoor.Lx Go.Proofs.YtjecdciabpjgcaaGreatDoor.PLz
def infF (bits : Int) : Int := (Pure.roundF bits false 1 4000 false).1
def nanL : List UInt8 := [110, 97, 110, 58, 48, 120]
/-- What nan:0x.. says. -/
def nanF (bits : Int) (t : List UInt8) : Int × Bool :=
  let r := rowF t true
  let k := numK 16 r.1 0
  let n : Nat := k.getD 0
  (bits_or (infF bits) n, r.2 && k.isSome && decide (0 < n) && decide ((n : Int) < IntKind.u64.wrap (IntKind.u64.wrap (Fl.canon bits - infF bits) * 2)))
where bits_or (a : Int) (n : Nat) : Int := Go.bits .or .u64 a (n : Int)
def mk1 (hex : Bool) : UInt8 := if hex then 112 else 101
def mk2 (hex : Bool) : UInt8 := if hex then 80 else 69
def noMk (hex : Bool) (c : UInt8) : Bool := !(c == mk1 hex) && !(c == mk2 hex)
def manF (hex : Bool) (t : List UInt8) : List UInt8 := t.takeWhile (noMk hex)
def powF (hex : Bool) (t : List UInt8) : List UInt8 := if (t.takeWhile (noMk hex)).length < t.length then t.drop ((t.takeWhile (noMk hex)).length + 1) else [48]
/-- The exponent's digits behind e, held at 1e9. -/
def expF : Nat → List UInt8 → Nat
  | e, [] => e
  | e, c :: t => expF (min (10 * e + (c.toNat - 48)) 1000000000) t
def numF (bits : Int) (hex : Bool) (t : List UInt8) : Int × Bool :=
  let c := Lib.cut (manF hex t) [46]
  let a := rowF c.1 hex
  let b := rowF c.2.1 hex
  let s := signF (powF hex t)
  let p := rowF s.2 false
  if a.2 = true ∧ (b.2 = true ∨ c.2.1 = []) ∧ p.2 = true then
    let e : Int := expF 0 p.1
    let e2 : Int := if s.1 = true then -e else e
    let out : Int := if hex = true then binF bits (a.1 ++ b.1) (e2 - 4 * (b.1.length : Int)) else decF bits (a.1 ++ b.1) (e2 - (b.1.length : Int))
    (out, decide (out < infF bits))
  else (0, false)
def magF (bits : Int) (l : List UInt8) : Int × Bool :=
  if l = [105, 110, 102] then (infF bits, true)
  else if l = [110, 97, 110] then (Fl.canon bits, true)
  else if Lib.hasPrefix l nanL = true then nanF bits (Lib.trimPrefix l nanL)
  else numF bits (hexF l).1 (hexF l).2
structure MgQ (w : World) (r : Int × Bool) (e : Ending) (w' : World) : Prop where mk ::
  (out : e = .returned (.tuple #[.int .u64 r.1, .bool r.2]) ∧ Below w.heap.size w w')
theorem canon_c (bits : Int) (hb : bits = 32 ∨ bits = 64) (w : World) : Calls Tryz.prog 36 #[.int .i64 bits] w fun x w' => x = .returned (.int .u64 (Fl.canon bits)) ∧ Below w.heap.size w w' :=
  (floats_Canonical.calls bits (Fl.canon bits) w (by rw [Pure.c_Canonical, if_pos hb])).mono fun e w' h => h
def MkR (w : World) (hex : Bool) (T : ByteArray) (v18 v19 v95 : Value) (wr : World) : Prop :=
  ∃ i : Nat, v18 = .string T ∧ v19 = .string ⟨#[48]⟩ ∧ v95 = .int .i64 (i : Int) ∧ i ≤ T.size ∧ (∀ c ∈ T.data.toList.take i, noMk hex c = true) ∧ Below w.heap.size w wr
theorem tw_at (p : UInt8 → Bool) : ∀ (l : List UInt8) (i : Nat), (∀ c ∈ l.take i, p c = true) → (l.drop i = [] ∨ ∃ c t, l.drop i = c :: t ∧ p c = false) → l.takeWhile p = l.take i
  | [], i, _, _ => by simp
  | c :: t, 0, _, h => by
    rcases h with h | ⟨x, y, h, hx⟩
    · simp at h
    · simp only [List.drop_zero, List.cons.injEq] at h
      rw [List.take_zero, List.takeWhile_cons_of_neg (by rw [h.1, hx]; simp)]
  | c :: t, i + 1, h1, h2 => by
    have hc := h1 c (by simp)
    rw [List.takeWhile_cons_of_pos hc, List.take_succ_cons, tw_at p t i (fun x hx => h1 x (by simp [hx])) (by simpa using h2)]
theorem rowF_dec (t : List UInt8) : ∀ c ∈ (rowF t false).1, isdec c = true := by
  unfold rowF
  split
  · rename_i h
    intro c hc
    have := List.all_eq_true.1 h c hc
    simpa [isdig] using this
  · intro c hc; cases hc
theorem cut_len (l : List UInt8) (c : UInt8) : (Lib.cut l [c]).1.length + (Lib.cut l [c]).2.1.length ≤ l.length := by
  unfold Lib.cut
  split
  · rename_i h
    have := Lib.index_room l [c] h
    simp only [List.length_take, List.length_drop, List.length_singleton] at this ⊢
    omega
  · simp
theorem expF_le : ∀ (l : List UInt8) (e : Nat), e ≤ 1000000000 → expF e l ≤ 1000000000
  | [], e, h => h
  | c :: t, e, h => expF_le t _ (Nat.min_le_right _ _)
theorem cutL_c (l : List UInt8) (hl : l.length ≤ 900000) (c : List UInt8 × List UInt8 × Bool) (h : Lib.cut l [46] = c) (w : World) (hm : ML w) :
    Calls Tryz.prog 63 #[.string ⟨l.toArray⟩, .string ⟨#[46]⟩] w fun e w' => e = .returned (.tuple #[.string ⟨c.1.toArray⟩, .string ⟨c.2.1.toArray⟩, .bool c.2.2]) ∧ Below w.heap.size w w' := by
  obtain ⟨m, hm⟩ := hm
  refine (Tryz.strings_Cut ⟨l.toArray⟩ ⟨#[46]⟩ m w (by rw [size_arr]; omega) hm).mono fun e w' hh => ?_
  obtain ⟨h1, n, h2⟩ := hh
  rw [arr_self] at h1
  have e46 : (⟨#[46]⟩ : ByteArray).data.toList = [46] := rfl
  rw [e46, h] at h1
  exact ⟨h1, by rw [h2]; exact pw_below_drewN (Below.refl _ _) _⟩
theorem rowL_c (l : List UInt8) (hl : l.length ≤ 1000000) (hex : Bool) (R : List UInt8 × Bool) (h : rowF l hex = R) (w : World) (hm : ML w) :
    Calls Tryz.prog 24 #[.string ⟨l.toArray⟩, .bool hex] w (RowQ w R) := row_c ⟨l.toArray⟩ hex (by rw [size_arr]; omega) w hm R (by rw [arr_self]; exact h)
theorem signL_c (l : List UInt8) (neg : Bool) (r : List UInt8) (h : signF l = (neg, r)) (w : World) :
    Calls Tryz.prog 22 #[.string ⟨l.toArray⟩] w fun e w' => e = .returned (.tuple #[.bool neg, .string ⟨r.toArray⟩]) ∧ w = w' := sign_c ⟨l.toArray⟩ neg r (by rw [arr_self]; exact h) w
theorem ba_app1 (a b : List UInt8) : (⟨a.toArray⟩ : ByteArray) ++ ⟨b.toArray⟩ = ⟨(a ++ b).toArray⟩ := by
  apply ByteArray.ext
  simp
set_option maxRecDepth 1000000 in
set_option maxHeartbeats 16000000 in
theorem mag_c (bits : Int) (hb : bits = 32 ∨ bits = 64) (s : ByteArray) (hs : s.size ≤ 900000) (w : World) (hm : ML w) :
    Calls Tryz.prog 32 #[.int .i64 bits, .string s] w (MgQ w (magF bits s.data.toList)) := by
  have HCA := Lib.hid (fun w => canon_c bits hb w)
  obtain ⟨r, hr⟩ : ∃ r, Pure.roundF bits false 1 4000 false = r := ⟨_, rfl⟩
  have HRD := Lib.hid (fun w => round_c bits 1 (by decide) _ _ r hr w)
  have hz1 : ((1 : Nat) : Int) = 1 := rfl
  rw [hz1] at HRD
  have hinf : infF bits = r.1 := by unfold infF; rw [hr]
  obtain ⟨I, hI⟩ : ∃ I, infF bits = I := ⟨_, rfl⟩
  have hI2 : r.1 = I := by rw [← hinf, hI]
  rw [hI2] at HRD
  obtain ⟨N, hN⟩ : ∃ N, Fl.canon bits = N := ⟨_, rfl⟩
  rw [hN] at HCA
  obtain ⟨R, hR⟩ : ∃ R, magF bits s.data.toList = R := ⟨_, rfl⟩
  rw [hR]
  unfold magF at hR
  rw [hI, hN] at hR
  have HM := Lib.hid hm
  clear hr hz1 hinf hI2 hm
  by_cases h1 : s.data.toList = [105, 110, 102]
  · rw [if_pos h1] at hR
    have HRR := Lib.hid hR
    have e1 : (s.toList == [105, 110, 102]) = true := by rw [Go.ByteArray.toList_eq, h1]; rfl
    clear hR h1 hI hN
    go_enter Tryz.func32, Tryz.ntmps32
    go_wp2_with (first | (go_at_call 36; refine (HCA.out _).mono ?_; rintro x w1 ⟨rfl, hb⟩; have HB1 := Lib.hid hb; clear hb) | (go_at_call 37; refine (HRD.out _).mono ?_; rintro x w2 ⟨rfl, hb⟩; have HB2 := Lib.hid (below_step HB1.out hb); clear hb))
    go_ret2
    exact ⟨by rw [← HRR.out]; rfl, HB2.out⟩
  · rw [if_neg h1] at hR
    have e1 : (s.toList == [105, 110, 102]) = false := by rw [Go.ByteArray.toList_eq]; simpa using h1
    clear h1
    by_cases h2 : s.data.toList = [110, 97, 110]
    · rw [if_pos h2] at hR
      have HRR := Lib.hid hR
      have e2 : (s.toList == [110, 97, 110]) = true := by rw [Go.ByteArray.toList_eq, h2]; rfl
      clear hR h2 hI hN
      go_enter Tryz.func32, Tryz.ntmps32
      go_wp2_with (first | (go_at_call 36; refine (HCA.out _).mono ?_; rintro x w1 ⟨rfl, hb⟩; have HB1 := Lib.hid hb; clear hb) | (go_at_call 37; refine (HRD.out _).mono ?_; rintro x w2 ⟨rfl, hb⟩; have HB2 := Lib.hid (below_step HB1.out hb); clear hb))
      go_ret2
      exact ⟨by rw [← HRR.out]; rfl, HB2.out⟩
    · rw [if_neg h2] at hR
      have e2 : (s.toList == [110, 97, 110]) = false := by rw [Go.ByteArray.toList_eq]; simpa using h2
      clear h2
      cases h3 : Lib.hasPrefix s.data.toList nanL
      · rw [h3, if_neg (by decide)] at hR
        have HCP := Lib.hid (fun w => cutp_c s [110, 97, 110, 58, 48, 120] false _ h3 rfl w)
        obtain ⟨u, hu⟩ : ∃ u, Lib.trimPrefix s.data.toList [110, 97, 110, 58, 48, 120] = u := ⟨_, rfl⟩
        rw [hu] at HCP
        obtain ⟨hex, hhex⟩ : ∃ hex, (hexF s.data.toList).1 = hex := ⟨_, rfl⟩
        obtain ⟨t, ht⟩ : ∃ t, (hexF s.data.toList).2 = t := ⟨_, rfl⟩
        have HC2 := Lib.hid (fun w => cutp_c s [48, 120] hex t hhex ht w)
        have htl : t.length ≤ s.size := by rw [← ht, ← len_data]; exact trim_len _ _
        rw [hhex, ht] at hR
        have HRR := Lib.hid hR
        have HIN := Lib.hid hI
        clear hR ht hhex hu h3 hI hN
        go_enter Tryz.func32, Tryz.ntmps32
        go_upto_if 91 with (first | (go_at_call 36; refine (HCA.out _).mono ?_; rintro x w1 ⟨rfl, hb⟩; have HB1 := Lib.hid hb; clear hb) | (go_at_call 37; refine (HRD.out _).mono ?_; rintro x w2 ⟨rfl, hb⟩; have HB2 := Lib.hid (below_step HB1.out hb); clear hb) | (go_at_call 23; with_reducible refine (HCP.out _).mono ?_; rintro x w' ⟨rfl, rfl⟩) | (go_at_call 23; with_reducible refine (HC2.out _).mono ?_; rintro x w' ⟨rfl, rfl⟩))
        go_cut [17] (fun v17 wc => v17 = .string ⟨#[mk1 hex, mk2 hex]⟩ ∧ Below w.heap.size w wc)
        case first =>
          cases hex
          · go_wp2
            go_meet
            case rel => exact ⟨rfl, HB2.out⟩
          · go_wp2
            go_meet
            case rel => exact ⟨rfl, HB2.out⟩
        case rest =>
          obtain ⟨rfl, hb3⟩ := hcut
          have HB3 := Lib.hid hb3
          clear hb3 HCP HC2
          obtain ⟨T, hT⟩ : ∃ T : ByteArray, T = ⟨t.toArray⟩ := ⟨_, rfl⟩
          have hTt : T.data.toList = t := by rw [hT, arr_self]
          have hTs : T.size = t.length := by rw [hT, size_arr]
          rw [← hT]
          have hTI : (T.size : Int) ≤ 900000 := by omega
          have HTS := Lib.hid hTs
          have HTT := Lib.hid hTt
          have HEX : Hid (T = ⟨t.toArray⟩) := Lib.hid hT
          clear hTs hTt hT
          obtain ⟨Mk, hMk⟩ : ∃ Mk : ByteArray, Mk = ⟨#[mk1 hex, mk2 hex]⟩ := ⟨_, rfl⟩
          have hMs : Mk.size = 2 := by rw [hMk]; rfl
          have hM0 : Mk[0]'(by omega) = mk1 hex := by subst hMk; rfl
          have hM1 : Mk[1]'(by omega) = mk2 hex := by subst hMk; rfl
          have hI0 : (0 : Int) < (Mk.size : Int) := by omega
          have hI1 : (1 : Int) < (Mk.size : Int) := by omega
          rw [← hMk]
          have HM0 := Lib.hid hM0
          have HM1 := Lib.hid hM1
          clear hMk hM0 hM1
          go_upto_block 1 with fail
          go_cut [18, 19] (fun v18 v19 wc => v18 = .string ⟨(manF hex t).toArray⟩ ∧ v19 = .string ⟨(powF hex t).toArray⟩ ∧ Below w.heap.size w wc)
          case first =>
            have HA : Hid (MkR w hex T (.string T) (.string ⟨#[48]⟩) (.int .i64 0) wc) := Lib.hid ⟨0, rfl, rfl, rfl, Nat.zero_le _, fun c hc => by simp at hc, HB3.out⟩
            go_wp2
            go_loopw [18, 19, 95] (MkR w hex T) (fun _ _ v95 _ => T.size - numV v95)
            case atStart => exact HA.out
            case round =>
              obtain ⟨i, rfl, rfl, rfl, hi, hall, hb⟩ := hrel
              have HB := Lib.hid hb
              have HALL := Lib.hid hall
              have hi0 : 0 ≤ (i : Int) := by omega
              clear hb hall HA
              by_cases hlt : i < T.size
              · have hlt' : (i : Int) < (T.size : Int) := by omega
                have hdr := drop_at T i hlt
                cases hno : noMk hex T[i]
                · have htw : T.data.toList.takeWhile (noMk hex) = T.data.toList.take i := tw_at (noMk hex) _ i HALL.out (.inr ⟨T[i], _, hdr, hno⟩)
                  have HMA : Hid ((⟨(manF hex t).toArray⟩ : ByteArray) = T.extract 0 i) := Lib.hid (by
                    unfold manF
                    rw [← HTT.out, htw]
                    have h := ext_l T.data.toList 0 i
                    have e : (⟨T.data.toList.toArray⟩ : ByteArray) = T := by cases T; simp
                    rw [e] at h
                    rw [h]
                    simp)
                  have HPO : Hid ((⟨(powF hex t).toArray⟩ : ByteArray) = T.extract (i + 1) T.size) := Lib.hid (by
                    unfold powF
                    rw [← HTT.out, htw]
                    have hl : (T.data.toList.take i).length = i := by rw [List.length_take, len_data]; omega
                    rw [hl, if_pos (by rw [len_data]; exact hlt)]
                    have h := ext_l T.data.toList (i + 1) T.size
                    have e : (⟨T.data.toList.toArray⟩ : ByteArray) = T := by cases T; simp
                    rw [e] at h
                    rw [h, List.take_of_length_le (by rw [List.length_drop, len_data]; omega)])
                  have hi1 : (i : Int) + 1 ≤ (T.size : Int) := by omega
                  have hi2 : ((i : Int) + 1).toNat = i + 1 := by omega
                  by_cases hm1 : T[i] = mk1 hex
                  · have q1 : ((T[i].toNat : Int) == ((Mk[0]'(by omega)).toNat : Int)) = true := by rw [hm1, HM0.out]; simp
                    clear hm1 hno htw hdr
                    go_wp2
                    go_quiet (fail)
                    go_wp2
                    go_quiet (fail)
                    go_wp2
                    go_meet
                    case rel => exact ⟨by rw [HMA.out], by rw [HPO.out], pw_below_drewN (pw_below_drewN HB.out _) _⟩
                  · have q1 : ((T[i].toNat : Int) == ((Mk[0]'(by omega)).toNat : Int)) = false := by
                      simp only [beq_eq_false_iff_ne, ne_eq]
                      intro h
                      exact hm1 (UInt8.toNat_inj.1 (by rw [← HM0.out]; omega))
                    have hm2 : T[i] = mk2 hex := by
                      unfold noMk at hno
                      have : (T[i] == mk1 hex) = false := by simpa using hm1
                      rw [this] at hno
                      simpa using hno
                    have q2 : ((T[i].toNat : Int) == ((Mk[1]'(by omega)).toNat : Int)) = true := by rw [hm2, HM1.out]; simp
                    clear hm1 hm2 hno htw hdr
                    go_wp2
                    go_quiet (fail)
                    go_wp2
                    go_quiet (fail)
                    go_wp2
                    go_meet
                    case rel => exact ⟨by rw [HMA.out], by rw [HPO.out], pw_below_drewN (pw_below_drewN HB.out _) _⟩
                · have hne : T[i] ≠ mk1 hex ∧ T[i] ≠ mk2 hex := by
                    unfold noMk at hno
                    simpa using hno
                  have q1 : ((T[i].toNat : Int) == ((Mk[0]'(by omega)).toNat : Int)) = false := by
                    simp only [beq_eq_false_iff_ne, ne_eq]
                    intro h
                    exact hne.1 (UInt8.toNat_inj.1 (by rw [← HM0.out]; omega))
                  have q2 : ((T[i].toNat : Int) == ((Mk[1]'(by omega)).toNat : Int)) = false := by
                    simp only [beq_eq_false_iff_ne, ne_eq]
                    intro h
                    exact hne.2 (UInt8.toNat_inj.1 (by rw [← HM1.out]; omega))
                  have HALL2 : Hid (∀ c ∈ T.data.toList.take (i + 1), noMk hex c = true) := Lib.hid (by
                    intro c hc
                    have hl : i < T.data.toList.length := by rw [len_data]; exact hlt
                    rw [List.take_add_one, List.getElem?_eq_getElem hl] at hc
                    rcases List.mem_append.1 hc with hc | hc
                    · exact HALL.out c hc
                    · have : c = T.data.toList[i] := by simpa using hc
                      rw [this]
                      exact hno)
                  clear hne hno hdr
                  go_wp2
                  go_quiet (fail)
                  go_wp2
                  go_roundw
                  case rel => exact ⟨i + 1, rfl, rfl, by push_cast; rfl, by omega, HALL2.out, pw_below_drewN HB.out _⟩
                  case measure => simp only [numV]; omega
              · have hge : (T.size : Int) ≤ (i : Int) := by omega
                have htw : T.data.toList.takeWhile (noMk hex) = T.data.toList := by
                  have h := tw_at (noMk hex) _ i HALL.out (.inl (drop_end T i (by omega)))
                  rw [h, List.take_of_length_le (by rw [len_data]; omega)]
                have HMA : Hid ((⟨(manF hex t).toArray⟩ : ByteArray) = T) := Lib.hid (by
                  unfold manF
                  rw [← HTT.out, htw])
                have HPO : Hid ((⟨(powF hex t).toArray⟩ : ByteArray) = ⟨#[48]⟩) := Lib.hid (by
                  unfold powF
                  rw [← HTT.out, htw, if_neg (by omega)])
                clear htw hlt
                go_wp2
                go_meet
                case rel => exact ⟨by rw [HMA.out], by rw [HPO.out], HB.out⟩
          case rest =>
            obtain ⟨rfl, rfl, hb4⟩ := hcut
            have HB4 := Lib.hid hb4
            have hR := HRR.out
            unfold numF at hR
            have hMl : (manF hex t).length ≤ 900000 := by
              have : (manF hex t).length ≤ t.length := (List.takeWhile_prefix _).length_le
              omega
            have hPl : (powF hex t).length ≤ 900001 := by
              unfold powF
              split
              · rw [List.length_drop]; omega
              · simp
            generalize manF hex t = M at *
            generalize powF hex t = P at *
            have hcl := cut_len M 46
            obtain ⟨c, hc⟩ : ∃ c, Lib.cut M [46] = c := ⟨_, rfl⟩
            have HCU := Lib.hid (fun w hm => cutL_c M hMl c hc w hm)
            rw [hc] at hR hcl
            obtain ⟨c1, c2, c3⟩ := c
            simp only at hR hcl HCU
            obtain ⟨A, hA⟩ : ∃ A, rowF c1 hex = A := ⟨_, rfl⟩
            obtain ⟨B, hB⟩ : ∃ B, rowF c2 hex = B := ⟨_, rfl⟩
            obtain ⟨S, hS⟩ : ∃ S, signF P = S := ⟨_, rfl⟩
            have hSl := signF_len P
            have hAl := rowF_len c1 hex
            have hBl := rowF_len c2 hex
            have hAh := rowF_hex c1 hex
            have hBh := rowF_hex c2 hex
            have hAd : hex = false → ∀ c ∈ A.1, isdec c = true := fun h => by rw [← hA, h]; exact rowF_dec c1
            have hBd : hex = false → ∀ c ∈ B.1, isdec c = true := fun h => by rw [← hB, h]; exact rowF_dec c2
            have HR1 := Lib.hid (fun w hm => rowL_c c1 (by omega) hex A hA w hm)
            have HR2 := Lib.hid (fun w hm => rowL_c c2 (by omega) hex B hB w hm)
            rw [hA] at hR hAl hAh
            rw [hB] at hR hBl hBh
            rw [hS] at hR hSl
            obtain ⟨sn, sp⟩ := S
            have HSG := Lib.hid (fun w => signL_c P sn sp hS w)
            obtain ⟨C, hC⟩ : ∃ C, rowF sp false = C := ⟨_, rfl⟩
            have hCd := rowF_dec sp
            have hCl := rowF_len sp false
            simp only at hR hSl
            have HR3 := Lib.hid (fun w hm => rowL_c sp (by omega) false C hC w hm)
            rw [hC] at hR hCd hCl
            obtain ⟨ad, ab⟩ := A
            obtain ⟨bd, bb⟩ := B
            obtain ⟨cd, cb⟩ := C
            simp only at hR hAl hBl hAh hBh hAd hBd hCd hCl
            obtain ⟨ce, hce⟩ : ∃ ce, c2.isEmpty = ce := ⟨_, rfl⟩
            obtain ⟨good, hgood⟩ : ∃ g, (ab && (bb || ce) && cb) = g := ⟨_, rfl⟩
            have HX : Hid ((ad.length + bd.length ≤ 900000 ∧ cd.length ≤ 900001) ∧ (∀ c ∈ ad ++ bd, ishex c = true) ∧ (hex = false → ∀ c ∈ ad ++ bd, isdec c = true) ∧ (∀ c ∈ cd, isdec c = true)) := Lib.hid
              ⟨⟨by omega, by omega⟩, fun c hc => by rcases List.mem_append.1 hc with h | h; exact hAh c h; exact hBh c h, fun h c hc => by rcases List.mem_append.1 hc with h' | h'; exact hAd h c h'; exact hBd h c h', hCd⟩
            have HGOOD : Hid (good = true → (let e : Int := expF 0 cd
              let e2 : Int := if sn = true then -e else e
              let out : Int := if hex = true then binF bits (ad ++ bd) (e2 - 4 * (bd.length : Int)) else decF bits (ad ++ bd) (e2 - (bd.length : Int))
              ((out, decide (out < infF bits)) : Int × Bool)) = R) := Lib.hid (fun hg => by
              rw [← hR, if_pos]
              rw [← hgood] at hg
              simp only [Bool.and_eq_true, Bool.or_eq_true] at hg
              refine ⟨hg.1.1, ?_, hg.2⟩
              rcases hg.1.2 with h | h
              · exact .inl h
              · rw [← hce] at h
                exact .inr (List.isEmpty_iff.1 h))
            have HBAD : Hid (good = false → R = (0, false)) := Lib.hid (fun hg => by
              rw [← hR, if_neg]
              rintro ⟨h1, h2, h3⟩
              rw [← hgood] at hg
              have : (bb || ce) = true := by
                rcases h2 with h | h
                · rw [h]; rfl
                · rw [← hce, h]; simp
              rw [h1, this, h3] at hg
              cases hg)
            have HII := HIN
            clear hb4 hR hMl hPl hcl hc hA hB hS hSl hAl hBl hAh hBh hAd hBd hC hCd hCl HRR HIN
            go_upto_region 28 with (first | (go_at_call 63; refine (HCU.out _ (HM.out.below HB4.out)).mono ?_; rintro x w5 ⟨rfl, hb⟩; have HB5 := Lib.hid (below_step HB4.out hb); clear hb) | (go_at_call 24; with_reducible refine (HR1.out _ (HM.out.below HB5.out)).mono ?_; intro x w6 hq; obtain ⟨hx, hb⟩ := hq.out; subst hx; have HB6 := Lib.hid (below_step HB5.out hb); clear hq hb) | (go_at_call 24; with_reducible refine (HR2.out _ (HM.out.below HB6.out)).mono ?_; intro x w7 hq; obtain ⟨hx, hb⟩ := hq.out; subst hx; have HB7 := Lib.hid (below_step HB6.out hb); clear hq hb) | (go_at_call 22; refine (HSG.out _).mono ?_; rintro x w' ⟨rfl, rfl⟩) | (go_at_call 24; with_reducible refine (HR3.out _ (HM.out.below HB7.out)).mono ?_; intro x w8 hq; obtain ⟨hx, hb⟩ := hq.out; subst hx; have HB8 := Lib.hid (below_step HB7.out hb); clear hq hb))
            go_cut [161] (fun v161 wc => v161 = .bool (!good) ∧ Below w.heap.size w wc)
            case first =>
              subst hgood
              clear HX HGOOD HBAD HR1 HR2 HR3 HCU HSG
              cases ab
              · go_wp2
                go_meet
                case rel => exact ⟨rfl, HB8.out⟩
              · cases bb
                · cases ce
                  · go_wp2
                    go_meet
                    case rel => exact ⟨rfl, HB8.out⟩
                  · cases cb
                    · go_wp2
                      go_meet
                      case rel => exact ⟨rfl, HB8.out⟩
                    · go_wp2
                      go_meet
                      case rel => exact ⟨rfl, HB8.out⟩
                · cases cb
                  · go_wp2
                    go_meet
                    case rel => exact ⟨rfl, HB8.out⟩
                  · go_wp2
                    go_meet
                    case rel => exact ⟨rfl, HB8.out⟩
            case rest =>
              obtain ⟨rfl, hb9⟩ := hcut
              have HB9 := Lib.hid hb9
              clear hb9 hgood hce HR1 HR2 HR3 HCU HSG HB8 HB7 HB6 HB5 HB4 HB3
              cases good
              · have HRB := Lib.hid (HBAD.out rfl)
                clear HGOOD HBAD
                go_wp2
                go_ret2
                exact ⟨by rw [HRB.out]; rfl, HB9.out⟩
              · have HRG := Lib.hid (HGOOD.out rfl)
                clear HGOOD HBAD
                obtain ⟨S, hS⟩ : ∃ S : ByteArray, S = ⟨cd.toArray⟩ := ⟨_, rfl⟩
                have HSS : Hid (S.data.toList = cd) := Lib.hid (by rw [hS, arr_self])
                rw [← hS]
                obtain ⟨EX, hEX⟩ : ∃ EX, expF 0 cd = EX := ⟨_, rfl⟩
                have hEXl : EX ≤ 1000000000 := by rw [← hEX]; exact expF_le cd 0 (by omega)
                rw [hEX] at HRG
                have HE0 : Hid (expF 0 (S.data.toList.drop 0) = EX) := Lib.hid (by rw [List.drop_zero, HSS.out, hEX])
                clear hS hEX
                go_wp2
                go_loopw [32] (fun v32 w' => ∃ pos n : Nat, v32 = .int .i64 (n : Int) ∧ n ≤ 1000000000 ∧ pos ≤ S.size ∧ w' = wc.iter S pos ∧ Hid (expF n (S.data.toList.drop pos) = EX)) (fun _ w' => S.size - w'.iterPos wc.heap.size)
                case atStart => exact ⟨0, 0, rfl, by omega, Nat.zero_le _, rfl, HE0⟩
                case round =>
                  obtain ⟨pos, n, rfl, hn, hps, rfl, hc⟩ := hrel
                  have hnI : (n : Int) ≤ 1000000000 := by omega
                  by_cases hp : pos < S.size
                  · have hdr := drop_at S pos hp
                    obtain ⟨c1', c2', c3'⟩ := dec_hex _ (HX.out.2.2.2 S[pos] (by
                      rw [← HSS.out]
                      exact List.mem_of_mem_drop (i := pos) (by rw [hdr]; exact List.mem_cons_self)))
                    have hdec := decode_ascii S pos hp (by omega)
                    have hnx : ∀ ty, (Instr.next (.pointer (some ⟨wc.heap.size, 0, none⟩)) true ty).run Tryz.prog (wc.iter S pos) = _ := fun ty => run_next_any wc S pos ty hp
                    rw [hdec] at hnx
                    have HE2 : Hid (expF (min (10 * n + (S[pos].toNat - 48)) 1000000000) (S.data.toList.drop (pos + 1)) = EX) := Lib.hid (by
                      have h := hc.out
                      rw [hdr] at h
                      exact h)
                    generalize S[pos].toNat = x at *
                    clear hdr hdec hc c3'
                    go_wp2
                    go_roundw
                    case rel => exact ⟨pos + 1, min (10 * n + (x - 48)) 1000000000, by congr 1; omega, Nat.min_le_right _ _, by omega, rfl, HE2⟩
                    case measure => rw [World.iterPos_iter, World.iterPos_iter]; omega
                  · have hnx : ∀ ty, (Instr.next (.pointer (some ⟨wc.heap.size, 0, none⟩)) true ty).run Tryz.prog (wc.iter S pos) = _ := fun ty => run_next_end wc S pos ty hp
                    have hEn : n = EX := by
                      have h := hc.out
                      rw [drop_end S pos (by omega)] at h
                      exact h
                    subst hEn
                    obtain ⟨⟨hal, hcl⟩, hah, hbh, _⟩ := HX.out
                    have happ := ba_app1 ad bd
                    have hs1 : (⟨ad.toArray⟩ : ByteArray).size = ad.length := size_arr _
                    have hs2 : (⟨bd.toArray⟩ : ByteArray).size = bd.length := size_arr _
                    have hn0 : 0 ≤ (n : Int) := by omega
                    have hbI : (bd.length : Int) ≤ 900000 := by omega
                    have HBI := Lib.hid (below_step HB9.out (iter_bel wc S pos))
                    clear hc HX HE0 hEXl hp
                    cases sn
                    · cases hex
                      · have HFX := Lib.hid (fun w => decimal_c bits ⟨(ad ++ bd).toArray⟩ ((n : Int) - (bd.length : Int)) (by rw [size_arr, List.length_append]; omega) (by rw [arr_self]; exact hbh rfl) (by omega) (by omega) w)
                        rw [arr_self] at HFX
                        obtain ⟨O, hO⟩ : ∃ O, decF bits (ad ++ bd) ((n : Int) - (bd.length : Int)) = O := ⟨_, rfl⟩
                        rw [hO] at HFX
                        have HRF : Hid ((O, decide (O < I)) = R) := Lib.hid (by
                          rw [← HRG.out, HII.out, ← hO]
                          rfl)
                        clear hO
                        go_wp2_with (go_at_call 65; refine (HFX.out _).mono ?_; intro x w10 hq; obtain ⟨hx, hb⟩ := hq.out; subst hx; have HB10 := Lib.hid (below_step HBI.out hb); clear hq hb)
                        go_ret2
                        exact ⟨by rw [← HRF.out]; rfl, HB10.out⟩
                      · have HFX := Lib.hid (fun w => binary_c bits ⟨(ad ++ bd).toArray⟩ ((n : Int) - 4 * (bd.length : Int)) (by rw [size_arr, List.length_append]; omega) (by rw [arr_self]; exact hah) (by omega) (by omega) w)
                        rw [arr_self] at HFX
                        obtain ⟨O, hO⟩ : ∃ O, binF bits (ad ++ bd) ((n : Int) - 4 * (bd.length : Int)) = O := ⟨_, rfl⟩
                        rw [hO] at HFX
                        have HRF : Hid ((O, decide (O < I)) = R) := Lib.hid (by
                          rw [← HRG.out, HII.out, ← hO]
                          rfl)
                        clear hO
                        go_wp2_with (go_at_call 64; refine (HFX.out _).mono ?_; intro x w10 hq; obtain ⟨hx, hb⟩ := hq.out; subst hx; have HB10 := Lib.hid (below_step HBI.out hb); clear hq hb)
                        go_ret2
                        exact ⟨by rw [← HRF.out]; rfl, HB10.out⟩
                    · cases hex
                      · have HFX := Lib.hid (fun w => decimal_c bits ⟨(ad ++ bd).toArray⟩ (-(n : Int) - (bd.length : Int)) (by rw [size_arr, List.length_append]; omega) (by rw [arr_self]; exact hbh rfl) (by omega) (by omega) w)
                        rw [arr_self] at HFX
                        obtain ⟨O, hO⟩ : ∃ O, decF bits (ad ++ bd) (-(n : Int) - (bd.length : Int)) = O := ⟨_, rfl⟩
                        rw [hO] at HFX
                        have HRF : Hid ((O, decide (O < I)) = R) := Lib.hid (by
                          rw [← HRG.out, HII.out, ← hO]
                          rfl)
                        clear hO
                        go_wp2_with (go_at_call 65; refine (HFX.out _).mono ?_; intro x w10 hq; obtain ⟨hx, hb⟩ := hq.out; subst hx; have HB10 := Lib.hid (below_step HBI.out hb); clear hq hb)
                        go_ret2
                        exact ⟨by rw [← HRF.out]; rfl, HB10.out⟩
                      · have HFX := Lib.hid (fun w => binary_c bits ⟨(ad ++ bd).toArray⟩ (-(n : Int) - 4 * (bd.length : Int)) (by rw [size_arr, List.length_append]; omega) (by rw [arr_self]; exact hah) (by omega) (by omega) w)
                        rw [arr_self] at HFX
                        obtain ⟨O, hO⟩ : ∃ O, binF bits (ad ++ bd) (-(n : Int) - 4 * (bd.length : Int)) = O := ⟨_, rfl⟩
                        rw [hO] at HFX
                        have HRF : Hid ((O, decide (O < I)) = R) := Lib.hid (by
                          rw [← HRG.out, HII.out, ← hO]
                          rfl)
                        clear hO
                        go_wp2_with (go_at_call 64; refine (HFX.out _).mono ?_; intro x w10 hq; obtain ⟨hx, hb⟩ := hq.out; subst hx; have HB10 := Lib.hid (below_step HBI.out hb); clear hq hb)
                        go_ret2
                        exact ⟨by rw [← HRF.out]; rfl, HB10.out⟩
      · rw [h3, if_pos rfl] at hR
        obtain ⟨t, ht⟩ : ∃ t, Lib.trimPrefix s.data.toList [110, 97, 110, 58, 48, 120] = t := ⟨_, rfl⟩
        have HCP := Lib.hid (fun w => cutp_c s [110, 97, 110, 58, 48, 120] true t h3 ht w)
        have htl : t.length ≤ s.size := by rw [← ht, ← len_data]; exact trim_len _ _
        have ht2 : Lib.trimPrefix s.data.toList nanL = t := ht
        rw [ht2] at hR
        unfold nanF nanF.bits_or at hR
        obtain ⟨rr, hrr⟩ : ∃ rr, rowF t true = rr := ⟨_, rfl⟩
        have hrh : ∀ c ∈ rr.1, ishex c = true := by rw [← hrr]; exact rowF_hex t true
        have hrl : rr.1.length ≤ t.length := by rw [← hrr]; exact rowF_len t true
        have HRO := Lib.hid (fun w hm => row_c ⟨t.toArray⟩ true (by rw [size_arr]; omega) w hm rr (by rw [arr_self]; exact hrr))
        rw [hrr, hI, hN] at hR
        obtain ⟨rd, rb⟩ := rr
        simp only at hR hrh hrl
        obtain ⟨K, hK⟩ : ∃ K, numK 16 rd 0 = K := ⟨_, rfl⟩
        rw [hK] at hR
        have HNU := Lib.hid (fun w => number_c ⟨rd.toArray⟩ 16 (.inr rfl) (by rw [arr_self]; exact hrh) (by rw [size_arr]; omega) w K (by rw [arr_self]; exact hK))
        have hz16 : ((16 : Nat) : Int) = 16 := rfl
        rw [hz16] at HNU
        have HRR := Lib.hid hR
        clear hR ht ht2 htl hrr hrh hrl hK hz16 h3 hI hN
        rcases K with _ | n
        · have hor : Go.bits .or .u64 I ((((none : Option Nat).getD 0 : Nat)) : Int) = Go.bits .or .u64 I 0 := rfl
          rw [hor] at HRR
          clear hor
          cases rb
          · go_enter Tryz.func32, Tryz.ntmps32
            go_wp2_with (first | (go_at_call 36; refine (HCA.out _).mono ?_; rintro x w1 ⟨rfl, hb⟩; have HB1 := Lib.hid hb; clear hb) | (go_at_call 37; refine (HRD.out _).mono ?_; rintro x w2 ⟨rfl, hb⟩; have HB2 := Lib.hid (below_step HB1.out hb); clear hb) | (go_at_call 23; refine (HCP.out _).mono ?_; rintro x w' ⟨rfl, rfl⟩) | (go_at_call 24; refine (HRO.out _ (HM.out.below HB2.out)).mono ?_; intro x w3 hq; obtain ⟨hx, hb⟩ := hq.out; subst hx; have HB3 := Lib.hid (below_step HB2.out hb); clear hq hb) | (go_at_call 25; refine (HNU.out _).mono ?_; intro x w4 hq; obtain ⟨hx, hb⟩ := hq.out; replace hx : x = .returned (.tuple #[.int .u64 0, .bool false]) := hx; subst hx; have HB4 := Lib.hid (below_step HB3.out hb); clear hq hb))
            go_ret2
            exact ⟨by rw [← HRR.out]; rfl, HB4.out⟩
          · go_enter Tryz.func32, Tryz.ntmps32
            go_wp2_with (first | (go_at_call 36; refine (HCA.out _).mono ?_; rintro x w1 ⟨rfl, hb⟩; have HB1 := Lib.hid hb; clear hb) | (go_at_call 37; refine (HRD.out _).mono ?_; rintro x w2 ⟨rfl, hb⟩; have HB2 := Lib.hid (below_step HB1.out hb); clear hb) | (go_at_call 23; refine (HCP.out _).mono ?_; rintro x w' ⟨rfl, rfl⟩) | (go_at_call 24; refine (HRO.out _ (HM.out.below HB2.out)).mono ?_; intro x w3 hq; obtain ⟨hx, hb⟩ := hq.out; subst hx; have HB3 := Lib.hid (below_step HB2.out hb); clear hq hb) | (go_at_call 25; refine (HNU.out _).mono ?_; intro x w4 hq; obtain ⟨hx, hb⟩ := hq.out; replace hx : x = .returned (.tuple #[.int .u64 0, .bool false]) := hx; subst hx; have HB4 := Lib.hid (below_step HB3.out hb); clear hq hb))
            go_ret2
            exact ⟨by rw [← HRR.out]; rfl, HB4.out⟩
        · have hn0 : 0 ≤ (n : Int) := by omega
          have hgd : (((some n : Option Nat).getD 0 : Nat) : Int) = (n : Int) := rfl
          cases rb
          · go_enter Tryz.func32, Tryz.ntmps32
            go_wp2_with (first | (go_at_call 36; refine (HCA.out _).mono ?_; rintro x w1 ⟨rfl, hb⟩; have HB1 := Lib.hid hb; clear hb) | (go_at_call 37; refine (HRD.out _).mono ?_; rintro x w2 ⟨rfl, hb⟩; have HB2 := Lib.hid (below_step HB1.out hb); clear hb) | (go_at_call 23; refine (HCP.out _).mono ?_; rintro x w' ⟨rfl, rfl⟩) | (go_at_call 24; refine (HRO.out _ (HM.out.below HB2.out)).mono ?_; intro x w3 hq; obtain ⟨hx, hb⟩ := hq.out; subst hx; have HB3 := Lib.hid (below_step HB2.out hb); clear hq hb) | (go_at_call 25; refine (HNU.out _).mono ?_; intro x w4 hq; obtain ⟨hx, hb⟩ := hq.out; replace hx : x = .returned (.tuple #[.int .u64 (n : Int), .bool true]) := hx; subst hx; have HB4 := Lib.hid (below_step HB3.out hb); clear hq hb))
            go_ret2
            exact ⟨by rw [← HRR.out]; rfl, HB4.out⟩
          · by_cases hn : 0 < n
            · have hn' : 0 < (n : Int) := by omega
              have hd : decide (0 < n) = true := decide_eq_true hn
              have HRR2 : Hid ((Go.bits .or .u64 I (n : Int), decide ((n : Int) < IntKind.u64.wrap (IntKind.u64.wrap (N - I) * 2))) = R) := Lib.hid (by
                rw [← HRR.out]
                show _ = (_, true && true && decide (0 < n) && decide ((n : Int) < _))
                rw [hd]; rfl)
              clear hd HRR hn
              go_enter Tryz.func32, Tryz.ntmps32
              go_wp2_with (first | (go_at_call 36; refine (HCA.out _).mono ?_; rintro x w1 ⟨rfl, hb⟩; have HB1 := Lib.hid hb; clear hb) | (go_at_call 37; refine (HRD.out _).mono ?_; rintro x w2 ⟨rfl, hb⟩; have HB2 := Lib.hid (below_step HB1.out hb); clear hb) | (go_at_call 23; refine (HCP.out _).mono ?_; rintro x w' ⟨rfl, rfl⟩) | (go_at_call 24; refine (HRO.out _ (HM.out.below HB2.out)).mono ?_; intro x w3 hq; obtain ⟨hx, hb⟩ := hq.out; subst hx; have HB3 := Lib.hid (below_step HB2.out hb); clear hq hb) | (go_at_call 25; refine (HNU.out _).mono ?_; intro x w4 hq; obtain ⟨hx, hb⟩ := hq.out; replace hx : x = .returned (.tuple #[.int .u64 (n : Int), .bool true]) := hx; subst hx; have HB4 := Lib.hid (below_step HB3.out hb); clear hq hb))
              go_ret2
              exact ⟨by rw [← HRR2.out]; rfl, HB4.out⟩
            · have hn0' : n = 0 := by omega
              subst hn0'
              have HRR2 : Hid ((Go.bits .or .u64 I ((0 : Nat) : Int), false) = R) := Lib.hid (by
                rw [← HRR.out]
                rfl)
              have hz0 : ((0 : Nat) : Int) = 0 := rfl
              rw [hz0] at HRR2
              clear hn HRR hgd hn0 hz0
              go_enter Tryz.func32, Tryz.ntmps32
              go_wp2_with (first | (go_at_call 36; refine (HCA.out _).mono ?_; rintro x w1 ⟨rfl, hb⟩; have HB1 := Lib.hid hb; clear hb) | (go_at_call 37; refine (HRD.out _).mono ?_; rintro x w2 ⟨rfl, hb⟩; have HB2 := Lib.hid (below_step HB1.out hb); clear hb) | (go_at_call 23; refine (HCP.out _).mono ?_; rintro x w' ⟨rfl, rfl⟩) | (go_at_call 24; refine (HRO.out _ (HM.out.below HB2.out)).mono ?_; intro x w3 hq; obtain ⟨hx, hb⟩ := hq.out; subst hx; have HB3 := Lib.hid (below_step HB2.out hb); clear hq hb) | (go_at_call 25; refine (HNU.out _).mono ?_; intro x w4 hq; obtain ⟨hx, hb⟩ := hq.out; replace hx : x = .returned (.tuple #[.int .u64 0, .bool true]) := hx; subst hx; have HB4 := Lib.hid (below_step HB3.out hb); clear hq hb))
              go_ret2
              exact ⟨by rw [← HRR2.out]; rfl, HB4.out⟩
end Go.Proofs.YtjecdciabpjgcaaGreatDoor.Lz
