/-
  The walk of bodkinlaw18.LexDeep. Condition: the library's variable internal/bytealg.MaxLen holds a number.
-/
import Derived.Test.YtjecdciabpjgcaaDoorLxO
import Derived.Test.YtjecdciabpjgcaaDoorLxP
import Derived.Test.YtjecdciabpjgcaaDoorLxR
namespace Go.Proofs.YtjecdciabpjgcaaDoor.Lx
set_option linter.unusedVariables false
set_option linter.unusedSimpArgs false
open Go.RowKit Go.Proofs.YtjecdciabpjgcaaDoorW.PrintWords Go.Proofs.YtjecdciabpjgcaaDoorW.PrintLast Go.Proofs.YtjecdciabpjgcaaDoor.PLx Go.Proofs.YtjecdciabpjgcaaDoor.Lb

theorem ba_app (a b : List UInt8) : (⟨a.toArray⟩ : ByteArray) ++ ⟨b.toArray⟩ = ⟨(a ++ b).toArray⟩ := by
  apply ByteArray.ext
  rw [ByteArray.data_append]
  simp
theorem brs_o (a : Nat) : (⟨(brs a 0).toArray⟩ : ByteArray) ++ ⟨#[40]⟩ = ⟨(brs (a + 1) 0).toArray⟩ := by
  have := ba_app (brs a 0) [40]
  rw [show (⟨#[40]⟩ : ByteArray) = ⟨[40].toArray⟩ from rfl, this]
  congr 2
  unfold brs
  rw [List.replicate_zero, List.append_nil, List.append_nil, List.replicate_succ']
theorem brs_c (a b : Nat) : (⟨(brs a b).toArray⟩ : ByteArray) ++ ⟨#[41]⟩ = ⟨(brs a (b + 1)).toArray⟩ := by
  have := ba_app (brs a b) [41]
  rw [show (⟨#[41]⟩ : ByteArray) = ⟨[41].toArray⟩ from rfl, this]
  congr 2
  unfold brs
  rw [List.append_assoc, List.replicate_succ']
structure DpQ (w : World) (e : Ending) (w' : World) : Prop where mk ::
  (out : e = .returned (.bool true) ∧ Below w.heap.size w w')
def OpR (d : Nat) (w : World) (v6 v7 : Value) (wr : World) : Prop := ∃ i : Nat, v7 = .int .i64 (i : Int) ∧ i ≤ d ∧ v6 = .string ⟨(brs i 0).toArray⟩ ∧ Below w.heap.size w wr ∧ ML wr
def ClR (d : Nat) (o : Bool) (w : World) (v6 v8 : Value) (wr : World) : Prop := ∃ i : Nat, v8 = .int .i64 (i : Int) ∧ i ≤ d ∧ v6 = .string ⟨(brs d (if o = true then i - 1 else i)).toArray⟩ ∧ Below w.heap.size w wr ∧ ML wr
set_option maxRecDepth 1000000 in
set_option maxHeartbeats 4000000 in
theorem deep_walk (d : Int) (o : Bool) (w : World) (hm : ML w) (hd : (Lit.int .i64 d).wf = true) : Calls Tryd.prog 7 #[.int .i64 d, .bool o] w (DpQ w) := by
  have HM := Lib.hid hm
  clear hm
  go_enter Tryd.func7, Tryd.ntmps7
  go_wp2_with fail
  refine (awake_c w HM.out).mono ?_
  intro e w1 hq
  obtain ⟨he, hb⟩ := hq.out
  subst he
  have HB1 := Lib.hid hb
  have HM1 := Lib.hid (HM.out.below hb)
  clear hq hb HM
  by_cases h1 : d < 0
  · go_wp2
    go_ret
    exact ⟨rfl, HB1.out⟩
  · by_cases h2 : 1100 < d
    · have h1' : 0 ≤ d := by omega
      go_wp2
      go_ret
      exact ⟨rfl, HB1.out⟩
    · obtain ⟨n, rfl⟩ : ∃ n : Nat, d = (n : Int) := ⟨d.toNat, by omega⟩
      have hn : n ≤ 1100 := by omega
      have h2' : (n : Int) ≤ 1100 := by omega
      have h1' : 0 ≤ (n : Int) := by omega
      clear hd h1 h2
      have HA : Hid (OpR n w (.string ⟨#[]⟩) (.int .i64 0) w1) := Lib.hid ⟨0, rfl, Nat.zero_le _, rfl, HB1.out, HM1.out⟩
      go_wp2
      go_loopw [6, 7] (OpR n w) (fun _ v7 wr => n - numOf v7)
      case atStart => exact HA.out
      case round =>
        obtain ⟨i, rfl, hi, rfl, hb, hm⟩ := hrel
        have HBR := Lib.hid hb
        have HMR := Lib.hid hm
        clear hb hm HA HB1 HM1
        by_cases hlt : i < n
        · have hc := brs_o i
          have hs1 : (brs i 0).length = i := by rw [brs_len]; rfl
          have hs2 : (⟨(brs i 0).toArray⟩ : ByteArray).size = i := by show (brs i 0).toArray.size = i; rw [List.size_toArray, hs1]
          go_wp2
          go_roundw
          case rel => exact ⟨i + 1, by push_cast; rfl, by omega, rfl, HBR.out, HMR.out⟩
          case measure => simp only [numOf]; omega
        · have hie : i = n := by omega
          subst hie
          clear hlt hi
          have HA : Hid (ClR i o w (.string ⟨(brs i 0).toArray⟩) (.int .i64 0) wr) := Lib.hid ⟨0, rfl, Nat.zero_le _, by cases o <;> rfl, HBR.out, HMR.out⟩
          go_wp2
          go_loopw [6, 8] (ClR i o w) (fun _ v8 wr => i - numOf v8)
          case atStart => exact HA.out
          case round =>
            obtain ⟨j, rfl, hj, rfl, hb, hm⟩ := hrel
            have HB2 := Lib.hid hb
            have HM2 := Lib.hid hm
            clear hb hm HA HBR HMR
            by_cases hlt : j < i
            · cases o with
              | false =>
                rw [if_neg (by decide)]
                have hc := brs_c i j
                have hs1 : (brs i j).length = i + j := brs_len i j
                have hs2 : (⟨(brs i j).toArray⟩ : ByteArray).size = i + j := by show (brs i j).toArray.size = _; rw [List.size_toArray, hs1]
                go_wp2
                go_roundw
                case rel => exact ⟨j + 1, by push_cast; rfl, by omega, by rw [if_neg (by decide)], HB2.out, HM2.out⟩
                case measure => simp only [numOf]; omega
              | true =>
                rw [if_pos rfl]
                by_cases hj0 : j = 0
                · subst hj0
                  go_wp2
                  go_roundw
                  case rel => exact ⟨1, rfl, by omega, by rw [if_pos rfl], HB2.out, HM2.out⟩
                  case measure => simp only [numOf]; omega
                · obtain ⟨m, rfl⟩ : ∃ m, j = m + 1 := ⟨j - 1, by omega⟩
                  rw [show m + 1 - 1 = m from rfl]
                  have hc := brs_c i m
                  have hs1 : (brs i m).length = i + m := brs_len i m
                  have hs2 : (⟨(brs i m).toArray⟩ : ByteArray).size = i + m := by show (brs i m).toArray.size = _; rw [List.size_toArray, hs1]
                  have hp : 0 < ((m + 1 : Nat) : Int) := by omega
                  go_wp2
                  go_roundw
                  case rel => exact ⟨m + 2, by congr 1, by omega, by rw [if_pos rfl]; rfl, HB2.out, HM2.out⟩
                  case measure => simp only [numOf]; omega
            · have hje : j = i := by omega
              subst hje
              obtain ⟨b, hb⟩ : ∃ b, b = (if o = true then j - 1 else j) := ⟨_, rfl⟩
              rw [← hb]
              have hbj : b ≤ j := by rw [hb]; split <;> omega
              have hsz : (⟨(brs j b).toArray⟩ : ByteArray).size ≤ 1000000 := by show (brs j b).toArray.size ≤ _; rw [List.size_toArray, brs_len]; omega
              have HT := Lib.hid (trees_c _ hsz wr HM2.out)
              have HP := Lib.hid (trees_brs j b hbj)
              have HH := Lib.hid hb
              clear hlt hj hb hbj hsz
              go_wp2_with fail
              refine HT.out.mono ?_
              intro e w3 hq
              obtain ⟨v, he, hR, hb3⟩ := hq.out
              have HB3 := Lib.hid (below_step HB2.out hb3)
              obtain ⟨Av, cv, rfl⟩ := Kd.R_slice hR
              clear hb3 hR HT
              rw [F.to_len] at he
              by_cases hbig : 1000 < j
              · have ht := HP.out.1 hbig
                rw [ht] at he
                subst he
                clear hq
                go_wp2
                go_ret
                exact ⟨rfl, HB3.out⟩
              · by_cases hop : o = true ∧ 0 < j
                · obtain ⟨rfl, hj0⟩ := hop
                  have hbv := HH.out
                  rw [if_pos rfl] at hbv
                  have ht := HP.out.2.1 (by omega) (by omega)
                  rw [ht] at he
                  subst he
                  have hj0' : 0 < (j : Int) := by omega
                  have hbig' : (j : Int) ≤ 1000 := by omega
                  clear hq hbig hbv
                  go_wp2
                  go_ret
                  exact ⟨rfl, HB3.out⟩
                · have hbv := HH.out
                  have hbj : b = j := by
                    rw [hbv]
                    split
                    · rename_i ho
                      have : j = 0 := by
                        rcases Nat.eq_zero_or_pos j with h | h
                        · exact h
                        · exact absurd ⟨ho, h⟩ hop
                      omega
                    · rfl
                  obtain ⟨g, ht, hg⟩ := HP.out.2.2 (by omega) hbj
                  rw [ht] at he
                  simp only [hg] at he
                  have hbig' : (j : Int) ≤ 1000 := by omega
                  cases Nat.eq_zero_or_pos j with
                  | inl h0 =>
                    subst h0
                    rw [if_pos rfl] at he
                    subst he
                    clear hq hbig hbv hop hbj
                    cases o <;> (go_wp2; go_ret; exact ⟨rfl, HB3.out⟩)
                  | inr h0 =>
                    rw [if_neg (by omega)] at he
                    subst he
                    have h0' : 0 < (j : Int) := by omega
                    have hof : o = false := by
                      cases o with
                      | false => rfl
                      | true => exact absurd ⟨rfl, h0⟩ hop
                    subst hof
                    clear hq hbig hbv hop hbj
                    go_wp2
                    go_ret
                    exact ⟨rfl, HB3.out⟩
theorem deep_row (d : Int) (o : Bool) (w : World) (hd : (Lit.int .i64 d).wf = true) (hm : ML w) : Calls Tryd.prog 7 #[.int .i64 d, .bool o] w fun e w' => e = .returned (.bool true) ∧ Below w.heap.size w w' :=
  (deep_walk d o w hm hd).mono fun e w' h => h.out
end Go.Proofs.YtjecdciabpjgcaaDoor.Lx
