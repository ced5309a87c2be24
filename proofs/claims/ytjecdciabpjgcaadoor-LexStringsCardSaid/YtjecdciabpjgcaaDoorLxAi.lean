/-
  The walks of bodkinlaw18.LexTokens and LexStrings. Condition: the library's variable internal/bytealg.MaxLen holds a number.
-/
import Derived.Test.YtjecdciabpjgcaaDoorLxBa
import Derived.Test.YtjecdciabpjgcaaDoorLxO
import Derived.Test.YtjecdciabpjgcaaDoorLxR
namespace Go.Proofs.YtjecdciabpjgcaaDoor.Lx
set_option linter.unusedVariables false
set_option linter.unusedSimpArgs false
open Go.RowKit Go.Proofs.YtjecdciabpjgcaaDoorW.PrintWords Go.Proofs.YtjecdciabpjgcaaDoorW.PrintLast Go.Proofs.YtjecdciabpjgcaaDoor.PLx Go.Proofs.YtjecdciabpjgcaaDoor.Lb

theorem row_cells {W : World} {base e : Nat} {v : Value} {ks : List Tok} (h : W.ownsRow base e 3 v ks.length (tcl ks)) : ∃ A c, v = .slice A ks.length c ∧ ∀ (i : Nat) (k : Tok), ks[i]? = some k → ∃ g, A = some ⟨g, 0, none⟩ ∧
    W.cell? ⟨g, i * 3, none⟩ = some (.int .i64 k.kind) ∧ W.cell? ⟨g, i * 3 + 1, none⟩ = some (.string ⟨k.text.toArray⟩) ∧ W.cell? ⟨g, i * 3 + 2, none⟩ = some (.int .i64 (k.at_ : Int)) := by
  rcases own_form h with ⟨h0, rfl⟩ | ⟨g, c, rfl, _, _⟩
  · have : ks = [] := List.length_eq_zero_iff.1 h0
    subst this
    exact ⟨none, 0, rfl, fun i k hk => by simp at hk⟩
  · refine ⟨some ⟨g, 0, none⟩, c, rfl, fun i k hk => ⟨g, rfl, ?_⟩⟩
    have hh := fun j (hj : j < 3) => tcl_get ks i j k hk hj
    have hc := fun j u hu => h.cells (g := g) rfl j u hu
    have a0 := hc (i * 3 + 0) _ ((hh 0 (by omega)).trans rfl)
    have a1 := hc (i * 3 + 1) _ ((hh 1 (by omega)).trans rfl)
    have a2 := hc (i * 3 + 2) _ ((hh 2 (by omega)).trans rfl)
    rw [add_plain] at a0 a1 a2
    exact ⟨a0, a1, a2⟩
def LtR (w W : World) (n : Nat) (v8 : Value) (wr : World) : Prop := ∃ i : Nat, v8 = .int .i64 (i : Int) ∧ i ≤ n ∧ Below w.heap.size w wr ∧ Below W.heap.size W wr
theorem cell_b {W wr : World} {p : Addr} {v : Value} (hb : Below W.heap.size W wr) (h : W.cell? p = some v) : wr.cell? p = some v := (hb.cell (World.block_lt_of_cell? _ _ h)).trans h
set_option maxRecDepth 1000000 in
set_option maxHeartbeats 4000000 in
theorem tokens_row (s : ByteArray) (w : World) (hsz : s.size ≤ 140737488351232) (hm : ML w) : Calls Tryd.prog 3 #[.string s] w fun e w' => e = .returned (.bool true) ∧ Below w.heap.size w w' := by
  have HM := Lib.hid hm
  clear hm
  go_enter Tryd.func3, Tryd.ntmps3
  go_wp2_with fail
  refine (awake_c w HM.out).mono ?_
  intro e w1 hq
  obtain ⟨he, hb⟩ := hq.out
  subst he
  have HB1 := Lib.hid hb
  have HM1 := Lib.hid (HM.out.below hb)
  clear hq hb HM
  by_cases h1 : 5000 < s.size
  · have h1' : 5000 < (s.size : Int) := by omega
    clear h1
    go_wp2
    go_ret
    exact ⟨rfl, HB1.out⟩
  · have h1' : (s.size : Int) ≤ 5000 := by omega
    have hs : s.size ≤ 1000000 := by omega
    have HT := Lib.hid (fun w hm => tokens_c s hs w hm)
    have HQ := Lib.hid (fun w => refTok_c s hs w)
    obtain ⟨R, hR⟩ : ∃ R, tokF s = R := ⟨_, rfl⟩
    rw [hR] at HT HQ
    have HL : Hid (∀ ks, R = some ks → ks.length ≤ 1000000) := Lib.hid (fun ks h => Nat.le_trans (tokF_len s ks (hR.trans h)) hs)

    clear hR h1 hs
    go_wp2_with fail
    refine (HT.out w1 HM1.out).mono ?_
    intro e w2 hq
    obtain ⟨hb, hor⟩ := hq.out
    have HB2 := Lib.hid (below_step HB1.out hb)
    clear hq hb HT HM1 HB1
    rcases hor with ⟨hn, he⟩ | ⟨ks, v, hks, he, ho⟩
    · subst he
      subst hn
      clear HL
      go_wp2_with fail
      refine (HQ.out w2).mono ?_
      intro e w3 hq
      obtain ⟨hb, hor⟩ := hq.out
      have HB3 := Lib.hid (below_step HB2.out hb)
      clear hq hb HQ
      rcases hor with ⟨_, he⟩ | ⟨ks, v, hks, he, ho⟩
      · subst he
        have HA : Hid (LtR w w3 0 (.int .i64 0) w3) := Lib.hid ⟨0, rfl, Nat.le_refl _, HB3.out, Below.refl _ _⟩
        go_wp2
        go_loopw [8] (LtR w w3 0) (fun _ _ => 0)
        case atStart => exact HA.out
        case round =>
          obtain ⟨i, rfl, hi, hb, _⟩ := hrel
          have hi0 : i = 0 := by omega
          subst hi0
          have HB4 := Lib.hid hb
          clear hb
          go_wp2
          go_ret
          exact ⟨rfl, HB4.out⟩
      · cases hks
    · subst he
      obtain ⟨n, hn⟩ : ∃ n, ks.length = n := ⟨_, rfl⟩
      have hn2 : n ≤ 1000000 := by rw [← hn]; exact HL.out ks hks
      have HKS := Lib.hid hks
      obtain ⟨A, c, hv, hA⟩ := row_cells ho
      subst hv
      have HA1 := Lib.hid hA
      rw [hn]
      clear hA ho hks HL
      go_wp2_with fail
      refine (HQ.out w2).mono ?_
      intro e w3 hq
      obtain ⟨hb, hor⟩ := hq.out
      have HB3 := Lib.hid (below_step HB2.out hb)
      have HBB := Lib.hid hb
      clear hq hb HQ
      rcases hor with ⟨hn, _⟩ | ⟨ks', v, hks, he, ho⟩
      · rw [HKS.out] at hn; cases hn
      · have e1 : ks' = ks := by rw [HKS.out] at hks; exact (Option.some.inj hks).symm
        subst e1
        subst he
        obtain ⟨B, d, hv, hB⟩ := row_cells ho
        subst hv
        have HA2 := Lib.hid hB
        have HA : Hid (LtR w w3 n (.int .i64 0) w3) := Lib.hid ⟨0, rfl, Nat.zero_le _, HB3.out, Below.refl _ _⟩
        have HNN := Lib.hid hn
        rw [hn]
        clear hB ho hks hn
        go_wp2
        go_loopw [8] (LtR w w3 n) (fun v8 _ => n - numV v8)
        case atStart => exact HA.out
        case round =>
          obtain ⟨i, rfl, hi, hb, hb2⟩ := hrel
          have HB4 := Lib.hid hb
          have HB5 := Lib.hid hb2
          have hi0 : 0 ≤ (i : Int) := by omega
          clear hb hb2 HA
          by_cases hlt : i < n
          · have hlt' : (i : Int) < (n : Int) := by omega
            obtain ⟨k, hk⟩ : ∃ k, ks'[i]? = some k := ⟨ks'[i]'(by have := HNN.out; omega), List.getElem?_eq_getElem _⟩
            obtain ⟨g1, hg1, a0, a1, a2⟩ := HA1.out i k hk
            obtain ⟨g2, hg2, b0, b1, b2⟩ := HA2.out i k hk
            subst hg1
            subst hg2
            replace a0 := cell_b HB5.out (cell_b HBB.out a0)
            replace a1 := cell_b HB5.out (cell_b HBB.out a1)
            replace a2 := cell_b HB5.out (cell_b HBB.out a2)
            replace b0 := cell_b HB5.out b0
            replace b1 := cell_b HB5.out b1
            replace b2 := cell_b HB5.out b2
            clear hk HA1 HA2 HNN
            go_wp2
            go_quiet (fail)
            go_wp2
            go_roundw
            case rel => exact ⟨i + 1, by push_cast; rfl, by omega, pw_below_drewN HB4.out _, pw_below_drewN HB5.out _⟩
            case measure => simp only [numV]; omega
          · have hge : (n : Int) ≤ (i : Int) := by omega
            clear HA1 HA2
            go_wp2
            go_ret
            exact ⟨rfl, HB4.out⟩
set_option maxRecDepth 1000000 in
set_option maxHeartbeats 4000000 in
theorem strings_row (s : ByteArray) (w : World) (hsz : s.size ≤ 140737488351232) (hm : ML w) : Calls Tryd.prog 8 #[.string s] w fun e w' => e = .returned (.bool true) ∧ Below w.heap.size w w' := by
  have HM := Lib.hid hm
  clear hm
  go_enter Tryd.func8, Tryd.ntmps8
  go_wp2_with fail
  refine (awake_c w HM.out).mono ?_
  intro e w1 hq
  obtain ⟨he, hb⟩ := hq.out
  subst he
  have HB1 := Lib.hid hb
  have HM1 := Lib.hid (HM.out.below hb)
  clear hq hb HM
  by_cases h1 : 2000 < s.size
  · have h1' : 2000 < (s.size : Int) := by omega
    clear h1
    go_wp2
    go_ret
    exact ⟨rfl, HB1.out⟩
  · have h1' : (s.size : Int) ≤ 2000 := by omega
    obtain ⟨T, hT⟩ : ∃ T, T = (⟨#[34]⟩ : ByteArray) ++ s ++ ⟨#[34]⟩ := ⟨_, rfl⟩
    have hs : T.size ≤ 1000000 := by rw [hT, ByteArray.size_append, ByteArray.size_append]; show 1 + s.size + 1 ≤ _; omega
    have HT := Lib.hid (fun w hm => tokens_c T hs w hm)
    have HQ := Lib.hid (fun w => refTok_c T hs w)
    obtain ⟨R, hR⟩ : ∃ R, tokF T = R := ⟨_, rfl⟩
    rw [hR] at HT HQ
    have HL : Hid (∀ ks, R = some ks → ks.length ≤ 1000000) := Lib.hid (fun ks h => Nat.le_trans (tokF_len T ks (hR.trans h)) hs)
    rw [hT] at HT HQ
    clear hT hR h1 hs
    go_wp2_with fail
    refine (HT.out w1 HM1.out).mono ?_
    intro e w2 hq
    obtain ⟨hb, hor⟩ := hq.out
    have HB2 := Lib.hid (below_step HB1.out hb)
    clear hq hb HT HM1 HB1
    rcases hor with ⟨hn, he⟩ | ⟨ks, v, hks, he, ho⟩
    · subst he
      subst hn
      clear HL
      go_wp2_with fail
      refine (HQ.out w2).mono ?_
      intro e w3 hq
      obtain ⟨hb, hor⟩ := hq.out
      have HB3 := Lib.hid (below_step HB2.out hb)
      clear hq hb HQ
      rcases hor with ⟨_, he⟩ | ⟨ks, v, hks, he, ho⟩
      · subst he
        have HA : Hid (LtR w w3 0 (.int .i64 0) w3) := Lib.hid ⟨0, rfl, Nat.le_refl _, HB3.out, Below.refl _ _⟩
        go_wp2
        go_loopw [9] (LtR w w3 0) (fun _ _ => 0)
        case atStart => exact HA.out
        case round =>
          obtain ⟨i, rfl, hi, hb, _⟩ := hrel
          have hi0 : i = 0 := by omega
          subst hi0
          have HB4 := Lib.hid hb
          clear hb
          go_wp2
          go_ret
          exact ⟨rfl, HB4.out⟩
      · cases hks
    · subst he
      obtain ⟨n, hn⟩ : ∃ n, ks.length = n := ⟨_, rfl⟩
      have hn2 : n ≤ 1000000 := by rw [← hn]; exact HL.out ks hks
      have HKS := Lib.hid hks
      obtain ⟨A, c, hv, hA⟩ := row_cells ho
      subst hv
      have HA1 := Lib.hid hA
      rw [hn]
      clear hA ho hks HL
      go_wp2_with fail
      refine (HQ.out w2).mono ?_
      intro e w3 hq
      obtain ⟨hb, hor⟩ := hq.out
      have HB3 := Lib.hid (below_step HB2.out hb)
      have HBB := Lib.hid hb
      clear hq hb HQ
      rcases hor with ⟨hn, _⟩ | ⟨ks', v, hks, he, ho⟩
      · rw [HKS.out] at hn; cases hn
      · have e1 : ks' = ks := by rw [HKS.out] at hks; exact (Option.some.inj hks).symm
        subst e1
        subst he
        obtain ⟨B, d, hv, hB⟩ := row_cells ho
        subst hv
        have HA2 := Lib.hid hB
        have HA : Hid (LtR w w3 n (.int .i64 0) w3) := Lib.hid ⟨0, rfl, Nat.zero_le _, HB3.out, Below.refl _ _⟩
        have HNN := Lib.hid hn
        rw [hn]
        clear hB ho hks hn
        go_wp2
        go_loopw [9] (LtR w w3 n) (fun v8 _ => n - numV v8)
        case atStart => exact HA.out
        case round =>
          obtain ⟨i, rfl, hi, hb, hb2⟩ := hrel
          have HB4 := Lib.hid hb
          have HB5 := Lib.hid hb2
          have hi0 : 0 ≤ (i : Int) := by omega
          clear hb hb2 HA
          by_cases hlt : i < n
          · have hlt' : (i : Int) < (n : Int) := by omega
            obtain ⟨k, hk⟩ : ∃ k, ks'[i]? = some k := ⟨ks'[i]'(by have := HNN.out; omega), List.getElem?_eq_getElem _⟩
            obtain ⟨g1, hg1, a0, a1, a2⟩ := HA1.out i k hk
            obtain ⟨g2, hg2, b0, b1, b2⟩ := HA2.out i k hk
            subst hg1
            subst hg2
            replace a0 := cell_b HB5.out (cell_b HBB.out a0)
            replace a1 := cell_b HB5.out (cell_b HBB.out a1)
            replace a2 := cell_b HB5.out (cell_b HBB.out a2)
            replace b0 := cell_b HB5.out b0
            replace b1 := cell_b HB5.out b1
            replace b2 := cell_b HB5.out b2
            clear hk HA1 HA2 HNN
            go_wp2
            go_quiet (fail)
            go_wp2
            go_roundw
            case rel => exact ⟨i + 1, by push_cast; rfl, by omega, pw_below_drewN HB4.out _, pw_below_drewN HB5.out _⟩
            case measure => simp only [numV]; omega
          · have hge : (n : Int) ≤ (i : Int) := by omega
            clear HA1 HA2
            go_wp2
            go_ret
            exact ⟨rfl, HB4.out⟩
end Go.Proofs.YtjecdciabpjgcaaDoor.Lx
