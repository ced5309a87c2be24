/-
  The walk of bodkinlaw18.LexQuotes. Condition: the library's variable internal/bytealg.MaxLen holds a number.
-/
import Derived.Test.YtjecdciabpjgcaaDoorLxO
import Derived.Test.YtjecdciabpjgcaaDoorLxR
import Derived.Test.YtjecdciabpjgcaaDoorLxY
import Derived.Test.YtjecdciabpjgcaaDoorLxZ
namespace Go.Proofs.YtjecdciabpjgcaaDoor.Lx
set_option linter.unusedVariables false
set_option linter.unusedSimpArgs false
open Go.RowKit Go.Proofs.YtjecdciabpjgcaaDoorW.PrintWords Go.Proofs.YtjecdciabpjgcaaDoorW.PrintLast Go.Proofs.YtjecdciabpjgcaaDoor.PLx Go.Proofs.YtjecdciabpjgcaaDoor.Lb

theorem quo1_len (c : UInt8) : (quo1 c).length ≤ 3 := by unfold quo1; split <;> simp
theorem quo_len (l : List UInt8) : (quo l).length ≤ 3 * l.length + 2 := by
  have h : (l.flatMap quo1).length ≤ 3 * l.length := by
    induction l with
    | nil => simp
    | cons c l ih =>
      have := quo1_len c
      rw [List.flatMap_cons, List.length_append, List.length_cons]
      omega
  unfold quo
  simp only [List.length_append, List.length_singleton]
  omega
theorem ba_self (s : ByteArray) : (⟨s.data.toList.toArray⟩ : ByteArray) = s := by cases s; simp
set_option maxRecDepth 1000000 in
set_option maxHeartbeats 4000000 in
theorem quotes_row (s : ByteArray) (w : World) (hsz : s.size ≤ 140737488351232) (hm : ML w) : Calls Tryd.prog 5 #[.string s] w fun e w' => e = .returned (.bool true) ∧ Below w.heap.size w w' := by
  have HM := Lib.hid hm
  clear hm
  go_enter Tryd.func5, Tryd.ntmps5
  go_wp2_with fail
  refine (awake_c w HM.out).mono ?_
  intro e w1 hq
  obtain ⟨he, hb⟩ := hq.out
  subst he
  have HB1 := Lib.hid hb
  have HM1 := Lib.hid (HM.out.below hb)
  clear hq hb HM
  by_cases h1 : 3000 < s.size
  · have h1' : 3000 < (s.size : Int) := by omega
    clear h1
    go_wp2
    go_ret
    exact ⟨rfl, HB1.out⟩
  · have h1' : (s.size : Int) ≤ 3000 := by omega
    have hs : s.size ≤ 1000000 := by omega
    have hq : (⟨(quo s.data.toList).toArray⟩ : ByteArray).size ≤ 1000000 := by
      show (quo s.data.toList).toArray.size ≤ _
      rw [List.size_toArray]
      have := quo_len s.data.toList
      rw [len_data] at this
      omega
    have HQ1 := Lib.hid (quote_c s hs w1)
    have HT := Lib.hid (fun w hm => tokens_c ⟨(quo s.data.toList).toArray⟩ hq w hm)
    have HQ2 := Lib.hid (fun w => refQuote_c s hs w)
    clear hq h1
    go_wp2_with fail
    refine HQ1.out.mono ?_
    intro e w2 hq
    obtain ⟨he, hb⟩ := hq.out
    subst he
    have HB2 := Lib.hid (below_step HB1.out hb)
    have HM2 := Lib.hid (HM1.out.below hb)
    clear hq hb
    go_wp2_with fail
    refine (HT.out w2 HM2.out).mono ?_
    intro e w3 hq
    obtain ⟨hb, hor⟩ := hq.out
    rw [tokF_quo] at hor
    rcases hor with ⟨hn, _⟩ | ⟨ks, v, hks, he, ho⟩
    · cases hn
    have hks := (Option.some.inj hks).symm
    subst hks
    subst he
    obtain ⟨g1, c1, rfl, hgb, hgl⟩ : ∃ g c, v = .slice (some ⟨g, 0, none⟩) 1 c ∧ w2.heap.size ≤ g ∧ g < w3.heap.size := by
      rcases own_form ho with ⟨h0, _⟩ | h
      · cases h0
      · exact h
    have HB3 := Lib.hid (below_step HB2.out hb)
    have t := ho.cells (g := g1) rfl
    have t0 := t 0 _ (show (tcl [⟨3, s.data.toList, 0⟩])[0]? = some (.int .i64 3) from rfl)
    have t1 := t 1 _ (show (tcl [⟨3, s.data.toList, 0⟩])[1]? = some (.string ⟨s.data.toList.toArray⟩) from rfl)
    rw [add_plain] at t0 t1
    rw [ba_self] at t1
    clear hq hb ho t HQ1 HT HM1 HM2
    go_wp2_with fail
    refine (HQ2.out w3).mono ?_
    intro e w4 hq
    obtain ⟨he, hb⟩ := hq.out
    subst he
    have HB4 := Lib.hid (below_step HB3.out hb)
    replace t0 := (hb.cell (World.block_lt_of_cell? _ _ t0)).trans t0
    replace t1 := (hb.cell (World.block_lt_of_cell? _ _ t1)).trans t1
    clear hq hb HQ2
    go_wp2
    go_ret
    exact ⟨rfl, HB4.out⟩
end Go.Proofs.YtjecdciabpjgcaaDoor.Lx
