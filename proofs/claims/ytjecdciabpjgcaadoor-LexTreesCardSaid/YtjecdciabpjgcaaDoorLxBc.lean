/-
  The walks of the reference's Trees and of bodkinlaw18.LexTrees. Condition: the library's variable internal/bytealg.MaxLen holds a number.
-/
import Derived.Test.YtjecdciabpjgcaaDoorLxBb
import Derived.Test.YtjecdciabpjgcaaDoorLxBa
import Derived.Test.YtjecdciabpjgcaaDoorLxO
import Derived.Test.YtjecdciabpjgcaaDoorLxR
namespace Go.Proofs.YtjecdciabpjgcaaDoor.Lx
set_option linter.unusedVariables false
set_option linter.unusedSimpArgs false
open Go.RowKit Go.Proofs.YtjecdciabpjgcaaDoorW.PrintWords Go.Proofs.YtjecdciabpjgcaaDoorW.PrintLast Go.Proofs.YtjecdciabpjgcaaDoor.PLx Go.Proofs.YtjecdciabpjgcaaDoor.Lb

theorem read32 {W : World} {base : Nat} {v : Value} {ks : List Tok} (hl : ks.length ≤ 1000000000) (h : W.ownsRow base 32 3 v ks.length (tcl ks)) :
    ∃ A c, v = .slice A (ks.map sTok).length c ∧ (ks.map sTok).length ≤ c ∧ Kd.C k32 W A (ks.map sTok).length (ks.map sTok) := by
  have hl2 := len_sTok ks
  have h0 := h
  rcases h.2 with ⟨rfl, h1⟩ | ⟨g, cap, cur, rfl, hb, hh, hle, _⟩
  · have : ks = [] := List.length_eq_zero_iff.1 h1
    subst this
    exact ⟨none, 0, rfl, Nat.le_refl _, rfl, by simp, fun h => absurd h (by simp)⟩
  · refine ⟨some ⟨g, 0, none⟩, cap, by rw [hl2], by rw [hl2]; exact hle, rfl, by rw [hl2]; omega, fun _ => ⟨⟨g, 0, none⟩, rfl, fun j p hp => ?_⟩⟩
    rw [List.getElem?_map] at hp
    obtain ⟨k, hk, hkp⟩ := Option.map_eq_some_iff.1 hp
    subst hkp
    refine ⟨[.int .i64 k.kind, .string ⟨k.text.toArray⟩, .int .i64 (k.at_ : Int)], rfl, k32_mk W (sTok k), fun i u hu => ?_⟩
    have hi : i < 3 := by
      rcases Nat.lt_or_ge i 3 with h | h
      · exact h
      · rw [List.getElem?_eq_none (by exact h)] at hu; cases hu
    exact h0.cells (g := g) rfl _ _ ((tcl_get ks j i k hk hi).trans hu)
structure RTreeQ (w : World) (R : Int × F) (e : Ending) (w' : World) : Prop where mk ::
  (out : ∃ v, e = .returned (.tuple #[v, .int .i64 R.1]) ∧ Kd.R k62 62 w' w.heap.size (fun _ => True) v R.2.tr ∧ Below w.heap.size w w')
set_option maxRecDepth 1000000 in
set_option maxHeartbeats 4000000 in
theorem refTrees_c (s : ByteArray) (hs : s.size ≤ 1000000) (w : World) : Calls Tryd.prog 13 #[.string s] w (RTreeQ w (treesF s)) := by
  obtain ⟨Y, hY⟩ : ∃ Y, treesF s = Y := ⟨_, rfl⟩
  rw [hY]
  obtain ⟨R, hR⟩ : ∃ R, tokF s = R := ⟨_, rfl⟩
  unfold treesF at hY
  have HT := Lib.hid (fun w => refTok_c s hs w)
  rw [hR] at HT hY
  have HL : Hid (∀ ks, R = some ks → ks.length ≤ 1000000) := Lib.hid (fun ks h => Nat.le_trans (tokF_len s ks (hR.trans h)) hs)
  have HY := Lib.hid hY
  clear hR hY
  go_enter Tryd.func13, Tryd.ntmps13
  go_wp2_with fail
  refine (HT.out w).mono ?_
  intro e w1 hq
  obtain ⟨hb, hor⟩ := hq.out
  have HB1 := Lib.hid hb
  clear hq hb HT
  rcases hor with ⟨hn, he⟩ | ⟨ks, v, hks, he, ho⟩
  · subst he
    subst hn
    have HY2 : Hid (((70 : Int), F.nil) = Y) := Lib.hid HY.out
    clear HL HY
    go_wp2
    go_ret2
    rw [← HY2.out]
    exact ⟨_, rfl, Kd.R_nil _ _ _ _ _, HB1.out⟩
  · subst he
    subst hks
    have hl := HL.out ks rfl
    obtain ⟨A, c, rfl, hc, hC⟩ := read32 (by omega) ho
    obtain ⟨q9, hto⟩ := trees_f ks (by omega) (2 * ks.length + 3) (Nat.le_refl _)
    have HTR := Lib.hid (fun w hr => bodkinref18_trees.calls _ A c (ks.map sTok) 0 0 _ _ _ w hr hc hto)
    have HC := Lib.hid hC
    have hX : mach ks [.nil] = Y := HY.out
    rw [hX] at HTR
    obtain ⟨l, hl2⟩ : ∃ l, ks.map sTok = l := ⟨_, rfl⟩
    rw [hl2] at HTR HC ⊢
    clear ho hto hC hX HY hl2 hc
    go_wp2_with fail
    refine (HTR.out w1 HC.out).mono ?_
    rintro e w2 ⟨v, he, hR, hb⟩
    subst he
    have HB2 := Lib.hid (below_step HB1.out hb)
    have HR2 := Lib.hid (Kd.R_lower hR HB1.out.size)
    clear hR hb HTR HC
    go_wp2
    go_ret2
    exact ⟨_, rfl, HR2.out, HB2.out⟩
set_option maxRecDepth 1000000 in
set_option maxHeartbeats 4000000 in
theorem trees_row (s : ByteArray) (w : World) (hsz : s.size ≤ 140737488351232) (hm : ML w) : Calls Tryd.prog 4 #[.string s] w fun e w' => e = .returned (.bool true) ∧ Below w.heap.size w w' := by
  have HM := Lib.hid hm
  clear hm
  go_enter Tryd.func4, Tryd.ntmps4
  go_wp2_with fail
  refine (awake_c w HM.out).mono ?_
  intro e w1 hq
  obtain ⟨he, hb⟩ := hq.out
  subst he
  have HB1 := Lib.hid hb
  have HM1 := Lib.hid (HM.out.below hb)
  clear hq hb HM
  by_cases h1 : 5000 < s.size
  · have h1' : 5000 < (s.size : Int) := by omega
    clear h1
    go_wp2
    go_ret
    exact ⟨rfl, HB1.out⟩
  · have h1' : (s.size : Int) ≤ 5000 := by omega
    have hs : s.size ≤ 1000000 := by omega
    have HT := Lib.hid (fun w hm => trees_c s hs w hm)
    have HQ := Lib.hid (fun w => refTrees_c s hs w)
    obtain ⟨R, hR⟩ : ∃ R, treesF s = R := ⟨_, rfl⟩
    rw [hR] at HT HQ
    have hcost : R.2.cost ≤ 1000000000000 := by
      rw [← hR]
      unfold treesF
      cases ht : tokF s with
      | none => simp [F.cost]
      | some ks =>
        have := tokF_len s ks ht
        have := mach_cost ks [.nil]
        simp only [List.map_cons, List.map_nil, List.sum_cons, List.sum_nil, F.cost] at this
        show (mach ks [.nil]).2.cost ≤ _
        omega
    have HMO := Lib.hid (model_f R.2 _ hcost (Nat.le_refl _))
    have HSA := Lib.hid (same_f R.2 _ hcost (Nat.le_refl _))
    obtain ⟨e0, f⟩ := R
    simp only at HMO HSA
    clear hR h1 hs hcost
    go_wp2_with fail
    refine (HT.out w1 HM1.out).mono ?_
    intro e w2 hq
    obtain ⟨v, he, hr, hb⟩ := hq.out
    subst he
    have HB2 := Lib.hid (below_step HB1.out hb)
    obtain ⟨A, c, rfl, hl, hC⟩ := Kd.R_reads hr
    have HC := Lib.hid hC
    clear hq hb hr hC HT HM1
    go_wp2_with fail
    refine (HQ.out w2).mono ?_
    intro e w3 hq
    obtain ⟨v, he, hr, hb⟩ := hq.out
    subst he
    have HB3 := Lib.hid (below_step HB2.out hb)
    have HC3 := Lib.hid (Kd.C_below HC.out hb)
    obtain ⟨B, d, rfl, hl2, hD⟩ := Kd.R_reads hr
    have HD := Lib.hid hD
    clear hq hb hr hD HQ HC
    have q : (e0 == e0) = true := by simp
    go_wp2_with fail
    refine (bodkinlaw18_model.calls _ A c f.to f.tr w3 HC3.out hl HMO.out).mono ?_
    rintro e w4 ⟨v, he, hr, hb⟩
    subst he
    have HB4 := Lib.hid (below_step HB3.out hb)
    have HD4 := Lib.hid (Kd.C_below HD.out hb)
    obtain ⟨C, c3, rfl, hl3, hE⟩ := Kd.R_reads hr
    have HE := Lib.hid hE
    clear hb hr hE
    go_wp2_with fail
    refine (bodkinref18_Same.calls _ C c3 f.tr B d f.tr true w4 HE.out hl3 HD4.out hl2 HSA.out).mono ?_
    rintro e w5 ⟨he, hb⟩
    subst he
    have HB5 := Lib.hid (below_step HB4.out hb)
    clear hb
    go_wp2
    go_ret
    exact ⟨rfl, HB5.out⟩
end Go.Proofs.YtjecdciabpjgcaaDoor.Lx
