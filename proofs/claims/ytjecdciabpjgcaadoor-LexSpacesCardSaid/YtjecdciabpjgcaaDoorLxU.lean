/-
  The walk of lex.Trees. Condition: the library's variable internal/bytealg.MaxLen holds a number; the text is no longer than 1000000 bytes.
-/
import Derived.Test.YtjecdciabpjgcaaDoorLxT
import Derived.Test.YtjecdciabpjgcaaDoorWTab
namespace Go.Proofs.YtjecdciabpjgcaaDoor.Lx
set_option linter.unusedVariables false
set_option linter.unusedSimpArgs false
open Go.RowKit Go.Proofs.YtjecdciabpjgcaaDoorW.PrintWords Go.Proofs.YtjecdciabpjgcaaDoorW.PrintLast Go.Proofs.YtjecdciabpjgcaaDoor.PLx Go.Proofs.YtjecdciabpjgcaaDoor.Lb

/-- A text's trees, and the error. -/
def treesF (s : ByteArray) : Int × F := match tokF s with | none => (70, .nil) | some ks => mach ks [.nil]
structure TreeQ (w : World) (R : Int × F) (e : Ending) (w' : World) : Prop where mk ::
  (out : ∃ v, e = .returned (.tuple #[v, .int .i64 R.1]) ∧ k48.R 48 w' w.heap.size (fun _ => True) v R.2.to ∧ Below w.heap.size w w')
theorem tcl_get : ∀ (ks : List Tok) (i j : Nat) (k : Tok), ks[i]? = some k → j < 3 → (tcl ks)[i * 3 + j]? = (tc k)[j]?
  | [], i, j, k, h, hj => by simp at h
  | q :: ks, 0, j, k, h, hj => by
    simp only [List.getElem?_cons_zero, Option.some.injEq] at h
    subst h
    unfold tcl
    rw [List.flatMap_cons, List.getElem?_append_left (by show _ < 3; omega)]
    congr 1; omega
  | q :: ks, i + 1, j, k, h, hj => by
    simp only [List.getElem?_cons_succ] at h
    have := tcl_get ks i j k h hj
    unfold tcl at this ⊢
    rw [List.flatMap_cons, List.getElem?_append_right (by show 3 ≤ _; omega), ← this]
    congr 1
    show _ - 3 = _
    omega
theorem tcl_cell {W : World} {base g c : Nat} {ks : List Tok} (h : W.ownsRow base 31 3 (.slice (some ⟨g, 0, none⟩) ks.length c) ks.length (tcl ks)) {i : Nat} {k : Tok} (hk : ks[i]? = some k) :
    W.cell? ⟨g, i * 3, none⟩ = some (.int .i64 k.kind) ∧ W.cell? ⟨g, i * 3 + 1, none⟩ = some (.string ⟨k.text.toArray⟩) ∧ W.cell? ⟨g, i * 3 + 2, none⟩ = some (.int .i64 (k.at_ : Int)) := by
  have hh := fun j (hj : j < 3) => tcl_get ks i j k hk hj
  have hc := fun j u hu => h.cells (g := g) rfl j u hu
  have a0 := hc (i * 3 + 0) _ ((hh 0 (by omega)).trans rfl)
  have a1 := hc (i * 3 + 1) _ ((hh 1 (by omega)).trans rfl)
  have a2 := hc (i * 3 + 2) _ ((hh 2 (by omega)).trans rfl)
  rw [add_plain] at a0 a1 a2
  exact ⟨a0, a1, a2⟩
theorem own_form {W : World} {base n e size : Nat} {v : Value} {xs : List Value} (h : W.ownsRow base e size v n xs) : (n = 0 ∧ v = .slice none 0 0) ∨ ∃ g c, v = .slice (some ⟨g, 0, none⟩) n c ∧ base ≤ g ∧ g < W.heap.size := by
  rcases h.2 with ⟨h, h0⟩ | ⟨g, cap, cur, h, hb, hh, _⟩
  · exact .inl ⟨h0, h⟩
  · exact .inr ⟨g, cap, h, hb, blk_lt hh⟩
theorem own_alloc {w W : World} (hb : w.heap.size ≤ W.heap.size) : (W.alloc (.cells #[.slice none 0 0] 34)).ownsRow w.heap.size 34 1 (.slice (some ⟨W.heap.size, 0, none⟩) 1 1) 1 [.slice none 0 0] :=
  ⟨rfl, .inr ⟨W.heap.size, 1, #[.slice none 0 0], rfl, hb, heap_alloc_new W _, Nat.le_refl _, by decide, rfl, rfl⟩⟩
theorem Stk.one {w W : World} (hb : w.heap.size ≤ W.heap.size) : Stk (W.alloc (.cells #[.slice none 0 0] 34)) w.heap.size (.slice (some ⟨W.heap.size, 0, none⟩) 1 1) (lev [.nil]) :=
  ⟨fun _ => 0, [.slice none 0 0], rfl, own_alloc hb, fun i y m hy hm => by
    have hi : i = 0 := by
      have := (List.getElem?_eq_some_iff.1 hy).1
      simp at this
      exact this
    subst hi
    injection hy with hy
    injection hm with hm
    subst hy; subst hm
    exact Kd.R_nil _ _ _ _ _⟩
section
variable {P : Program} {ops : Array Oper} {Q : Exit → Act → World → Prop} {md : Region.Mode} {S : World → Prop} {ds : List Nat}
/-- Two stores may come up, one of them of ds. -/
theorem both_ {i j : Nat} {Ni Nj : Option Tmp} {oi oj : Oper} {fuel : Nat} {l : Array Bool} {a : Act} {w : World} (li lj : Array Bool) (hi : ops[i]? = some oi) (hj : ops[j]? = some oj) (hNi : oi.dst = Ni) (hNj : oj.dst = Nj)
    (hc : (Region.ready md ops l == [i, j] && l.setIfInBounds i true == li && l.setIfInBounds j true == lj) = true) (hdi : i ∉ ds) (hdj : j ∈ ds)
    (h1 : ∀ K : Act → World → Prop, Shut (∀ a' w', S w' → (S w' → wpAnyLast P md ops Q S ds fuel li a' w') → K a' w') → if Region.wanted oi (yielded ops a.tmps) = true then Oper.wp P oi a w K Q else K (a.put Ni undef) w)
    (h2 : ∀ K : Act → World → Prop, Shut (∀ a' w', wpAnyLast P md ops Q S ds fuel lj a' w' → K a' w') → if Region.wanted oj (yielded ops a.tmps) = true then Oper.wp P oj a w K Q else K (a.put Nj undef) w) :
    wpAnyLast P md ops Q S ds (fuel + 1) l a w := by
  subst hNi
  subst hNj
  simp only [Bool.and_eq_true, beq_iff_eq] at hc
  obtain ⟨⟨h3, h4⟩, h5⟩ := hc
  subst h4
  subst h5
  exact wpAnyLast_ready h3 (by simp) (AllReadyL.cons hi hdi (fun K hK => h1 K hK) (AllReadyL.cons_last hj hdj (fun K hK => h2 K hK) AllReadyL.nil))
/-- One operation alone may come up, where S is gone. -/
theorem dead_ {i : Nat} {N : Option Tmp} {oi : Oper} {fuel : Nat} {l : Array Bool} {a : Act} {w : World} (l' : Array Bool) (hi : ops[i]? = some oi) (hN : oi.dst = N) (hc : readyB md ops l l' i = true) (hS : ¬ S w)
    (h : ∀ K : Act → World → Prop, Shut (∀ a' w', wpAnyLast P md ops Q S ds fuel l' a' w' → K a' w') → if Region.wanted oi (yielded ops a.tmps) = true then Oper.wp P oi a w K Q else K (a.put N undef) w) :
    wpAnyLast P md ops Q S ds (fuel + 1) l a w := by
  subst hN
  simp only [readyB, Bool.and_eq_true, beq_iff_eq] at hc
  obtain ⟨h1, h2⟩ := hc
  subst h2
  refine wpAnyLast_ready h1 (by simp) (fun j hj => ?_)
  rw [List.mem_singleton] at hj
  subst hj
  exact wpOp_step hi (fun K' hK => h K' (fun a w hW => hK a w ⟨fun _ hs => absurd hs hS, hW⟩))
end
def TrR (w : World) (A : Option Addr) (c : Nat) (ks : List Tok) (R : Int × F) (v6 v22 : Value) (wr : World) : Prop :=
  ∃ (i : Nat) (st : List F), v22 = .int .i64 (i : Int) ∧ i ≤ ks.length ∧ Below w.heap.size w wr ∧ wr.ownsRow w.heap.size 31 3 (.slice A ks.length c) ks.length (tcl ks) ∧ Stk wr w.heap.size v6 (lev st) ∧ 0 < st.length ∧ st.length ≤ 1001 ∧ (∀ f ∈ st, f.len ≤ i) ∧ mach (ks.drop i) st = R
def numOf : Value → Nat
  | .int _ i => i.toNat
  | _ => 0
set_option maxRecDepth 1000000 in
set_option maxHeartbeats 4000000 in
theorem trees_c (s : ByteArray) (hs : s.size ≤ 1000000) (w : World) (hm : ML w) : Calls Tryd.prog 12 #[.string s] w (TreeQ w (treesF s)) := by
  obtain ⟨R, hR⟩ : ∃ R, treesF s = R := ⟨_, rfl⟩
  rw [hR]
  have HC := Lib.hid (tokens_c s hs w hm)
  have HL := Lib.hid (tokF_len s)
  unfold treesF at hR
  clear hm
  go_enter Tryd.func12, Tryd.ntmps12
  go_wp2_with fail
  refine HC.out.mono ?_
  intro e w1 hq
  obtain ⟨hB1, hor⟩ := hq.out
  have HB1 := Lib.hid hB1
  clear hq hB1
  rcases hor with ⟨hn, he⟩ | ⟨ks, v, hn, he, ho⟩
  · subst he
    rw [hn] at hR
    subst hR
    clear hn
    go_wp2
    go_ret2
    exact ⟨_, rfl, Kd.R_nil _ _ _ _ _, HB1.out⟩
  · subst he
    rw [hn] at hR
    have hkl := HL.out ks hn
    have HK := Lib.hid hkl
    have hv : ∃ A c, v = .slice A ks.length c := by
      rcases own_form ho with ⟨h0, h1⟩ | ⟨g, c, h1, _⟩
      · exact ⟨none, 0, by rw [h1, h0]⟩
      · exact ⟨_, _, h1⟩
    obtain ⟨A, c, rfl⟩ := hv
    have HA : Hid (TrR w A c ks R (.slice (some ⟨w1.heap.size, 0, none⟩) 1 1) (.int .i64 0) (w1.alloc (Obj.cells #[.slice none 0 0] 34))) := Lib.hid ⟨0, [.nil], rfl, Nat.zero_le _, HB1.out.alloc HB1.out.size _, pw_own_below ho ((Below.refl _ _).alloc (Nat.le_refl _) _), Stk.one HB1.out.size, by simp, by simp, by simp [F.len], hR⟩
    clear hn hR ho hkl
    go_wp2
    go_loopw [6, 22] (TrR w A c ks R) (fun _ v22 wr => ks.length - numOf v22)
    case atStart => exact HA.out
    case round =>
      obtain ⟨i, st, rfl, hi, hb, ho, hst, hs0, hs1, hfl, hm⟩ := hrel
      have HBR := Lib.hid hb
      have HO := Lib.hid ho
      have HS := Lib.hid hst
      have HF := Lib.hid hfl
      have HM := Lib.hid hm
      have hkb := HK.out
      clear hb ho hst hfl hm HA
      by_cases hlt : i < ks.length
      · obtain ⟨k, hk⟩ : ∃ k, ks[i]? = some k := ⟨_, List.getElem?_eq_getElem hlt⟩
        have HD : Hid (mach (k :: ks.drop (i + 1)) st = R) := Lib.hid (by
          have := HM.out
          obtain ⟨h1, h2⟩ := List.getElem?_eq_some_iff.1 hk
          rw [List.drop_eq_getElem_cons hlt, h2] at this
          exact this)
        obtain ⟨gT, cT, hAT, hgb, hgl⟩ : ∃ g cc, (Value.slice A ks.length c) = .slice (some ⟨g, 0, none⟩) ks.length cc ∧ w.heap.size ≤ g ∧ g < wr.heap.size := by
          rcases own_form HO.out with ⟨h0, _⟩ | h
          · omega
          · exact h
        injection hAT with hA _ hc
        subst hA; subst hc
        obtain ⟨t0, t1, t2⟩ := tcl_cell HO.out hk
        have hi1 : (i : Int) < (ks.length : Int) := by omega
        have hi2 : (0 : Int) ≤ (i : Int) := by omega
        clear hk HM hlt
        obtain ⟨f, st, rfl⟩ : ∃ f st2, st = f :: st2 := by
          cases st with
          | nil => exact absurd hs0 (by simp)
          | cons f st => exact ⟨f, st, rfl⟩
        obtain ⟨b, cap, rfl, hb0, hbl⟩ : ∃ b cap, u6 = .slice (some ⟨b, 0, none⟩) (st.length + 1) cap ∧ w.heap.size ≤ b ∧ b < wr.heap.size := by
          obtain ⟨_, _, _, h2, _⟩ := HS.out.out
          rw [lev_len, List.length_cons] at h2
          rcases own_form h2 with ⟨h0, _⟩ | h
          · omega
          · exact h
        rw [List.length_cons] at hs1
        clear hs0
        have hW1 : Below wr.heap.size wr (wr.alloc (Obj.cells #[.int .i64 k.kind, .string ⟨k.text.toArray⟩, .int .i64 (k.at_ : Int)] 31)) := (Below.refl _ _).alloc (Nat.le_refl _) _
        have HW1 := Lib.hid hW1
        have HS1 := Lib.hid (HS.out.below hW1)
        have HO1 := Lib.hid (pw_own_below HO.out hW1)
        have HB1 := Lib.hid (HBR.out.alloc HBR.out.size (Obj.cells #[.int .i64 k.kind, .string ⟨k.text.toArray⟩, .int .i64 (k.at_ : Int)] 31))
        clear hW1
        by_cases k0 : k.kind = 0
        · have d0 : (k.kind == 0) = true := by rw [k0]; decide
          by_cases htop : st.length = 1000
          · have d1 : ((st.length : Int) == 1000) = true := by rw [htop]; decide
            have HE : Hid (R = (72, .nil)) := Lib.hid (by
              have := HD.out
              simp only [mach, List.length_cons, k0, htop, if_pos] at this
              exact this.symm)
            clear k0 htop
            go_wp2
            go_ret2
            exact ⟨.slice none 0 0, by rw [HE.out]; rfl, by rw [HE.out]; exact Kd.R_nil _ _ _ _ _, HB1.out⟩
          · have d1 : ((st.length : Int) == 1000) = false := by simp only [beq_eq_false_iff_ne, ne_eq]; omega
            obtain ⟨v1, w2, hrun, hs2, hg2⟩ := push_c _ _ _ _ HB1.out.size (by rw [lev_len, List.length_cons]; omega) HS1.out
            have HRUN := Lib.hid hrun
            have HS2 : Hid (Stk w2 w.heap.size v1 (lev (.nil :: f :: st))) := Lib.hid (by rw [lev_cons]; exact hs2)
            have HB2 : Hid (Below w.heap.size w w2) := Lib.hid (HB1.out.grown hg2 HB1.out.size (fun k hk => by have hk2 : b = k := Option.some.inj hk; omega))
            have HO2 : Hid (w2.ownsRow w.heap.size 31 3 (.slice (some ⟨gT, 0, none⟩) ks.length c) ks.length (tcl ks)) := Lib.hid (by
              obtain ⟨_, _, _, h2, _⟩ := HS1.out.out
              exact HO1.out.kept hg2 (own_type_ne HO1.out h2 (by decide)))
            have HM2 : Hid (mach (ks.drop (i + 1)) (.nil :: f :: st) = R) := Lib.hid (by
              have := HD.out
              simp only [mach, List.length_cons] at this
              rw [if_pos k0, if_neg (by omega)] at this
              exact this)
            have htop2 : st.length ≤ 999 := by omega
            clear hrun hs2 hg2 k0 htop
            go_wp2_with (at_builtin; go_loud (refine step_append rfl (.tmp 49) (.tmp 50) 58 58 rfl (.slice (some ⟨b, 0, none⟩) (st.length + 1) cap) (.slice (some ⟨(wr.alloc (Obj.cells #[.int .i64 k.kind, .string ⟨k.text.toArray⟩, .int .i64 (k.at_ : Int)] 31)).heap.size, 0, none⟩) 1 1) v1 w2 (by first | (go_simp; done) | (go_simp; rfl) | rfl) (by first | (go_simp; done) | (go_simp; rfl) | rfl) HRUN.out ?_))
            go_roundw
            case rel => exact ⟨i + 1, .nil :: f :: st, by simp, by omega, HB2.out, HO2.out, HS2.out, by simp, by simp; omega, fun q hq => by
              rcases List.mem_cons.1 hq with rfl | hq
              · exact Nat.zero_le _
              · have := HF.out q hq
                omega, HM2.out⟩
            case measure => simp only [numOf]; omega
        · by_cases k1 : k.kind = 1
          · have d0 : (k.kind == 0) = false := by rw [k1]; decide
            have d1 : (k.kind == 1) = true := by rw [k1]; decide
            cases st with
            | nil =>
              have HE : Hid (R = (71, .nil)) := Lib.hid (by
                have := HD.out
                simp only [mach] at this
                rw [if_neg k0, if_pos k1] at this
                exact this.symm)
              clear k0 k1
              go_wp2
              go_ret2
              exact ⟨.slice none 0 0, by rw [HE.out]; rfl, by rw [HE.out]; exact Kd.R_nil _ _ _ _ _, HB1.out⟩
            | cons f2 st =>
              have HM2 : Hid (mach (ks.drop (i + 1)) (f2.app (.cons 4 [] f .nil) :: st) = R) := Lib.hid (by
                have := HD.out
                simp only [mach] at this
                rw [if_neg k0, if_pos k1] at this
                exact this)
              have hsW := HS1.out
              rw [lev_cons, lev_cons] at hsW
              obtain ⟨fc, okp, vs, x, y, hy, hx, hown, hmid, hRy, hokp, hfr⟩ := hsW.pop
              have hl1 : (lev st).length = st.length := lev_len st
              obtain ⟨Ay, cy, rfl⟩ := Kd.R_slice hRy
              obtain ⟨Ax, cx, rfl⟩ := Kd.R_slice hmid.top
              have hcy := hown.cells (g := b) rfl _ _ hy
              obtain ⟨T, hT⟩ : ∃ T, T = st.length + 1 := ⟨_, rfl⟩
              rw [add_plain, hl1, ← hT] at hcy
              have hcap : T + 1 ≤ cap := by
                rcases hown.2 with ⟨h, _⟩ | ⟨g', cap', cur, hv, _, _, hnc, _⟩
                · cases h
                · injection hv with _ _ hc
                  rw [hl1] at hnc
                  omega
              have hs1T : T ≤ 1000 := by rw [List.length_cons] at hs1; omega
              have d2 : ((T : Int) == 0) = false := by simp only [beq_eq_false_iff_ne, ne_eq]; omega
              have hlt9 : ((T : Int) < (T : Int) + 1) = True := eq_true (by omega)
              have hlt8 : ((T : Int) ≤ (cap : Int)) = True := eq_true (by omega)
              have hlt7 : (T ≤ cap) = True := eq_true (by omega)
              have hcy' := hcy
              rw [show (f2 :: st).length = T from hT.symm]
              have hTs := Lib.hid hT
              have HMD := Lib.hid hmid
              have HRY := Lib.hid hRy
              have HOW := Lib.hid hown
              have HX := Lib.hid hx
              have HOK := Lib.hid hokp
              have HFR := Lib.hid hfr
              clear hsW hy hx hown hmid hRy hokp hfr k0 k1 hT hs1 hcy'
              have hwa : IntKind.i64.wrap ((T : Int) - 1) = (st.length : Int) := by have := hTs.out; rw [IntKind.wrap_i64]; omega
              have hwb : Go.RowKit.wrap64 ((T : Int) - 1) = (st.length : Int) := by unfold Go.RowKit.wrap64; have := hTs.out; omega
              have hltA : ((st.length : Int) < (T : Int)) = True := eq_true (by have := hTs.out; omega)
              have hltB : (st.length < T) = True := eq_true (by have := hTs.out; omega)
              have hltC : ((f2.to.length : Int) < (f2.to.length : Int) + 1) = True := eq_true (by omega)
              go_upto_block 20 with fail
              go_region
              rotate_left
              all_goals go_upto_block 20 with fail
              · obtain ⟨W1, hW1⟩ : ∃ W1, W1 = (((wr.alloc (Obj.cells #[.int .i64 k.kind, .string ⟨k.text.toArray⟩, .int .i64 (k.at_ : Int)] 31)).alloc (Obj.cells #[.int .i64 4, .string ⟨#[]⟩, .slice Ay f.to.length cy] 48)).alloc (Obj.cells #[.bool true] 4)).drew.drew := ⟨_, rfl⟩
                have hbw : Below (wr.alloc (Obj.cells #[.int .i64 k.kind, .string ⟨k.text.toArray⟩, .int .i64 (k.at_ : Int)] 31)).heap.size (wr.alloc (Obj.cells #[.int .i64 k.kind, .string ⟨k.text.toArray⟩, .int .i64 (k.at_ : Int)] 31)) W1 := by
                  rw [hW1]
                  have h1 := (Below.refl (wr.alloc (Obj.cells #[.int .i64 k.kind, .string ⟨k.text.toArray⟩, .int .i64 (k.at_ : Int)] 31)).heap.size (wr.alloc (Obj.cells #[.int .i64 k.kind, .string ⟨k.text.toArray⟩, .int .i64 (k.at_ : Int)] 31))).alloc (Nat.le_refl _) (Obj.cells #[.int .i64 4, .string ⟨#[]⟩, .slice Ay f.to.length cy] 48)
                  exact below_drew (below_drew (h1.alloc h1.size _))
                have hgi : W1.heap[wr.heap.size + 1]? = some (.cells #[.int .i64 4, .string ⟨#[]⟩, .slice Ay f.to.length cy] 48 (0, 0)) := by
                  rw [hW1]
                  have h1 := heap_alloc_new (wr.alloc (Obj.cells #[.int .i64 k.kind, .string ⟨k.text.toArray⟩, .int .i64 (k.at_ : Int)] 31)) (Obj.cells #[.int .i64 4, .string ⟨#[]⟩, .slice Ay f.to.length cy] 48)
                  have h2 : (wr.alloc (Obj.cells #[.int .i64 k.kind, .string ⟨k.text.toArray⟩, .int .i64 (k.at_ : Int)] 31)).heap.size = wr.heap.size + 1 := by simp
                  rw [h2] at h1
                  exact (heap_alloc_old _ _ (blk_lt h1)).trans h1
                have hxl := Kd.R_lt HMD.out.top
                have hmid1 := HMD.out.below hbw
                have hRy1 := Kd.R_below HRY.out hbw
                have hx1 : (vs.take ((lev st).length + 1))[(lev st).length]? = some (.slice Ax f2.to.length cx) := by rw [List.getElem?_take, if_pos (by omega)]; exact HX.out
                have HB3 : Hid (Below w.heap.size w W1) := Lib.hid (below_step HB1.out hbw)
                have HO3 := Lib.hid (pw_own_below HO1.out hbw)
                have c0 : W1.cell? ⟨wr.heap.size + 1, 0, none⟩ = some (.int .i64 4) := (blk_cell hgi 0).trans rfl
                have c1 : W1.cell? ⟨wr.heap.size + 1, 1, none⟩ = some (.string ⟨#[]⟩) := (blk_cell hgi 1).trans rfl
                have c2 : W1.cell? ⟨wr.heap.size + 1, 2, none⟩ = some (.slice Ay f.to.length cy) := (blk_cell hgi 2).trans rfl
                have c3 := hmid1.cell hx1
                rw [hl1] at c3
                have hgil : wr.heap.size + 1 < W1.heap.size := blk_lt hgi
                have hgx : some (wr.heap.size + 1) ≠ (Value.slice Ax f2.to.length cx).ownBlock := fun h => by
                  have := hxl _ h.symm
                  simp at this
                have hl2 : f2.to.length ≤ 2000000 := by
                  have := HF.out f2 (List.mem_cons_of_mem _ (List.mem_cons_self ..))
                  rw [F.to_len]; omega
                obtain ⟨x1, W2, g, cap1, hrun, hR1, hg1, rfl, hgb, hgl2, hne⟩ := append_f W1 w.heap.size _ f2.to z48 [.int .i64 0, .string ⟨#[]⟩, .slice none 0 0] _ (fun _ => False) HB3.out.size hl2 hmid1.top (k48_mkM _ _ _ z48 (Kd.R_nil _ _ _ _ _)) (fun _ h => h.elim) (fun q hq => HFR.out q (Nat.le_trans hbw.size hq))
                have hm2 := hmid1.turn hg1 hR1
                have hRy2 := Kd.R_grown hRy1 hg1 (fun q hq => (HOK.out q hq).2.2)
                have hP3 := hm2.put rfl
                have hpr3 := hm2.put_run rfl rfl
                obtain ⟨cur, hcur⟩ := own_typed hm2.own b rfl
                have hRy3 := Kd.R_set hRy2 hcur k48_E (lev st).length (.slice (some ⟨g, 0, none⟩) (f2.to.length + 1) cap1)
                obtain ⟨W3, hW3⟩ : ∃ W3, W3 = W2.setCell ⟨b, (lev st).length, none⟩ (.slice (some ⟨g, 0, none⟩) (f2.to.length + 1) cap1) := ⟨_, rfl⟩
                rw [← hW3] at hP3 hpr3 hRy3
                rw [hl1] at hpr3
                have hP4 := hP3.fill (y := ⟨4, ⟨#[]⟩, f.to⟩) (cs := [.int .i64 4, .string ⟨#[]⟩, .slice Ay f.to.length cy]) (okp := okp) (k48_mkM _ _ _ ⟨4, ⟨#[]⟩, f.to⟩ hRy3) (fun q hq => ⟨(HOK.out q hq).1, hne q (Nat.lt_of_lt_of_le (HOK.out q hq).2.1 hbw.size) (HOK.out q hq).2.2⟩)
                have hst4 := hP3.fill_run (.int .i64 4) (.string ⟨#[]⟩) (.slice Ay f.to.length cy) (by intro u hu; simp only [List.mem_cons, List.not_mem_nil, or_false] at hu; rcases hu with rfl | rfl | rfl <;> rfl) rfl
                obtain ⟨W4, hW4⟩ : ∃ W4, W4 = W3.setCells g (f2.to.length * 3) [.int .i64 4, .string ⟨#[]⟩, .slice Ay f.to.length cy] := ⟨_, rfl⟩
                rw [← hW4] at hP4 hst4
                have HRUN := Lib.hid hrun
                have HPR := Lib.hid hpr3
                have HST := Lib.hid hst4
                have hgi2 := (hg1.block _ hgil hgx).trans hgi
                have HSA : Hid ((W1.alloc (.cells #[.int .i64 0, .string ⟨#[]⟩, .slice none 0 0] 48)).cell? ⟨wr.heap.size + 1, 0, none⟩ = some (.int .i64 4) ∧ (W1.alloc (.cells #[.int .i64 0, .string ⟨#[]⟩, .slice none 0 0] 48)).cell? ⟨wr.heap.size + 1, 1, none⟩ = some (.string ⟨#[]⟩) ∧ (W1.alloc (.cells #[.int .i64 0, .string ⟨#[]⟩, .slice none 0 0] 48)).cell? ⟨wr.heap.size + 1, 2, none⟩ = some (.slice Ay f.to.length cy) ∧ (W1.alloc (.cells #[.int .i64 0, .string ⟨#[]⟩, .slice none 0 0] 48)).cell? ⟨b, st.length, none⟩ = some (.slice Ax f2.to.length cx)) :=
                  Lib.hid ⟨(World.cell?_alloc_lt _ _ _ hgil).trans c0, (World.cell?_alloc_lt _ _ _ hgil).trans c1, (World.cell?_alloc_lt _ _ _ hgil).trans c2, (World.cell?_alloc_lt _ _ _ (World.block_lt_of_cell? _ _ c3)).trans c3⟩
                have HSB : Hid (W2.cell? ⟨wr.heap.size + 1, 0, none⟩ = some (.int .i64 4) ∧ W2.cell? ⟨wr.heap.size + 1, 1, none⟩ = some (.string ⟨#[]⟩) ∧ W2.cell? ⟨wr.heap.size + 1, 2, none⟩ = some (.slice Ay f.to.length cy) ∧ W2.cell? ⟨b, st.length, none⟩ = some (.slice Ax f2.to.length cx)) :=
                  Lib.hid ⟨(blk_cell hgi2 0).trans rfl, (blk_cell hgi2 1).trans rfl, (blk_cell hgi2 2).trans rfl, by have := hm2.cell hx1; rwa [hl1] at this⟩
                have HS5 : Hid (Stk W4 w.heap.size (.slice (some ⟨b, 0, none⟩) T cap) (lev (f2.app (.cons 4 [] f .nil) :: st))) := Lib.hid (by
                  rw [lev_cons, F.to_app, hTs.out]
                  have := hP4.1.stk (by rw [List.getElem?_set_self (by have := hP4.1.len; rw [List.length_set] at this; omega)])
                  rw [hl1] at this
                  exact this)
                have HB2 : Hid (Below w.heap.size w W2) := Lib.hid (HB3.out.grown hg1 HB3.out.size (fun q hq => Kd.R_base hmid1.top q hq))
                have HB5 : Hid (Below w.heap.size w W4) := Lib.hid (by
                  have h3 : Below w.heap.size w W3 := by rw [hW3]; exact below_set HB2.out hb0
                  exact h3.grown hP4.2 h3.size (fun q hq => by have : g = q := Option.some.inj hq; omega))
                have HO2 : Hid (W2.ownsRow w.heap.size 31 3 (.slice (some ⟨gT, 0, none⟩) ks.length c) ks.length (tcl ks)) := Lib.hid (HO3.out.kept hg1 (by
                  obtain ⟨inner, hi⟩ := Kd.R_own hmid1.top
                  exact own_type_ne HO3.out hi (by decide)))
                have HO5 : Hid (W4.ownsRow w.heap.size 31 3 (.slice (some ⟨gT, 0, none⟩) ks.length c) ks.length (tcl ks)) := Lib.hid (by
                  have h3 : W3.ownsRow w.heap.size 31 3 (.slice (some ⟨gT, 0, none⟩) ks.length c) ks.length (tcl ks) := by
                    rw [hW3]
                    exact own_setCell HO2.out (fun h => by
                      have hx := own_type_ne HO2.out hm2.own (by decide)
                      rcases hx with hx | hx
                      · rw [← h] at hx; cases hx
                      · exact hx h.symm) _
                  exact h3.kept hP4.2 (by
                    obtain ⟨inner, hi⟩ := Kd.R_own hP3.top
                    exact own_type_ne h3 hi (by decide)))
                clear hW3 hW4 hbw hrun hR1 hg1 hne hm2 hRy2 hRy1 hRy3 hP3 hpr3 hP4 hst4 hcur hmid1 hx1 hgi2 hgi hgx hxl hl2
                refine start_ (n := 14) (ds := [13]) (S := fun w' => w'.cell? ⟨wr.heap.size + 1, 0, none⟩ = some (.int .i64 4) ∧ w'.cell? ⟨wr.heap.size + 1, 1, none⟩ = some (.string ⟨#[]⟩) ∧ w'.cell? ⟨wr.heap.size + 1, 2, none⟩ = some (.slice Ay f.to.length cy) ∧ w'.cell? ⟨b, st.length, none⟩ = some (.slice Ax f2.to.length cx)) #[false, false, false, false, false, false, false, false, false, false, false, false, false, false] (by kernel_rfl) rfl rfl ?_ ?_
                · rw [← hW1]; exact ⟨c0, c1, c2, c3⟩
                rw [← hW1]
                intro hHeld
                clear hW1
                refine pure_ (i := 0) (N := (some 66)) (v := ?_) (a' := ?_) #[true, false, false, false, false, false, false, false, false, false, false, false, false, false] rfl rfl (by kernel_rfl) (fun _ _ _ h => h) (Or.inl ⟨by rfl, ?_⟩) ?_ ?_
                rotate_left
                · intro w'
                  go_simp
                  with_reducible rfl
                rotate_left
                · simp only [Act.put, List.setIfInBounds_toArray, List.set_cons_zero, List.set_cons_succ, i64_w, i32_w]
                  rfl
                refine pure_ (i := 1) (N := (some 67)) (v := ?_) (a' := ?_) #[true, true, false, false, false, false, false, false, false, false, false, false, false, false] rfl rfl (by kernel_rfl) (fun _ _ _ h => h) (Or.inl ⟨by rfl, ?_⟩) ?_ ?_
                rotate_left
                · intro w'
                  go_simp
                  with_reducible rfl
                rotate_left
                · simp only [Act.put, List.setIfInBounds_toArray, List.set_cons_zero, List.set_cons_succ, i64_w, i32_w]
                  rfl
                refine pure_ (i := 2) (N := (some 68)) (v := ?_) (a' := ?_) #[true, true, true, false, false, false, false, false, false, false, false, false, false, false] rfl rfl (by kernel_rfl) (fun _ _ _ h => h) (Or.inl ⟨by rfl, ?_⟩) ?_ ?_
                rotate_left
                · intro w'
                  go_simp
                  with_reducible rfl
                rotate_left
                · simp only [Act.put, List.setIfInBounds_toArray, List.set_cons_zero, List.set_cons_succ, i64_w, i32_w]
                  rfl
                refine pure_ (i := 3) (N := (some 69)) (v := ?_) (a' := ?_) #[true, true, true, true, false, false, false, false, false, false, false, false, false, false] rfl rfl (by kernel_rfl) (fun _ _ _ h => h) (Or.inl ⟨by rfl, ?_⟩) ?_ ?_
                rotate_left
                · intro w'
                  go_simp
                  with_reducible rfl
                rotate_left
                · simp only [Act.put, List.setIfInBounds_toArray, List.set_cons_zero, List.set_cons_succ, i64_w, i32_w]
                  rfl
                refine pure_ (i := 4) (N := (some 70)) (v := ?_) (a' := ?_) #[true, true, true, true, true, false, false, false, false, false, false, false, false, false] rfl rfl (by kernel_rfl) (fun _ _ _ h => h) (Or.inl ⟨by rfl, ?_⟩) ?_ ?_
                rotate_left
                · intro w'
                  go_simp
                  with_reducible rfl
                rotate_left
                · simp only [Act.put, List.setIfInBounds_toArray, List.set_cons_zero, List.set_cons_succ, i64_w, i32_w]
                  rfl
                refine pure_ (i := 5) (N := (some 71)) (v := ?_) (a' := ?_) #[true, true, true, true, true, true, false, false, false, false, false, false, false, false] rfl rfl (by kernel_rfl) (fun _ _ _ h => h) (Or.inl ⟨by rfl, ?_⟩) ?_ ?_
                rotate_left
                · intro w'
                  go_simp
                  with_reducible rfl
                rotate_left
                · simp only [Act.put, List.setIfInBounds_toArray, List.set_cons_zero, List.set_cons_succ, i64_w, i32_w]
                  rfl
                refine pure_ (i := 6) (N := (some 72)) (v := ?_) (a' := ?_) #[true, true, true, true, true, true, true, false, false, false, false, false, false, false] rfl rfl (by kernel_rfl) (fun _ _ _ h => h) (Or.inl ⟨by rfl, ?_⟩) ?_ ?_
                rotate_left
                · intro w'
                  go_simp
                  with_reducible rfl
                rotate_left
                · simp only [Act.put, List.setIfInBounds_toArray, List.set_cons_zero, List.set_cons_succ, i64_w, i32_w]
                  rfl
                refine take_ (i := 7) (N := (some 73)) (v := ?_) (a' := ?_) #[true, true, true, true, true, true, true, true, false, false, false, false, false, false] rfl rfl (by kernel_rfl) (fun _ _ _ h => h) (Or.inl ⟨by rfl, ?_⟩) hHeld ?_ ?_
                rotate_left
                · rintro w' ⟨s0, s1, s2, s3⟩
                  go_simp
                  with_reducible rfl
                rotate_left
                · simp only [Act.put, List.setIfInBounds_toArray, List.set_cons_zero, List.set_cons_succ, i64_w, i32_w]
                  rfl
                refine take_ (i := 8) (N := (some 74)) (v := ?_) (a' := ?_) #[true, true, true, true, true, true, true, true, true, false, false, false, false, false] rfl rfl (by kernel_rfl) (fun _ _ _ h => h) (Or.inl ⟨by rfl, ?_⟩) hHeld ?_ ?_
                rotate_left
                · rintro w' ⟨s0, s1, s2, s3⟩
                  go_simp
                  with_reducible rfl
                rotate_left
                · simp only [Act.put, List.setIfInBounds_toArray, List.set_cons_zero, List.set_cons_succ, i64_w, i32_w]
                  rfl
                refine pure_ (i := 9) (N := (some 75)) (v := ?_) (a' := ?_) #[true, true, true, true, true, true, true, true, true, true, false, false, false, false] rfl rfl (by kernel_rfl) (fun _ _ _ h => h) (Or.inl ⟨by rfl, ?_⟩) ?_ ?_
                rotate_left
                · intro w'
                  go_simp
                  with_reducible rfl
                rotate_left
                · simp only [Act.put, List.setIfInBounds_toArray, List.set_cons_zero, List.set_cons_succ, i64_w, i32_w]
                  rfl
                refine one_ (i := 10) (N := some 76) #[true, true, true, true, true, true, true, true, true, true, true, false, false, false] rfl rfl (by kernel_rfl) (by decide) (fun K hK => ?_)
                refine value_ (w1 := ?_) (v := ?_) (by rfl) rfl ?_ ?_
                rotate_left 2
                · go_simp
                  constructor
                  · rfl
                  · rfl
                refine hK.out _ _ HSA.out (fun hHeld => ?_)
                clear hK K
                refine norm_ (a' := ?_) ?_ ?_
                rotate_left
                · show Act.put _ (some 76) _ = _
                  simp only [Act.put, List.setIfInBounds_toArray, List.set_cons_zero, List.set_cons_succ, i64_w, i32_w]
                  rfl
                refine one_ (i := 11) (N := some 77) #[true, true, true, true, true, true, true, true, true, true, true, true, false, false] rfl rfl (by kernel_rfl) (by decide) (fun K hK => ?_)
                refine rstep_append (by rfl) (.tmp 73) (.tmp 76) 34 34 rfl (.slice Ax f2.to.length cx) (.slice (some ⟨W1.heap.size, 0, none⟩) 1 1) _ W2 (by rfl) (by rfl) HRUN.out ?_
                refine hK.out _ _ HSB.out (fun hHeld => ?_)
                clear hK K
                refine norm_ (a' := ?_) ?_ ?_
                rotate_left
                · show Act.put _ (some 77) _ = _
                  simp only [Act.put, List.setIfInBounds_toArray, List.set_cons_zero, List.set_cons_succ, i64_w, i32_w]
                  rfl
                refine pure_ (i := 12) (N := (some 78)) (v := ?_) (a' := ?_) #[true, true, true, true, true, true, true, true, true, true, true, true, true, false] rfl rfl (by kernel_rfl) (fun _ _ _ h => h) (Or.inl ⟨by rfl, ?_⟩) ?_ ?_
                rotate_left
                · intro w'
                  go_simp
                  with_reducible rfl
                rotate_left
                · simp only [Act.put, List.setIfInBounds_toArray, List.set_cons_zero, List.set_cons_succ, i64_w, i32_w]
                  rfl
                refine last_ (i := 13) (N := none) #[true, true, true, true, true, true, true, true, true, true, true, true, true, true] rfl rfl (by kernel_rfl) (by decide) (fun K hK => ?_)
                refine rstep_store (by rfl) rfl 34 (.tmp 78) (.tmp 77) rfl ⟨b, st.length, none⟩ (.slice (some ⟨g, 0, none⟩) (f2.to.length + 1) cap1) W3 (by rfl) (by rfl) HPR.out ?_
                refine hK.out _ _ ?_
                clear hK K
                refine done_ (by kernel_rfl) ?_
                clear hHeld c0 c1 c2 c3 HSA HSB HRUN HPR
                go_wp2_with ((refine gate_ (.store 48 (.tmp 79) (.tmp 74)) rfl ?_; go_loud (refine step_store rfl rfl 48 (.tmp 79) (.tmp 74) rfl ⟨g, f2.to.length * 3, none⟩ (.agg #[.int .i64 4, .string ⟨#[]⟩, .slice Ay f.to.length cy]) W4 (by first | (go_simp; done) | (go_simp; rfl) | rfl) (by first | (go_simp; done) | (go_simp; rfl) | rfl) HST.out ?_)))
                go_wp2
                go_roundw
                case rel => exact ⟨i + 1, f2.app (.cons 4 [] f .nil) :: st, by simp, by omega, HB5.out, HO5.out, HS5.out, by simp, by have := hTs.out; simp; omega, fun q hq => by
                  rcases List.mem_cons.1 hq with rfl | hq
                  · have := HF.out f2 (List.mem_cons_of_mem _ (List.mem_cons_self ..))
                    rw [F.len_app]
                    simp only [F.len]
                    omega
                  · have := HF.out q (List.mem_cons_of_mem _ (List.mem_cons_of_mem _ hq))
                    omega, HM2.out⟩
                case measure => simp only [numOf]; omega
              · obtain ⟨W1, hW1⟩ : ∃ W1, W1 = (((wr.alloc (Obj.cells #[.int .i64 k.kind, .string ⟨k.text.toArray⟩, .int .i64 (k.at_ : Int)] 31)).alloc (Obj.cells #[.int .i64 4, .string ⟨#[]⟩, .slice Ay f.to.length cy] 48)).alloc (Obj.cells #[.bool false] 4)).drew.drew := ⟨_, rfl⟩
                have hbw : Below (wr.alloc (Obj.cells #[.int .i64 k.kind, .string ⟨k.text.toArray⟩, .int .i64 (k.at_ : Int)] 31)).heap.size (wr.alloc (Obj.cells #[.int .i64 k.kind, .string ⟨k.text.toArray⟩, .int .i64 (k.at_ : Int)] 31)) W1 := by
                  rw [hW1]
                  have h1 := (Below.refl (wr.alloc (Obj.cells #[.int .i64 k.kind, .string ⟨k.text.toArray⟩, .int .i64 (k.at_ : Int)] 31)).heap.size (wr.alloc (Obj.cells #[.int .i64 k.kind, .string ⟨k.text.toArray⟩, .int .i64 (k.at_ : Int)] 31))).alloc (Nat.le_refl _) (Obj.cells #[.int .i64 4, .string ⟨#[]⟩, .slice Ay f.to.length cy] 48)
                  exact below_drew (below_drew (h1.alloc h1.size _))
                have hgi : W1.heap[wr.heap.size + 1]? = some (.cells #[.int .i64 4, .string ⟨#[]⟩, .slice Ay f.to.length cy] 48 (0, 0)) := by
                  rw [hW1]
                  have h1 := heap_alloc_new (wr.alloc (Obj.cells #[.int .i64 k.kind, .string ⟨k.text.toArray⟩, .int .i64 (k.at_ : Int)] 31)) (Obj.cells #[.int .i64 4, .string ⟨#[]⟩, .slice Ay f.to.length cy] 48)
                  have h2 : (wr.alloc (Obj.cells #[.int .i64 k.kind, .string ⟨k.text.toArray⟩, .int .i64 (k.at_ : Int)] 31)).heap.size = wr.heap.size + 1 := by simp
                  rw [h2] at h1
                  exact (heap_alloc_old _ _ (blk_lt h1)).trans h1
                have hxl := Kd.R_lt HMD.out.top
                have hmid1 := HMD.out.below hbw
                have hRy1 := Kd.R_below HRY.out hbw
                have hx1 : (vs.take ((lev st).length + 1))[(lev st).length]? = some (.slice Ax f2.to.length cx) := by rw [List.getElem?_take, if_pos (by omega)]; exact HX.out
                have HB3 : Hid (Below w.heap.size w W1) := Lib.hid (below_step HB1.out hbw)
                have HO3 := Lib.hid (pw_own_below HO1.out hbw)
                have c0 : W1.cell? ⟨wr.heap.size + 1, 0, none⟩ = some (.int .i64 4) := (blk_cell hgi 0).trans rfl
                have c1 : W1.cell? ⟨wr.heap.size + 1, 1, none⟩ = some (.string ⟨#[]⟩) := (blk_cell hgi 1).trans rfl
                have c2 : W1.cell? ⟨wr.heap.size + 1, 2, none⟩ = some (.slice Ay f.to.length cy) := (blk_cell hgi 2).trans rfl
                have c3 := hmid1.cell hx1
                rw [hl1] at c3
                have hgil : wr.heap.size + 1 < W1.heap.size := blk_lt hgi
                have hgx : some (wr.heap.size + 1) ≠ (Value.slice Ax f2.to.length cx).ownBlock := fun h => by
                  have := hxl _ h.symm
                  simp at this
                have hl2 : f2.to.length ≤ 2000000 := by
                  have := HF.out f2 (List.mem_cons_of_mem _ (List.mem_cons_self ..))
                  rw [F.to_len]; omega
                obtain ⟨x1, W2, g, cap1, hrun, hR1, hg1, rfl, hgb, hgl2, hne⟩ := append_f W1 w.heap.size _ f2.to ⟨4, ⟨#[]⟩, f.to⟩ [.int .i64 4, .string ⟨#[]⟩, .slice Ay f.to.length cy] _ okp HB3.out.size hl2 hmid1.top (k48_mkM _ _ _ ⟨4, ⟨#[]⟩, f.to⟩ hRy1) (fun q hq => ⟨(HOK.out q hq).1, (HOK.out q hq).2.2⟩) (fun q hq => HFR.out q (Nat.le_trans hbw.size hq))
                have hm2 := hmid1.turn hg1 hR1
                have hP3 := hm2.put rfl
                have hpr3 := hm2.put_run rfl rfl
                obtain ⟨W3, hW3⟩ : ∃ W3, W3 = W2.setCell ⟨b, (lev st).length, none⟩ (.slice (some ⟨g, 0, none⟩) (f2.to.length + 1) cap1) := ⟨_, rfl⟩
                rw [← hW3] at hP3 hpr3
                rw [hl1] at hpr3
                have HRUN := Lib.hid hrun
                have HPR := Lib.hid hpr3
                have hgi2 := (hg1.block _ hgil hgx).trans hgi
                have HSA : Hid ((W1.alloc (.cells #[.int .i64 4, .string ⟨#[]⟩, .slice Ay f.to.length cy] 48)).cell? ⟨wr.heap.size + 1, 0, none⟩ = some (.int .i64 4) ∧ (W1.alloc (.cells #[.int .i64 4, .string ⟨#[]⟩, .slice Ay f.to.length cy] 48)).cell? ⟨wr.heap.size + 1, 1, none⟩ = some (.string ⟨#[]⟩) ∧ (W1.alloc (.cells #[.int .i64 4, .string ⟨#[]⟩, .slice Ay f.to.length cy] 48)).cell? ⟨wr.heap.size + 1, 2, none⟩ = some (.slice Ay f.to.length cy) ∧ (W1.alloc (.cells #[.int .i64 4, .string ⟨#[]⟩, .slice Ay f.to.length cy] 48)).cell? ⟨b, st.length, none⟩ = some (.slice Ax f2.to.length cx)) :=
                  Lib.hid ⟨(World.cell?_alloc_lt _ _ _ hgil).trans c0, (World.cell?_alloc_lt _ _ _ hgil).trans c1, (World.cell?_alloc_lt _ _ _ hgil).trans c2, (World.cell?_alloc_lt _ _ _ (World.block_lt_of_cell? _ _ c3)).trans c3⟩
                have HSB : Hid (W2.cell? ⟨wr.heap.size + 1, 0, none⟩ = some (.int .i64 4) ∧ W2.cell? ⟨wr.heap.size + 1, 1, none⟩ = some (.string ⟨#[]⟩) ∧ W2.cell? ⟨wr.heap.size + 1, 2, none⟩ = some (.slice Ay f.to.length cy) ∧ W2.cell? ⟨b, st.length, none⟩ = some (.slice Ax f2.to.length cx)) :=
                  Lib.hid ⟨(blk_cell hgi2 0).trans rfl, (blk_cell hgi2 1).trans rfl, (blk_cell hgi2 2).trans rfl, by have := hm2.cell hx1; rwa [hl1] at this⟩
                have HS5 : Hid (Stk W3 w.heap.size (.slice (some ⟨b, 0, none⟩) T cap) (lev (f2.app (.cons 4 [] f .nil) :: st))) := Lib.hid (by
                  rw [lev_cons, F.to_app, hTs.out]
                  have := hP3.stk (by rw [List.getElem?_set_self (by have := hP3.len; rw [List.length_set] at this; omega)])
                  rw [hl1] at this
                  exact this)
                have HB2 : Hid (Below w.heap.size w W2) := Lib.hid (HB3.out.grown hg1 HB3.out.size (fun q hq => Kd.R_base hmid1.top q hq))
                have HB5 : Hid (Below w.heap.size w W3) := Lib.hid (by rw [hW3]; exact below_set HB2.out hb0)
                have HO2 : Hid (W2.ownsRow w.heap.size 31 3 (.slice (some ⟨gT, 0, none⟩) ks.length c) ks.length (tcl ks)) := Lib.hid (HO3.out.kept hg1 (by
                  obtain ⟨inner, hi⟩ := Kd.R_own hmid1.top
                  exact own_type_ne HO3.out hi (by decide)))
                have HO5 : Hid (W3.ownsRow w.heap.size 31 3 (.slice (some ⟨gT, 0, none⟩) ks.length c) ks.length (tcl ks)) := Lib.hid (by
                  rw [hW3]
                  exact own_setCell HO2.out (fun h => by
                    have hx := own_type_ne HO2.out hm2.own (by decide)
                    rcases hx with hx | hx
                    · rw [← h] at hx; cases hx
                    · exact hx h.symm) _)
                clear hW3 hbw hrun hR1 hg1 hne hm2 hRy1 hP3 hpr3 hmid1 hx1 hgi2 hgi hgx hxl hl2
                refine start_ (n := 13) (ds := [12]) (S := fun w' => w'.cell? ⟨wr.heap.size + 1, 0, none⟩ = some (.int .i64 4) ∧ w'.cell? ⟨wr.heap.size + 1, 1, none⟩ = some (.string ⟨#[]⟩) ∧ w'.cell? ⟨wr.heap.size + 1, 2, none⟩ = some (.slice Ay f.to.length cy) ∧ w'.cell? ⟨b, st.length, none⟩ = some (.slice Ax f2.to.length cx)) #[false, false, false, false, false, false, false, false, false, false, false, false, false] (by kernel_rfl) rfl rfl ?_ ?_
                · rw [← hW1]; exact ⟨c0, c1, c2, c3⟩
                rw [← hW1]
                intro hHeld
                clear hW1
                refine pure_ (i := 0) (N := (some 80)) (v := ?_) (a' := ?_) #[true, false, false, false, false, false, false, false, false, false, false, false, false] rfl rfl (by kernel_rfl) (fun _ _ _ h => h) (Or.inl ⟨by rfl, ?_⟩) ?_ ?_
                rotate_left
                · intro w'
                  go_simp
                  with_reducible rfl
                rotate_left
                · simp only [Act.put, List.setIfInBounds_toArray, List.set_cons_zero, List.set_cons_succ, i64_w, i32_w]
                  rfl
                refine pure_ (i := 1) (N := (some 81)) (v := ?_) (a' := ?_) #[true, true, false, false, false, false, false, false, false, false, false, false, false] rfl rfl (by kernel_rfl) (fun _ _ _ h => h) (Or.inl ⟨by rfl, ?_⟩) ?_ ?_
                rotate_left
                · intro w'
                  go_simp
                  with_reducible rfl
                rotate_left
                · simp only [Act.put, List.setIfInBounds_toArray, List.set_cons_zero, List.set_cons_succ, i64_w, i32_w]
                  rfl
                refine pure_ (i := 2) (N := (some 82)) (v := ?_) (a' := ?_) #[true, true, true, false, false, false, false, false, false, false, false, false, false] rfl rfl (by kernel_rfl) (fun _ _ _ h => h) (Or.inl ⟨by rfl, ?_⟩) ?_ ?_
                rotate_left
                · intro w'
                  go_simp
                  with_reducible rfl
                rotate_left
                · simp only [Act.put, List.setIfInBounds_toArray, List.set_cons_zero, List.set_cons_succ, i64_w, i32_w]
                  rfl
                refine pure_ (i := 3) (N := (some 83)) (v := ?_) (a' := ?_) #[true, true, true, true, false, false, false, false, false, false, false, false, false] rfl rfl (by kernel_rfl) (fun _ _ _ h => h) (Or.inl ⟨by rfl, ?_⟩) ?_ ?_
                rotate_left
                · intro w'
                  go_simp
                  with_reducible rfl
                rotate_left
                · simp only [Act.put, List.setIfInBounds_toArray, List.set_cons_zero, List.set_cons_succ, i64_w, i32_w]
                  rfl
                refine pure_ (i := 4) (N := (some 84)) (v := ?_) (a' := ?_) #[true, true, true, true, true, false, false, false, false, false, false, false, false] rfl rfl (by kernel_rfl) (fun _ _ _ h => h) (Or.inl ⟨by rfl, ?_⟩) ?_ ?_
                rotate_left
                · intro w'
                  go_simp
                  with_reducible rfl
                rotate_left
                · simp only [Act.put, List.setIfInBounds_toArray, List.set_cons_zero, List.set_cons_succ, i64_w, i32_w]
                  rfl
                refine pure_ (i := 5) (N := (some 85)) (v := ?_) (a' := ?_) #[true, true, true, true, true, true, false, false, false, false, false, false, false] rfl rfl (by kernel_rfl) (fun _ _ _ h => h) (Or.inl ⟨by rfl, ?_⟩) ?_ ?_
                rotate_left
                · intro w'
                  go_simp
                  with_reducible rfl
                rotate_left
                · simp only [Act.put, List.setIfInBounds_toArray, List.set_cons_zero, List.set_cons_succ, i64_w, i32_w]
                  rfl
                refine pure_ (i := 6) (N := (some 86)) (v := ?_) (a' := ?_) #[true, true, true, true, true, true, true, false, false, false, false, false, false] rfl rfl (by kernel_rfl) (fun _ _ _ h => h) (Or.inl ⟨by rfl, ?_⟩) ?_ ?_
                rotate_left
                · intro w'
                  go_simp
                  with_reducible rfl
                rotate_left
                · simp only [Act.put, List.setIfInBounds_toArray, List.set_cons_zero, List.set_cons_succ, i64_w, i32_w]
                  rfl
                refine take_ (i := 7) (N := (some 87)) (v := ?_) (a' := ?_) #[true, true, true, true, true, true, true, true, false, false, false, false, false] rfl rfl (by kernel_rfl) (fun _ _ _ h => h) (Or.inl ⟨by rfl, ?_⟩) hHeld ?_ ?_
                rotate_left
                · rintro w' ⟨s0, s1, s2, s3⟩
                  go_simp
                  with_reducible rfl
                rotate_left
                · simp only [Act.put, List.setIfInBounds_toArray, List.set_cons_zero, List.set_cons_succ, i64_w, i32_w]
                  rfl
                refine take_ (i := 8) (N := (some 88)) (v := ?_) (a' := ?_) #[true, true, true, true, true, true, true, true, true, false, false, false, false] rfl rfl (by kernel_rfl) (fun _ _ _ h => h) (Or.inl ⟨by rfl, ?_⟩) hHeld ?_ ?_
                rotate_left
                · rintro w' ⟨s0, s1, s2, s3⟩
                  go_simp
                  with_reducible rfl
                rotate_left
                · simp only [Act.put, List.setIfInBounds_toArray, List.set_cons_zero, List.set_cons_succ, i64_w, i32_w]
                  rfl
                refine one_ (i := 9) (N := some 89) #[true, true, true, true, true, true, true, true, true, true, false, false, false] rfl rfl (by kernel_rfl) (by decide) (fun K hK => ?_)
                refine value_ (w1 := ?_) (v := ?_) (by rfl) rfl ?_ ?_
                rotate_left 2
                · go_simp
                  constructor
                  · rfl
                  · rfl
                refine hK.out _ _ HSA.out (fun hHeld => ?_)
                clear hK K
                refine norm_ (a' := ?_) ?_ ?_
                rotate_left
                · show Act.put _ (some 89) _ = _
                  simp only [Act.put, List.setIfInBounds_toArray, List.set_cons_zero, List.set_cons_succ, i64_w, i32_w]
                  rfl
                refine one_ (i := 10) (N := some 90) #[true, true, true, true, true, true, true, true, true, true, true, false, false] rfl rfl (by kernel_rfl) (by decide) (fun K hK => ?_)
                refine rstep_append (by rfl) (.tmp 87) (.tmp 89) 34 34 rfl (.slice Ax f2.to.length cx) (.slice (some ⟨W1.heap.size, 0, none⟩) 1 1) _ W2 (by rfl) (by rfl) HRUN.out ?_
                refine hK.out _ _ HSB.out (fun hHeld => ?_)
                clear hK K
                refine norm_ (a' := ?_) ?_ ?_
                rotate_left
                · show Act.put _ (some 90) _ = _
                  simp only [Act.put, List.setIfInBounds_toArray, List.set_cons_zero, List.set_cons_succ, i64_w, i32_w]
                  rfl
                refine pure_ (i := 11) (N := (some 91)) (v := ?_) (a' := ?_) #[true, true, true, true, true, true, true, true, true, true, true, true, false] rfl rfl (by kernel_rfl) (fun _ _ _ h => h) (Or.inl ⟨by rfl, ?_⟩) ?_ ?_
                rotate_left
                · intro w'
                  go_simp
                  with_reducible rfl
                rotate_left
                · simp only [Act.put, List.setIfInBounds_toArray, List.set_cons_zero, List.set_cons_succ, i64_w, i32_w]
                  rfl
                refine last_ (i := 12) (N := none) #[true, true, true, true, true, true, true, true, true, true, true, true, true] rfl rfl (by kernel_rfl) (by decide) (fun K hK => ?_)
                refine rstep_store (by rfl) rfl 34 (.tmp 91) (.tmp 90) rfl ⟨b, st.length, none⟩ (.slice (some ⟨g, 0, none⟩) (f2.to.length + 1) cap1) W3 (by rfl) (by rfl) HPR.out ?_
                refine hK.out _ _ ?_
                clear hK K
                refine done_ (by kernel_rfl) ?_
                clear hHeld c0 c1 c2 c3 HSA HSB HRUN HPR
                go_wp2
                go_roundw
                case rel => exact ⟨i + 1, f2.app (.cons 4 [] f .nil) :: st, by simp, by omega, HB5.out, HO5.out, HS5.out, by simp, by have := hTs.out; simp; omega, fun q hq => by
                  rcases List.mem_cons.1 hq with rfl | hq
                  · have := HF.out f2 (List.mem_cons_of_mem _ (List.mem_cons_self ..))
                    rw [F.len_app]
                    simp only [F.len]
                    omega
                  · have := HF.out q (List.mem_cons_of_mem _ (List.mem_cons_of_mem _ hq))
                    omega, HM2.out⟩
                case measure => simp only [numOf]; omega
          · have d0 : (k.kind == 0) = false := by simpa using k0
            have d1 : (k.kind == 1) = false := by simpa using k1
            have HM2 : Hid (mach (ks.drop (i + 1)) (f.app (.cons k.kind k.text .nil .nil) :: st) = R) := Lib.hid (by
              have := HD.out
              simp only [mach] at this
              rw [if_neg k0, if_neg k1] at this
              exact this)
            clear k0 k1
            obtain ⟨W1, hW1⟩ : ∃ W1, W1 = (wr.alloc (Obj.cells #[.int .i64 k.kind, .string ⟨k.text.toArray⟩, .int .i64 (k.at_ : Int)] 31)).drew := ⟨_, rfl⟩
            obtain ⟨gt, hgt⟩ : ∃ gt, gt = wr.heap.size := ⟨_, rfl⟩
            have hbw : Below (wr.alloc (Obj.cells #[.int .i64 k.kind, .string ⟨k.text.toArray⟩, .int .i64 (k.at_ : Int)] 31)).heap.size (wr.alloc (Obj.cells #[.int .i64 k.kind, .string ⟨k.text.toArray⟩, .int .i64 (k.at_ : Int)] 31)) W1 := by rw [hW1]; exact below_drew (Below.refl _ _)
            have hpt : W1.heap[gt]? = some (.cells #[.int .i64 k.kind, .string ⟨k.text.toArray⟩, .int .i64 (k.at_ : Int)] 31 (0, 0)) := by rw [hW1, hgt]; exact heap_alloc_new wr _
            have hsW := HS1.out.below hbw
            rw [lev_cons] at hsW
            obtain ⟨fc, vs, x, hvx, hmid⟩ := hsW.mid
            have hmp := hmid.paint
            have HB3 : Hid (Below w.heap.size w W1) := Lib.hid (by rw [hW1]; exact below_drew HB1.out)
            have HO3 := Lib.hid (pw_own_below HO1.out hbw)
            obtain ⟨x1, W2, g, cap1, hrun, hR1, hg1, rfl, hgb, hgl2, hne⟩ := append_f W1 w.heap.size x f.to z48 [.int .i64 0, .string ⟨#[]⟩, .slice none 0 0] _ (fun _ => False) HB3.out.size (by
              have := HF.out f (List.mem_cons_self ..)
              rw [F.to_len]; omega) hmp.top (k48_mkM _ _ _ z48 (Kd.R_nil _ _ _ _ _)) (fun _ h => h.elim) (fun q hq => by unfold paint; rw [if_pos hq])
            have hm2 := hmp.turn hg1 hR1
            have hgo : W1.ownsRow w.heap.size 31 3 (.slice (some ⟨gT, 0, none⟩) ks.length c) ks.length (tcl ks) := HO3.out
            obtain ⟨Ax, cx, rfl⟩ := Kd.R_slice hmp.top
            have hl1 : (lev st).length = st.length := lev_len st
            have c0 : W1.cell? ⟨gt, 0, none⟩ = some (.int .i64 k.kind) := (blk_cell hpt 0).trans rfl
            have c1 : W1.cell? ⟨gt, 1, none⟩ = some (.string ⟨k.text.toArray⟩) := (blk_cell hpt 1).trans rfl
            have c2 := hmp.cell hvx
            rw [hl1] at c2
            have hM3 := hm2.fill (y := ⟨k.kind, ⟨k.text.toArray⟩, []⟩) (cs := [.int .i64 k.kind, .string ⟨k.text.toArray⟩, .slice none 0 0]) (okp := fun _ => False) (k48_mkM _ _ _ ⟨k.kind, ⟨k.text.toArray⟩, []⟩ (Kd.R_nil _ _ _ _ _)) (fun _ h => h.elim)
            obtain ⟨W3, hW3⟩ : ∃ W3, W3 = W2.setCells g (f.to.length * 3) [.int .i64 k.kind, .string ⟨k.text.toArray⟩, .slice none 0 0] := ⟨_, rfl⟩
            have hst3 := hm2.fill_run (.int .i64 k.kind) (.string ⟨k.text.toArray⟩) (.slice none 0 0) (by intro u hu; simp only [List.mem_cons, List.not_mem_nil, or_false] at hu; rcases hu with rfl | rfl | rfl <;> rfl) rfl
            rw [← hW3] at hM3 hst3
            have hM4 := hM3.1.put rfl
            have hpt4 := hM3.1.put_run rfl rfl
            obtain ⟨W4, hW4⟩ : ∃ W4, W4 = W3.setCell ⟨b, (lev st).length, none⟩ (.slice (some ⟨g, 0, none⟩) (f.to.length + 1) cap1) := ⟨_, rfl⟩
            rw [← hW4] at hM4 hpt4
            rw [hl1] at hpt4
            obtain ⟨W5, hW5⟩ : ∃ W5, W5 = W2.setCell ⟨b, (lev st).length, none⟩ (.slice (some ⟨g, 0, none⟩) (f.to.length + 1) cap1) := ⟨_, rfl⟩
            have hP5 := hm2.put rfl
            have hpr5 := hm2.put_run rfl rfl
            rw [← hW5] at hP5 hpr5
            rw [hl1] at hpr5
            have hc5 := hP5.cell (y := .slice (some ⟨g, 0, none⟩) (f.to.length + 1) cap1) (by rw [List.getElem?_set_self (by have := hm2.len; omega)])
            rw [hl1] at hc5
            obtain ⟨W6, hW6⟩ : ∃ W6, W6 = W5.setCells g (f.to.length * 3) [.int .i64 k.kind, .string ⟨k.text.toArray⟩, .slice none 0 0] := ⟨_, rfl⟩
            have hP6 := hP5.fill (y := ⟨k.kind, ⟨k.text.toArray⟩, []⟩) (cs := [.int .i64 k.kind, .string ⟨k.text.toArray⟩, .slice none 0 0]) (okp := fun _ => False) (k48_mkM _ _ _ ⟨k.kind, ⟨k.text.toArray⟩, []⟩ (Kd.R_nil _ _ _ _ _)) (fun _ h => h.elim)
            have hst6 := hP5.fill_run (.int .i64 k.kind) (.string ⟨k.text.toArray⟩) (.slice none 0 0) (by intro u hu; simp only [List.mem_cons, List.not_mem_nil, or_false] at hu; rcases hu with rfl | rfl | rfl <;> rfl) rfl
            rw [← hW6] at hP6 hst6
            have HRUN := Lib.hid hrun
            have HST := Lib.hid hst3
            have HPR5 := Lib.hid hpr5
            have HST6 := Lib.hid hst6
            have HC5 := Lib.hid hc5
            have HPT := Lib.hid hpt4
            have hgtl : gt < W1.heap.size := blk_lt hpt
            have hgx : some gt ≠ (Value.slice Ax f.to.length cx).ownBlock := Kd.R_ne hmp.top hpt (by decide)
            have hpt2 := (hg1.block gt hgtl hgx).trans hpt
            have hgg : gt ≠ g := fun h => by
              obtain ⟨cur, hh, _⟩ := R_row hm2.top
              rw [← h, hpt2] at hh
              injection hh with hh
              injection hh with _ hh
              cases hh
            have hpt3 := (hM3.2.block gt (blk_lt hpt2) (fun h => hgg (Option.some.inj h))).trans hpt2
            have HSA : Hid ((W1.alloc (.cells #[.int .i64 0, .string ⟨#[]⟩, .slice none 0 0] 48)).cell? ⟨gt, 0, none⟩ = some (.int .i64 k.kind) ∧ (W1.alloc (.cells #[.int .i64 0, .string ⟨#[]⟩, .slice none 0 0] 48)).cell? ⟨gt, 1, none⟩ = some (.string ⟨k.text.toArray⟩) ∧ (W1.alloc (.cells #[.int .i64 0, .string ⟨#[]⟩, .slice none 0 0] 48)).cell? ⟨b, st.length, none⟩ = some (.slice Ax f.to.length cx)) :=
              Lib.hid ⟨(World.cell?_alloc_lt _ _ _ hgtl).trans c0, (World.cell?_alloc_lt _ _ _ hgtl).trans c1, (World.cell?_alloc_lt _ _ _ (World.block_lt_of_cell? _ _ c2)).trans c2⟩
            have HSB : Hid (W2.cell? ⟨gt, 0, none⟩ = some (.int .i64 k.kind) ∧ W2.cell? ⟨gt, 1, none⟩ = some (.string ⟨k.text.toArray⟩) ∧ W2.cell? ⟨b, st.length, none⟩ = some (.slice Ax f.to.length cx)) :=
              Lib.hid ⟨(blk_cell hpt2 0).trans rfl, (blk_cell hpt2 1).trans rfl, by have := hm2.cell hvx; rwa [hl1] at this⟩
            have HSC : Hid (W3.cell? ⟨gt, 0, none⟩ = some (.int .i64 k.kind) ∧ W3.cell? ⟨gt, 1, none⟩ = some (.string ⟨k.text.toArray⟩) ∧ W3.cell? ⟨b, st.length, none⟩ = some (.slice Ax f.to.length cx)) :=
              Lib.hid ⟨(blk_cell hpt3 0).trans rfl, (blk_cell hpt3 1).trans rfl, by have := hM3.1.cell hvx; rwa [hl1] at this⟩
            have HS5 : Hid (Stk W4 w.heap.size (.slice (some ⟨b, 0, none⟩) (st.length + 1) cap) (lev (f.app (.cons k.kind k.text .nil .nil) :: st))) := Lib.hid (by
              rw [lev_cons, F.to_app]
              exact hM4.stk (by rw [List.getElem?_set_self (by have := hM4.len; rw [List.length_set] at this; omega)]))
            have HB2' : Hid (Below w.heap.size w W2) := Lib.hid (HB3.out.grown hg1 HB3.out.size (fun q hq => Kd.R_base hmp.top q hq))
            have HB5 : Hid (Below w.heap.size w W4) := Lib.hid (by
              have h3 := HB2'.out.grown hM3.2 HB2'.out.size (fun q hq => by have : g = q := Option.some.inj hq; omega)
              rw [hW4]
              exact below_set h3 hb0)
            have HB6 : Hid (Below w.heap.size w W6) := Lib.hid (by
              have h3 : Below w.heap.size w W5 := by rw [hW5]; exact below_set HB2'.out hb0
              exact h3.grown hP6.2 h3.size (fun q hq => by have : g = q := Option.some.inj hq; omega))
            have HO2' : Hid (W2.ownsRow w.heap.size 31 3 (.slice (some ⟨gT, 0, none⟩) ks.length c) ks.length (tcl ks)) := Lib.hid (HO3.out.kept hg1 (by
                obtain ⟨inner, hi⟩ := Kd.R_own hmp.top
                exact own_type_ne HO3.out hi (by decide)))
            have HO5 : Hid (W4.ownsRow w.heap.size 31 3 (.slice (some ⟨gT, 0, none⟩) ks.length c) ks.length (tcl ks)) := Lib.hid (by
              have h3 := HO2'.out.kept hM3.2 (by
                obtain ⟨inner, hi⟩ := Kd.R_own hm2.top
                exact own_type_ne HO2'.out hi (by decide))
              rw [hW4]
              exact own_setCell h3 (fun h => by
                have hx := own_type_ne h3 hM3.1.own (by decide)
                rcases hx with hx | hx
                · rw [← h] at hx; cases hx
                · exact hx h.symm) _)
            have HO6 : Hid (W6.ownsRow w.heap.size 31 3 (.slice (some ⟨gT, 0, none⟩) ks.length c) ks.length (tcl ks)) := Lib.hid (by
              have h3 : W5.ownsRow w.heap.size 31 3 (.slice (some ⟨gT, 0, none⟩) ks.length c) ks.length (tcl ks) := by
                rw [hW5]
                exact own_setCell HO2'.out (fun h => by
                  have hx := own_type_ne HO2'.out hm2.own (by decide)
                  rcases hx with hx | hx
                  · rw [← h] at hx; cases hx
                  · exact hx h.symm) _
              exact h3.kept hP6.2 (by
                obtain ⟨inner, hi⟩ := Kd.R_own hP5.top
                exact own_type_ne h3 hi (by decide)))
            have HS6 : Hid (Stk W6 w.heap.size (.slice (some ⟨b, 0, none⟩) (st.length + 1) cap) (lev (f.app (.cons k.kind k.text .nil .nil) :: st))) := Lib.hid (by
              rw [lev_cons, F.to_app]
              exact hP6.1.stk (by rw [List.getElem?_set_self (by have := hP6.1.len; rw [List.length_set] at this; omega)]))
            clear hW3 hW4 hW5 hW6 hP5 hP6 hpr5 hst6 hc5 hbw hrun hst3 hpt4 hM3 hM4 hm2 hmp hmid hR1 hg1 hne hvx hpt hpt2 hpt3 hgo hgx hgg hsW
            have hlt9 : ((st.length : Int) < (st.length : Int) + 1) = True := eq_true (by omega)
            have hlt10 : ((f.to.length : Int) < (f.to.length : Int) + 1) = True := eq_true (by omega)
            subst hgt
            go_upto_block 10 with fail
            refine start_ (n := 16) (ds := [15]) (S := fun w' => w'.cell? ⟨wr.heap.size, 0, none⟩ = some (.int .i64 k.kind) ∧ w'.cell? ⟨wr.heap.size, 1, none⟩ = some (.string ⟨k.text.toArray⟩) ∧ w'.cell? ⟨b, st.length, none⟩ = some (.slice Ax f.to.length cx)) #[false, false, false, false, false, false, false, false, false, false, false, false, false, false, false, false] (by kernel_rfl) rfl rfl ?_ ?_
            · rw [← hW1]; exact ⟨c0, c1, c2⟩
            rw [← hW1]
            intro hHeld
            clear hW1
            refine pure_ (i := 0) (N := (some 31)) (v := ?_) (a' := ?_) #[true, false, false, false, false, false, false, false, false, false, false, false, false, false, false, false] rfl rfl (by kernel_rfl) (fun _ _ _ h => h) (Or.inl ⟨by rfl, ?_⟩) ?_ ?_
            rotate_left
            · intro w'
              go_simp
              with_reducible rfl
            rotate_left
            · simp only [Act.put, List.setIfInBounds_toArray, List.set_cons_zero, List.set_cons_succ, i64_w, i32_w]
              rfl
            refine pure_ (i := 1) (N := (some 32)) (v := ?_) (a' := ?_) #[true, true, false, false, false, false, false, false, false, false, false, false, false, false, false, false] rfl rfl (by kernel_rfl) (fun _ _ _ h => h) (Or.inl ⟨by rfl, ?_⟩) ?_ ?_
            rotate_left
            · intro w'
              go_simp
              with_reducible rfl
            rotate_left
            · simp only [Act.put, List.setIfInBounds_toArray, List.set_cons_zero, List.set_cons_succ, i64_w, i32_w]
              rfl
            refine pure_ (i := 2) (N := (some 33)) (v := ?_) (a' := ?_) #[true, true, true, false, false, false, false, false, false, false, false, false, false, false, false, false] rfl rfl (by kernel_rfl) (fun _ _ _ h => h) (Or.inl ⟨by rfl, ?_⟩) ?_ ?_
            rotate_left
            · intro w'
              go_simp
              with_reducible rfl
            rotate_left
            · simp only [Act.put, List.setIfInBounds_toArray, List.set_cons_zero, List.set_cons_succ, i64_w, i32_w]
              rfl
            refine pure_ (i := 4) (N := (some 35)) (v := ?_) (a' := ?_) #[true, true, true, false, true, false, false, false, false, false, false, false, false, false, false, false] rfl rfl (by kernel_rfl) (fun _ _ _ h => h) (Or.inl ⟨by rfl, ?_⟩) ?_ ?_
            rotate_left
            · intro w'
              go_simp
              with_reducible rfl
            rotate_left
            · simp only [Act.put, List.setIfInBounds_toArray, List.set_cons_zero, List.set_cons_succ, i64_w, i32_w]
              rfl
            refine pure_ (i := 6) (N := (some 37)) (v := ?_) (a' := ?_) #[true, true, true, false, true, false, true, false, false, false, false, false, false, false, false, false] rfl rfl (by kernel_rfl) (fun _ _ _ h => h) (Or.inl ⟨by rfl, ?_⟩) ?_ ?_
            rotate_left
            · intro w'
              go_simp
              with_reducible rfl
            rotate_left
            · simp only [Act.put, List.setIfInBounds_toArray, List.set_cons_zero, List.set_cons_succ, i64_w, i32_w]
              rfl
            refine take_ (i := 3) (N := (some 34)) (v := ?_) (a' := ?_) #[true, true, true, true, true, false, true, false, false, false, false, false, false, false, false, false] rfl rfl (by kernel_rfl) (fun _ _ _ h => h) (Or.inl ⟨by rfl, ?_⟩) hHeld ?_ ?_
            rotate_left
            · rintro w' ⟨s0, s1, s2⟩
              go_simp
              with_reducible rfl
            rotate_left
            · simp only [Act.put, List.setIfInBounds_toArray, List.set_cons_zero, List.set_cons_succ, i64_w, i32_w]
              rfl
            refine take_ (i := 5) (N := (some 36)) (v := ?_) (a' := ?_) #[true, true, true, true, true, true, true, false, false, false, false, false, false, false, false, false] rfl rfl (by kernel_rfl) (fun _ _ _ h => h) (Or.inl ⟨by rfl, ?_⟩) hHeld ?_ ?_
            rotate_left
            · rintro w' ⟨s0, s1, s2⟩
              go_simp
              with_reducible rfl
            rotate_left
            · simp only [Act.put, List.setIfInBounds_toArray, List.set_cons_zero, List.set_cons_succ, i64_w, i32_w]
              rfl
            refine take_ (i := 7) (N := (some 38)) (v := ?_) (a' := ?_) #[true, true, true, true, true, true, true, true, false, false, false, false, false, false, false, false] rfl rfl (by kernel_rfl) (fun _ _ _ h => h) (Or.inl ⟨by rfl, ?_⟩) hHeld ?_ ?_
            rotate_left
            · rintro w' ⟨s0, s1, s2⟩
              go_simp
              with_reducible rfl
            rotate_left
            · simp only [Act.put, List.setIfInBounds_toArray, List.set_cons_zero, List.set_cons_succ, i64_w, i32_w]
              rfl
            refine pure_ (i := 8) (N := (some 39)) (v := ?_) (a' := ?_) #[true, true, true, true, true, true, true, true, true, false, false, false, false, false, false, false] rfl rfl (by kernel_rfl) (fun _ _ _ h => h) (Or.inl ⟨by rfl, ?_⟩) ?_ ?_
            rotate_left
            · intro w'
              go_simp
              with_reducible rfl
            rotate_left
            · simp only [Act.put, List.setIfInBounds_toArray, List.set_cons_zero, List.set_cons_succ, i64_w, i32_w]
              rfl
            refine pure_ (i := 9) (N := (some 40)) (v := ?_) (a' := ?_) #[true, true, true, true, true, true, true, true, true, true, false, false, false, false, false, false] rfl rfl (by kernel_rfl) (fun _ _ _ h => h) (Or.inl ⟨by rfl, ?_⟩) ?_ ?_
            rotate_left
            · intro w'
              go_simp
              with_reducible rfl
            rotate_left
            · simp only [Act.put, List.setIfInBounds_toArray, List.set_cons_zero, List.set_cons_succ, i64_w, i32_w]
              rfl
            refine one_ (i := 10) (N := some 41) #[true, true, true, true, true, true, true, true, true, true, true, false, false, false, false, false] rfl rfl (by kernel_rfl) (by decide) (fun K hK => ?_)
            refine value_ (w1 := ?_) (v := ?_) (by rfl) rfl ?_ ?_
            rotate_left 2
            · go_simp
              constructor
              · rfl
              · rfl
            refine hK.out _ _ HSA.out (fun hHeld => ?_)
            clear hK K
            refine norm_ (a' := ?_) ?_ ?_
            rotate_left
            · show Act.put _ (some 41) _ = _
              simp only [Act.put, List.setIfInBounds_toArray, List.set_cons_zero, List.set_cons_succ, i64_w, i32_w]
              rfl
            refine one_ (i := 11) (N := some 42) #[true, true, true, true, true, true, true, true, true, true, true, true, false, false, false, false] rfl rfl (by kernel_rfl) (by decide) (fun K hK => ?_)
            refine rstep_append (by rfl) (.tmp 34) (.tmp 41) 34 34 rfl (.slice Ax f.to.length cx) (.slice (some ⟨W1.heap.size, 0, none⟩) 1 1) _ W2 (by rfl) (by rfl) HRUN.out ?_
            refine hK.out _ _ HSB.out (fun hHeld => ?_)
            clear hK K
            refine norm_ (a' := ?_) ?_ ?_
            rotate_left
            · show Act.put _ (some 42) _ = _
              simp only [Act.put, List.setIfInBounds_toArray, List.set_cons_zero, List.set_cons_succ, i64_w, i32_w]
              rfl
            refine pure_ (i := 12) (N := (some 43)) (v := ?_) (a' := ?_) #[true, true, true, true, true, true, true, true, true, true, true, true, true, false, false, false] rfl rfl (by kernel_rfl) (fun _ _ _ h => h) (Or.inl ⟨by rfl, ?_⟩) ?_ ?_
            rotate_left
            · intro w'
              go_simp
              with_reducible rfl
            rotate_left
            · simp only [Act.put, List.setIfInBounds_toArray, List.set_cons_zero, List.set_cons_succ, i64_w, i32_w]
              rfl
            refine pure_ (i := 14) (N := (some 44)) (v := ?_) (a' := ?_) #[true, true, true, true, true, true, true, true, true, true, true, true, true, false, true, false] rfl rfl (by kernel_rfl) (fun _ _ _ h => h) (Or.inl ⟨by rfl, ?_⟩) ?_ ?_
            rotate_left
            · intro w'
              go_simp
              with_reducible rfl
            rotate_left
            · simp only [Act.put, List.setIfInBounds_toArray, List.set_cons_zero, List.set_cons_succ, i64_w, i32_w]
              rfl
            refine both_ (i := 13) (j := 15) (Ni := none) (Nj := none) #[true, true, true, true, true, true, true, true, true, true, true, true, true, true, true, false] #[true, true, true, true, true, true, true, true, true, true, true, true, true, false, true, true] rfl rfl rfl rfl (by kernel_rfl) (by decide) (by decide) (fun K hK => ?_) (fun K hK => ?_)
            · refine rstep_store (by rfl) rfl 48 (.tmp 43) (.tmp 39) rfl ⟨g, f.to.length * 3, none⟩ (.agg #[.int .i64 k.kind, .string ⟨k.text.toArray⟩, .slice none 0 0]) W3 (by rfl) (by rfl) HST.out ?_
              refine hK.out _ _ HSC.out (fun hHeld => ?_)
              clear hK K
              refine last_ (i := 15) (N := none) #[true, true, true, true, true, true, true, true, true, true, true, true, true, true, true, true] rfl rfl (by kernel_rfl) (by decide) (fun K hK => ?_)
              refine rstep_store (by rfl) rfl 34 (.tmp 44) (.tmp 42) rfl ⟨b, st.length, none⟩ (.slice (some ⟨g, 0, none⟩) (f.to.length + 1) cap1) W4 (by rfl) (by rfl) HPT.out ?_
              refine hK.out _ _ ?_
              clear hK K
              refine done_ (by kernel_rfl) ?_
              clear hlt9 hlt10 c0 c1 c2 HSA HSB HSC HRUN HST HPT HPR5 HST6 HC5
              try clear hHeld
              go_wp2
              go_roundw
              case rel => exact ⟨i + 1, f.app (.cons k.kind k.text .nil .nil) :: st, by simp, by omega, HB5.out, HO5.out, HS5.out, by simp, by simp; omega, fun q hq => by
                rcases List.mem_cons.1 hq with rfl | hq
                · have := HF.out f (List.mem_cons_self ..)
                  rw [F.len_app]
                  simp only [F.len]
                  omega
                · have := HF.out q (List.mem_cons_of_mem _ hq)
                  omega, HM2.out⟩
              case measure => simp only [numOf]; omega
            · refine rstep_store (by rfl) rfl 34 (.tmp 44) (.tmp 42) rfl ⟨b, st.length, none⟩ (.slice (some ⟨g, 0, none⟩) (f.to.length + 1) cap1) W5 (by rfl) (by rfl) HPR5.out ?_
              refine hK.out _ _ ?_
              clear hK K
              refine dead_ (i := 13) (N := none) #[true, true, true, true, true, true, true, true, true, true, true, true, true, true, true, true] rfl rfl (by kernel_rfl) (fun h => ?_) (fun K hK => ?_)
              · have h2 := HC5.out.symm.trans h.2.2
                injection h2 with h2
                injection h2 with _ h2 _
                omega
              refine rstep_store (by rfl) rfl 48 (.tmp 43) (.tmp 39) rfl ⟨g, f.to.length * 3, none⟩ (.agg #[.int .i64 k.kind, .string ⟨k.text.toArray⟩, .slice none 0 0]) W6 (by rfl) (by rfl) HST6.out ?_
              refine hK.out _ _ ?_
              clear hK K
              refine done_ (by kernel_rfl) ?_
              clear hlt9 hlt10 c0 c1 c2 HSA HSB HSC HRUN HST HPT HPR5 HST6 HC5
              try clear hHeld
              go_wp2
              go_roundw
              case rel => exact ⟨i + 1, f.app (.cons k.kind k.text .nil .nil) :: st, by simp, by omega, HB6.out, HO6.out, HS6.out, by simp, by simp; omega, fun q hq => by
                rcases List.mem_cons.1 hq with rfl | hq
                · have := HF.out f (List.mem_cons_self ..)
                  rw [F.len_app]
                  simp only [F.len]
                  omega
                · have := HF.out q (List.mem_cons_of_mem _ hq)
                  omega, HM2.out⟩
              case measure => simp only [numOf]; omega
      · have hie : i = ks.length := by omega
        have hge : ((i : Int) < (ks.length : Int)) = False := eq_false (by omega)
        clear hlt
        obtain ⟨f, st, rfl⟩ : ∃ f st2, st = f :: st2 := by
          cases st with
          | nil => exact absurd hs0 (by simp)
          | cons f st => exact ⟨f, st, rfl⟩
        obtain ⟨b, cap, rfl, hb0, hbl⟩ : ∃ b cap, u6 = .slice (some ⟨b, 0, none⟩) (st.length + 1) cap ∧ w.heap.size ≤ b ∧ b < wr.heap.size := by
          obtain ⟨_, _, _, h2, _⟩ := HS.out.out
          rw [lev_len, List.length_cons] at h2
          rcases own_form h2 with ⟨h0, _⟩ | h
          · omega
          · exact h
        have hmm := HM.out
        rw [hie, List.drop_length] at hmm
        cases st with
        | nil =>
          have HE : Hid (R = (0, f)) := Lib.hid hmm.symm
          obtain ⟨fc, vs, x, hvx, hmid⟩ := (show Stk wr w.heap.size _ ([] ++ [f.to]) from HS.out).mid
          have c0 : wr.cell? ⟨b, 0, none⟩ = some x := hmid.cell hvx
          have HR1 := Lib.hid (Kd.R_mono hmid.top (fun _ _ => trivial))
          clear hmm hmid hvx hie
          go_wp2
          go_ret2
          exact ⟨_, by rw [HE.out]; rfl, by rw [HE.out]; exact HR1.out, HBR.out⟩
        | cons f2 st =>
          have HE : Hid (R = (71, .nil)) := Lib.hid hmm.symm
          clear hmm hie
          go_wp2
          go_ret2
          exact ⟨.slice none 0 0, by rw [HE.out]; rfl, by rw [HE.out]; exact Kd.R_nil _ _ _ _ _, HBR.out⟩
end Go.Proofs.YtjecdciabpjgcaaDoor.Lx
