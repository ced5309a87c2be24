/-
  The walk of the reader's next (one word). Condition: the library's variable internal/bytealg.MaxLen holds a number; the text is no longer than 1100000 bytes.
-/
import Derived.Test.YtjecdciabpjgcaaDoorLxH
import Derived.StillTailTactics
namespace Go.Proofs.YtjecdciabpjgcaaDoor.Lx
set_option linter.unusedVariables false
set_option linter.unusedSimpArgs false
open Go.RowKit Go.Proofs.YtjecdciabpjgcaaDoorW.PrintWords Go.Proofs.YtjecdciabpjgcaaDoor.PLx

structure NxQ (g : Nat) (s : ByteArray) (n : Nat) (w : World) (R : Option (Tok × List UInt8)) (e : Ending) (w' : World) : Prop where mk ::
  (out : ∃ m, m ≤ s.size ∧ Rd w' g s m ∧ Turn w w' g ∧ ((R = none ∧ ∃ k t, e = .returned (.tuple #[.agg #[.int .i64 k, .string t, .int .i64 (n : Int)], .bool false])) ∨
    ∃ k : Tok, R = some (k, s.data.toList.drop m) ∧ n < m ∧ e = .returned (.tuple #[.agg #[.int .i64 k.kind, .string ⟨k.text.toArray⟩, .int .i64 (k.at_ : Int)], .bool true])))
theorem sl_run (s : ByteArray) (a b : Nat) (c : Int) (hc : c = (b : Int)) (h1 : a ≤ b) (h2 : b ≤ s.size) (W : World) : (Instr.slice 9 (.string s) (some (.int .i64 (a : Int))) (some (.int .i64 c)) none).run Tryd.prog W = .ok (.string (s.extract a b)) W := by
  subst hc
  have := run_slice_string (P := Tryd.prog) (w := W) 9 s .i64 .i64 (a : Int) (b : Int) Tryd.underlying9 (by omega) (by omega) (by omega)
  rw [this]; rfl
theorem one_at (s : ByteArray) (n : Nat) (h : n < s.size) : s.extract n (n + 1) = ⟨#[s[n]]⟩ := by
  have e : (s.extract n (n + 1)).data.toList = [s[n]] := by
    rw [Lib.extract_data, drop_at s n h, show n + 1 - n = 1 by omega]; rfl
  have h2 : (s.extract n (n + 1)) = ⟨(s.extract n (n + 1)).data.toList.toArray⟩ := rfl
  rw [h2, e]
theorem byte_eq (c d : UInt8) (h : c = d) : ((c.toNat : Int) == (d.toNat : Int)) = true := by rw [h]; simp
theorem byte_ne (c d : UInt8) (h : c ≠ d) : ((c.toNat : Int) == (d.toNat : Int)) = false := by
  simp only [beq_eq_false_iff_ne, ne_eq]
  intro e
  exact h (UInt8.toNat_inj.1 (by omega))
theorem set3 {W : World} {pv : Nat} {x y z : Value} (a b c : Value) (h : W.heap[pv]? = some (.cells #[x, y, z] 31 (0, 0))) :
    (((W.setCell ⟨pv, 0, none⟩ a).setCell ⟨pv, 1, none⟩ b).setCell ⟨pv, 2, none⟩ c).heap[pv]? = some (.cells #[a, b, c] 31 (0, 0)) := by
  have := blk_set (blk_set (blk_set h 0 a) 1 b) 2 c
  simpa using this
theorem Turn.setN {w W : World} {g p i : Nat} (h : Turn w W g) (hp : w.heap.size ≤ p) (u : Value) : Turn w (W.setCell ⟨p, i, none⟩ u) g :=
  ⟨h.os, h.tape, h.output, by simpa [World.setCell] using h.size, fun k hk hg => (Below.heap_setCell W ⟨p, i, none⟩ u k (by show k ≠ p; omega)).trans (h.block k hk hg)⟩
theorem Rd.setN {W : World} {g p i : Nat} {s : ByteArray} {n : Nat} (h : Rd W g s n) (hp : g ≠ p) (u : Value) : Rd (W.setCell ⟨p, i, none⟩ u) g s n :=
  ⟨(Below.heap_setCell W ⟨p, i, none⟩ u g hp).trans h.out⟩
theorem blk_far {W : World} {q p i : Nat} {o : Obj} (h : W.heap[q]? = some o) (hp : q ≠ p) (u : Value) : (W.setCell ⟨p, i, none⟩ u).heap[q]? = some o := (Below.heap_setCell W ⟨p, i, none⟩ u q hp).trans h
theorem blk_drewN {W : World} {q : Nat} {o : Obj} (h : W.heap[q]? = some o) (m : Nat) : (W.drewN m).heap[q]? = some o := by simpa using h
theorem size31 : (Tryd.prog.info? 31).map (·.size) = some 3 := by kernel_rfl
theorem nxt_at (n : Nat) (c : UInt8) (t : List UInt8) (h1 : c ≠ 40) (h2 : c ≠ 41) (h3 : c ≠ 34) : nxt n (c :: t) = if (c :: t).takeWhile isSign = [] then none else some (⟨2, (c :: t).takeWhile isSign, n⟩, (c :: t).dropWhile isSign) := by
  simp only [nxt]; rw [if_neg h1, if_neg h2, if_neg h3]
theorem nxt_str (n : Nat) (t : List UInt8) : nxt n (34 :: t) = match str (t.length + 1) t [] with | none => none | some (x, r) => some (⟨3, x, n⟩, r) := by
  simp only [nxt]; rw [if_neg (by decide), if_neg (by decide)]
  cases str (t.length + 1) t [] <;> rfl
theorem str_len : ∀ (f : Nat) (l out x r : List UInt8), str f l out = some (x, r) → r.length < l.length := by
  intro f
  induction f with
  | zero => intro l out x r h; cases h
  | succ f ih =>
    intro l out x r h
    cases l with
    | nil => cases h
    | cons c t =>
      by_cases c1 : c = 34
      · subst c1
        rw [str_end] at h
        injection h with h; injection h with _ h; subst h; simp
      · by_cases c2 : c < 32 ∨ c = 127
        · rw [str_bad _ _ _ _ c1 c2] at h; cases h
        · by_cases c3 : c = 92
          · subst c3
            rw [str_esc] at h
            cases he : esc t with
            | none => rw [he] at h; cases h
            | some p =>
              obtain ⟨b, k⟩ := p
              rw [he] at h
              have := ih _ _ _ _ h
              rw [List.length_drop] at this
              simp only [List.length_cons]
              omega
          · rw [str_on _ _ _ _ c1 c2 c3] at h
            have := ih _ _ _ _ h
            simp only [List.length_cons]
            omega
theorem sgn_q (x : Nat) (hx : x < 256) (b : Bool) (h : isSign x.toUInt8 = b) (w : World) :
    Calls Tryd.prog 30 #[.int .u8 (x : Int)] w fun e w' => e = .returned (.bool b) ∧ w' = w := (sgn_c x hx w).mono fun e w' hh => ⟨by rw [hh.1, h], hh.2.symm⟩
def NtR (g : Nat) (s : ByteArray) (n : Nat) (w : World) (pv pt : Nat) (wr : World) : Prop :=
  ∃ m, n ≤ m ∧ m ≤ s.size ∧ Rd wr g s m ∧ Turn w wr g ∧ wr.heap[pv]? = some (.cells #[.int .i64 0, .string ⟨#[]⟩, .int .i64 0] 31 (0, 0)) ∧ wr.heap[pt]? = some (.cells #[.int .i64 0, .string ⟨#[s[n]!]⟩, .int .i64 (n : Int)] 31 (0, 0)) ∧
    (s.data.toList.drop n).takeWhile isSign = (s.data.toList.drop n).take (m - n) ++ (s.data.toList.drop m).takeWhile isSign
theorem take_grow (s : ByteArray) (n m : Nat) (h1 : n ≤ m) (h2 : m < s.size) : (s.data.toList.drop n).take (m + 1 - n) = (s.data.toList.drop n).take (m - n) ++ [s[m]] := by
  have hl : m - n < (s.data.toList.drop n).length := by rw [List.length_drop, len_data]; omega
  rw [show m + 1 - n = (m - n) + 1 by omega, List.take_succ_eq_append_getElem hl]
  congr 2
  rw [List.getElem_drop]
  have : n + (m - n) = m := by omega
  simp only [this]
  rfl
theorem ext_tw (s : ByteArray) (n m : Nat) : s.extract n m = ⟨((s.data.toList.drop n).take (m - n)).toArray⟩ := by
  have h2 : (s.extract n m) = ⟨(s.extract n m).data.toList.toArray⟩ := rfl
  rw [h2, Lib.extract_data]
theorem dw_drop (l : List UInt8) (p : UInt8 → Bool) : l.dropWhile p = l.drop (l.takeWhile p).length := by
  induction l with
  | nil => rfl
  | cons c t ih =>
    by_cases h : p c = true
    · rw [List.dropWhile_cons_of_pos h, List.takeWhile_cons_of_pos h, List.length_cons, List.drop_succ_cons, ih]
    · rw [List.dropWhile_cons_of_neg h, List.takeWhile_cons_of_neg h]; rfl
theorem NtR.drewN {g : Nat} {s : ByteArray} {n : Nat} {w : World} {pv pt : Nat} {wr : World} (h : NtR g s n w pv pt wr) (k : Nat) : NtR g s n w pv pt (wr.drewN k) := by
  obtain ⟨m, h1, h2, h3, h4, h5, h6, h7⟩ := h
  exact ⟨m, h1, h2, h3.drewN k, h4.trans (Turn.drewN _ _ _), blk_drewN h5 k, blk_drewN h6 k, h7⟩
set_option maxRecDepth 1000000 in
set_option maxHeartbeats 2000000 in
theorem next_c (g : Nat) (s : ByteArray) (n : Nat) (hn : n < s.size) (hs : s.size ≤ 1100000) (w : World) (hr : Rd w g s n) (hg0 : g ≠ 0) (hm : ML w) (R : Option (Tok × List UInt8)) (hR : nxt n (s.data.toList.drop n) = R) :
    Calls Tryd.prog 20 #[.pointer (some ⟨g, 0, none⟩)] w (NxQ g s n w R) := by
  obtain ⟨W, hW⟩ : ∃ W, W = w.alloc (Obj.cells #[.int .i64 0, .string ⟨#[]⟩, .int .i64 0] 31) := ⟨_, rfl⟩
  have hB : Below w.heap.size w W := by rw [hW]; exact (Below.refl _ _).alloc (Nat.le_refl _) _
  have hr1 := hr.below hB
  have HR0 := Lib.hid hr1
  have HB0 := Lib.hid hB
  have hv : W.heap[w.heap.size]? = some (.cells #[.int .i64 0, .string ⟨#[]⟩, .int .i64 0] 31 (0, 0)) := by rw [hW]; exact heap_alloc_new w _
  obtain ⟨pv, hpv⟩ : ∃ pv, pv = w.heap.size := ⟨_, rfl⟩
  rw [← hpv] at hv
  have HPV := Lib.hid hpv
  have HV := Lib.hid hv
  have HGL := Lib.hid hr.lt
  have HM := Lib.hid (hm.below hB)
  have h0 := hr1.c0
  have h1 := hr1.c1
  have hfz := hr1.f1
  have hgl := hr1.lt
  have hn1 : (n : Int) < (s.size : Int) := by omega
  have hsl := sl_run s n (n + 1) ((n : Int) + 1) (by push_cast; rfl) (by omega) (by omega)
  rw [one_at s n hn] at hsl
  have hw1 : IntKind.i64.wrap ((n : Int) + 1) = (n : Int) + 1 := IntWalk.i64_in _ (by omega)
  have hw2 : 0 ≤ (n : Int) + 1 := by omega
  have hw3 : ((n : Int) + 1).toNat = n + 1 := by omega
  have hw4 : (n : Int) + 1 ≤ (s.size : Int) := by omega
  have hdr := drop_at s n hn
  rw [hdr] at hR
  have HR := Lib.hid hR
  have hx := UInt8.toNat_lt s[n]
  clear hr hB hv hr1 hR hm
  go_enter Tryd.func20, Tryd.ntmps20
  go_wp2
  rw [← hW, ← hpv]
  clear hW hpv hdr
  go_region_held3 (fun w' => w'.cell? ⟨g, 0, none⟩ = some (.string s) ∧ w'.cell? ⟨g, 1, none⟩ = some (.int .i64 (n : Int))) (first | exact ⟨h0, h1⟩ | go_keep | (simp [go_sem, World.cell?_alloc_past, h0, h1, hgl])) ((fail))
  rename_i hHeld
  clear hHeld hsl hw1 hw2 hw3 h0 h1 hfz hgl
  obtain ⟨W2, hW2⟩ : ∃ W2, W2 = (W.alloc (Obj.cells #[.int .i64 0, .string ⟨#[s[n]]⟩, .int .i64 (n : Int)] 31)).drew := ⟨_, rfl⟩
  obtain ⟨pt, hpt⟩ : ∃ pt, pt = W.heap.size := ⟨_, rfl⟩
  rw [← hW2, ← hpt]
  have hB2 : Below W.heap.size W W2 := by rw [hW2]; exact below_drew ((Below.refl _ _).alloc (Nat.le_refl _) _)
  have hr2 := HR0.out.below hB2
  have HR2 := Lib.hid hr2
  have hv2 : W2.heap[pv]? = some (.cells #[.int .i64 0, .string ⟨#[]⟩, .int .i64 0] 31 (0, 0)) := (hB2.block pv (blk_lt HV.out)).trans HV.out
  have ht2 : W2.heap[pt]? = some (.cells #[.int .i64 0, .string ⟨#[s[n]]⟩, .int .i64 (n : Int)] 31 (0, 0)) := by
    rw [hW2, hpt]
    have := heap_alloc_new W (Obj.cells #[.int .i64 0, .string ⟨#[s[n]]⟩, .int .i64 (n : Int)] 31)
    exact this
  have hpp : pv < pt := by rw [hpt]; exact blk_lt HV.out
  have HV2 := Lib.hid hv2
  have HT2 := Lib.hid ht2
  have HTB : Hid (Turn w W2 g) := Lib.hid (Turn.of_below (HB0.out.trans (hB2.mono HB0.out.size)) g)
  have HM2 := Lib.hid (HM.out.below hB2)
  have h0 := hr2.c0
  have h1 := hr2.c1
  have hfz := hr2.f1
  have v0 := (blk_cell hv2 0).trans (show _ = some (Value.int .i64 0) from rfl)
  have v1 := (blk_cell hv2 1).trans (show _ = some (Value.string ⟨#[]⟩) from rfl)
  have v2 := (blk_cell hv2 2).trans (show _ = some (Value.int .i64 0) from rfl)
  have hvf0 := blk_frozen hv2 0
  have hvf1 := blk_frozen hv2 1
  have hvf2 := blk_frozen hv2 2
  have t0 := (blk_cell ht2 0).trans (show _ = some (Value.int .i64 0) from rfl)
  have t1 := (blk_cell ht2 1).trans (show _ = some (Value.string ⟨#[s[n]]⟩) from rfl)
  have t2 := (blk_cell ht2 2).trans (show _ = some (Value.int .i64 (n : Int)) from rfl)
  have htf0 := blk_frozen ht2 0
  have hgv : g ≠ pv := by have := HGL.out; rw [← HPV.out] at this; omega
  have hgt : g ≠ pt := by have := HGL.out; rw [← HPV.out] at this; omega
  clear hW2 hpt hB2 hr2 hv2 ht2
  by_cases c40 : s[n] = 40
  · have hq : ((s[n].toNat : Int) == 40) = true := byte_eq _ 40 c40
    have HE : Hid (R = some (⟨0, [s[n]], n⟩, s.data.toList.drop (n + 1))) := Lib.hid (by have := HR.out; rw [c40] at this ⊢; exact this.symm)
    clear c40
    go_simp
    go_wp2
    go_quiet (fail)
    go_wp2
    have hF := set3 (.int .i64 0) (.string ⟨#[s[n]]⟩) (.int .i64 (n : Int)) (blk_far (blk_drewN HV2.out nq) (Ne.symm hgv) (.int .i64 ((n : Int) + 1)) (i := 1))
    refine bodyPost_ret (results_ct rfl _ _ pv 31 _ (0, 0) _ rfl hF Tryd.underlying31 rfl size31) rfl ?_
    exact ⟨n + 1, by omega, ((((HR2.out.drewN nq).set _ _ (by push_cast; rfl)).setN hgv _).setN hgv _).setN hgv _, ((((HTB.out.trans (Turn.drewN _ _ _)).trans (Turn.set _ _ _ _)).setN (Nat.le_of_eq HPV.out.symm) _).setN (Nat.le_of_eq HPV.out.symm) _).setN (Nat.le_of_eq HPV.out.symm) _, .inr ⟨_, HE.out, by omega, rfl⟩⟩
  · have hq : ((s[n].toNat : Int) == 40) = false := byte_ne _ 40 c40
    by_cases c41 : s[n] = 41
    · have hq2 : ((s[n].toNat : Int) == 41) = true := byte_eq _ 41 c41
      have HE : Hid (R = some (⟨1, [s[n]], n⟩, s.data.toList.drop (n + 1))) := Lib.hid (by have := HR.out; rw [c41] at this ⊢; exact this.symm)
      clear c40 c41
      go_simp
      go_wp2
      go_quiet (fail)
      go_wp2
      have hF := set3 (.int .i64 1) (.string ⟨#[s[n]]⟩) (.int .i64 (n : Int)) (blk_far (blk_far (blk_drewN HV2.out nq) (show pv ≠ pt by omega) (.int .i64 1) (i := 0)) (Ne.symm hgv) (.int .i64 ((n : Int) + 1)) (i := 1))
      refine bodyPost_ret (results_ct rfl _ _ pv 31 _ (0, 0) _ rfl hF Tryd.underlying31 rfl size31) rfl ?_
      have hpt : w.heap.size ≤ pt := by rw [← HPV.out]; omega
      exact ⟨n + 1, by omega, (((((HR2.out.drewN nq).setN hgt _).set _ _ (by push_cast; rfl)).setN hgv _).setN hgv _).setN hgv _, (((((HTB.out.trans (Turn.drewN _ _ _)).setN hpt _).trans (Turn.set _ _ _ _)).setN (Nat.le_of_eq HPV.out.symm) _).setN (Nat.le_of_eq HPV.out.symm) _).setN (Nat.le_of_eq HPV.out.symm) _, .inr ⟨_, HE.out, by omega, rfl⟩⟩
    · have hq2 : ((s[n].toNat : Int) == 41) = false := byte_ne _ 41 c41
      by_cases c34 : s[n] = 34
      · have hq3 : ((s[n].toNat : Int) == 34) = true := byte_eq _ 34 c34
        have hlen : (s.data.toList.drop (n + 1)).length + 1 = s.size - n := by rw [List.length_drop, len_data]; omega
        obtain ⟨S, hS⟩ : ∃ S, str (s.size - n) (s.data.toList.drop (n + 1)) [] = S := ⟨_, rfl⟩
        have HE0 : Hid (S = none → R = none) := Lib.hid (fun h => by have := HR.out; rw [c34, nxt_str, hlen, hS, h] at this; exact this.symm)
        have HE1 : Hid (∀ x r, S = some (x, r) → R = some (⟨3, x, n⟩, r) ∧ r.length + 1 < s.size - n + 1) := Lib.hid (fun x r h => by
          have := HR.out
          rw [c34, nxt_str, hlen, hS, h] at this
          have hl := str_len _ _ _ _ _ (hS.trans h)
          exact ⟨this.symm, by omega⟩)
        have HTX := Lib.hid (fun w hr hm => text_c g s n hn hs w hr hg0 hm S hS)
        clear c40 c41 c34 hS hlen
        go_simp
        go_wp2
        go_quiet (fail)
        go_wp2_with fail
        refine (HTX.out _ (HR2.out.drewN _) (HM2.out.below (pw_below_drewN (Below.refl _ _) _))).mono ?_
        intro e w3 hqq
        obtain ⟨m, hm1, hr3, ht3, hor⟩ := hqq.out
        have HR3 := Lib.hid hr3
        have HT3 := Lib.hid (HTB.out.trans ((Turn.drewN _ _ _).trans ht3))
        have HV3 : Hid (w3.heap[pv]? = some (.cells #[.int .i64 0, .string ⟨#[]⟩, .int .i64 0] 31 (0, 0))) := Lib.hid ((ht3.block pv (blk_lt (blk_drewN HV2.out _)) (Ne.symm hgv)).trans (blk_drewN HV2.out _))
        have ht4 : w3.heap[pt]? = some (.cells #[.int .i64 0, .string ⟨#[s[n]]⟩, .int .i64 (n : Int)] 31 (0, 0)) := (ht3.block pt (blk_lt (blk_drewN HT2.out _)) (Ne.symm hgt)).trans (blk_drewN HT2.out _)
        clear t0 t1 t2 v0 v1 v2 hvf0 hvf1 hvf2 htf0 h0 h1 hfz
        have v0 := (blk_cell HV3.out 0).trans (show _ = some (Value.int .i64 0) from rfl)
        have v1 := (blk_cell HV3.out 1).trans (show _ = some (Value.string ⟨#[]⟩) from rfl)
        have v2 := (blk_cell HV3.out 2).trans (show _ = some (Value.int .i64 0) from rfl)
        have hvf0 := blk_frozen HV3.out 0
        have hvf1 := blk_frozen HV3.out 1
        have hvf2 := blk_frozen HV3.out 2
        have t2 := (blk_cell ht4 2).trans (show _ = some (Value.int .i64 (n : Int)) from rfl)
        clear hqq hr3 ht3 ht4
        rcases hor with ⟨hs0, he⟩ | ⟨x, hs0, he⟩
        · subst he
          have HE := Lib.hid (HE0.out hs0)
          clear hs0
          go_wp2
          have hF := set3 (.int .i64 3) (.string ⟨#[]⟩) (.int .i64 (n : Int)) HV3.out
          refine bodyPost_ret (results_ct rfl _ _ pv 31 _ (0, 0) _ rfl hF Tryd.underlying31 rfl size31) rfl ?_
          exact ⟨m, hm1, ((HR3.out.setN hgv _).setN hgv _).setN hgv _, ((HT3.out.setN (Nat.le_of_eq HPV.out.symm) _).setN (Nat.le_of_eq HPV.out.symm) _).setN (Nat.le_of_eq HPV.out.symm) _, .inl ⟨HE.out, _, _, rfl⟩⟩
        · subst he
          obtain ⟨e1, e2⟩ := HE1.out _ _ hs0
          have HE := Lib.hid e1
          rw [List.length_drop, len_data] at e2
          clear hs0 e1
          go_wp2
          have hF := set3 (.int .i64 3) (.string ⟨x.toArray⟩) (.int .i64 (n : Int)) HV3.out
          refine bodyPost_ret (results_ct rfl _ _ pv 31 _ (0, 0) _ rfl hF Tryd.underlying31 rfl size31) rfl ?_
          exact ⟨m, hm1, ((HR3.out.setN hgv _).setN hgv _).setN hgv _, ((HT3.out.setN (Nat.le_of_eq HPV.out.symm) _).setN (Nat.le_of_eq HPV.out.symm) _).setN (Nat.le_of_eq HPV.out.symm) _, .inr ⟨_, HE.out, by omega, rfl⟩⟩
      · have hq3 : ((s[n].toNat : Int) == 34) = false := byte_ne _ 34 c34
        have HE := Lib.hid ((nxt_at n s[n] (s.data.toList.drop (n + 1)) c40 c41 c34).symm.trans HR.out)
        have hcn : s[n]! = s[n] := getElem!_pos s n hn
        have HA : Hid (NtR g s n w pv pt W2) := Lib.hid ⟨n, Nat.le_refl _, by omega, HR2.out, HTB.out, HV2.out, by rw [hcn]; exact HT2.out, by rw [Nat.sub_self, List.take_zero]; rfl⟩
        clear c40 c41 c34 hcn t0 t1 t2 v0 v1 v2 hvf0 hvf1 hvf2 htf0
        go_simp
        go_wp2
        go_quiet (fail)
        clear h0 h1 hfz
        go_wp2
        go_loopw [36] (fun _ wr => NtR g s n w pv pt wr) (fun _ wr => s.size - rdPos wr g)
        case atStart => exact HA.out.drewN _
        case round =>
          obtain ⟨m, hm1, hm2, hr3, ht3, hv3, hp3, htw⟩ := hrel
          have HR3 := Lib.hid hr3
          have HT3 := Lib.hid ht3
          have HV3 := Lib.hid hv3
          have HP3 := Lib.hid hp3
          have HTW := Lib.hid htw
          have h0 := hr3.c0
          have h1 := hr3.c1
          have hfz := hr3.f1
          have hpvw : w.heap.size ≤ pv := Nat.le_of_eq HPV.out.symm
          clear hr3 ht3 htw HA
          by_cases hgo : m < s.size ∧ isSign s[m]! = true
          · obtain ⟨hlt, hsg⟩ := hgo
            have hcm : s[m]! = s[m] := getElem!_pos s m hlt
            rw [hcm] at hsg
            have hlt' : (m : Int) < (s.size : Int) := by omega
            have HSG := Lib.hid (fun w => sgn_q s[m].toNat (UInt8.toNat_lt s[m]) true (by simpa using hsg) w)
            have HTW2 : Hid ((s.data.toList.drop n).takeWhile isSign = (s.data.toList.drop n).take (m + 1 - n) ++ (s.data.toList.drop (m + 1)).takeWhile isSign) := Lib.hid (by
              rw [HTW.out, take_grow s n m hm1 hlt, drop_at s m hlt, List.takeWhile_cons_of_pos hsg, List.append_assoc]; rfl)
            clear hcm hsg hv3 hp3
            go_wp2
            go_quiet ((go_at_call 30; exact Calls.quiet_of_same (HSG.out _)))
            go_wp2
            go_roundw
            case rel => exact ⟨m + 1, by omega, by omega, (HR3.out.drewN _).set _ _ (by push_cast; rfl), (HT3.out.trans (Turn.drewN _ _ _)).trans (Turn.set _ _ _ _), blk_far (blk_drewN HV3.out _) (Ne.symm hgv) _, blk_far (blk_drewN HP3.out _) (Ne.symm hgt) _, HTW2.out⟩
            case measure =>
              rw [HR3.out.pos, ((HR3.out.drewN _).set _ (m + 1) (by push_cast; rfl)).pos]
              omega
          · have HEND : Hid ((s.data.toList.drop m).takeWhile isSign = []) := Lib.hid (by
              by_cases hlt : m < s.size
              · have hcm : s[m]! = s[m] := getElem!_pos s m hlt
                rw [drop_at s m hlt, List.takeWhile_cons_of_neg (by intro h; exact hgo ⟨hlt, by rw [hcm]; exact h⟩)]
              · rw [drop_end s m (by omega)]; rfl)
            have HTX : Hid ((s.data.toList.drop n).takeWhile isSign = (s.data.toList.drop n).take (m - n)) := Lib.hid (by rw [HTW.out, HEND.out, List.append_nil])
            obtain ⟨tw, htw2⟩ : ∃ tw, (s.data.toList.drop n).take (m - n) = tw := ⟨_, rfl⟩
            have HEX : Hid (s.extract n m = ⟨tw.toArray⟩) := Lib.hid (by rw [ext_tw, htw2])
            have HTY : Hid ((s.data.toList.drop n).takeWhile isSign = tw) := Lib.hid (by rw [HTX.out, htw2])
            have HTL : Hid (tw.length = m - n) := Lib.hid (by rw [← htw2, List.length_take, List.length_drop, len_data]; omega)
            clear htw2 hv3 hp3
            by_cases hlt : m < s.size
            · have hlt' : (m : Int) < (s.size : Int) := by omega
              have HSG := Lib.hid (fun w => sgn_q s[m].toNat (UInt8.toNat_lt s[m]) false (by
                have hcm : s[m]! = s[m] := getElem!_pos s m hlt
                cases hh : isSign s[m].toNat.toUInt8 with
                | false => rfl
                | true => exact absurd ⟨hlt, by rw [hcm]; simpa using hh⟩ hgo) w)
              clear hgo
              go_wp2
              go_quiet ((go_at_call 30; exact Calls.quiet_of_same (HSG.out _)))
              go_wp2
              have hsl := sl_run s n m (m : Int) rfl hm1 hm2
              rw [HEX.out] at hsl
              generalize hW5 : wr.drewN _ = W5
              have hr5 : Rd W5 g s m := by rw [← hW5]; exact HR3.out.drewN _
              have hv5 : W5.heap[pv]? = some (.cells #[.int .i64 0, .string ⟨#[]⟩, .int .i64 0] 31 (0, 0)) := by rw [← hW5]; exact blk_drewN HV3.out _
              have hp5 : W5.heap[pt]? = some (.cells #[.int .i64 0, .string ⟨#[s[n]!]⟩, .int .i64 (n : Int)] 31 (0, 0)) := by rw [← hW5]; exact blk_drewN HP3.out _
              have HT5 : Hid (Turn w W5 g) := Lib.hid (by rw [← hW5]; exact HT3.out.trans (Turn.drewN _ _ _))
              have HR5 := Lib.hid hr5
              have HV5 := Lib.hid hv5
              have HP5 := Lib.hid hp5
              have g0 := hr5.c0
              have g1 := hr5.c1
              have v0 := (blk_cell hv5 0).trans (show _ = some (Value.int .i64 0) from rfl)
              have v1 := (blk_cell hv5 1).trans (show _ = some (Value.string ⟨#[]⟩) from rfl)
              have v2 := (blk_cell hv5 2).trans (show _ = some (Value.int .i64 0) from rfl)
              have hvf0 := blk_frozen hv5 0
              have hvf1 := blk_frozen hv5 1
              have hvf2 := blk_frozen hv5 2
              have t2 := (blk_cell hp5 2).trans (show _ = some (Value.int .i64 (n : Int)) from rfl)
              have hpq : pt ≠ pv := by omega
              clear hW5 hr5 hv5 hp5
              go_region_held3 (fun w' => w'.cell? ⟨g, 0, none⟩ = some (.string s) ∧ w'.cell? ⟨g, 1, none⟩ = some (.int .i64 (m : Int)) ∧ w'.cell? ⟨pt, 2, none⟩ = some (.int .i64 (n : Int))) (first | exact ⟨g0, g1, t2⟩ | exact ⟨by have := (((HR5.out.setN (i := 0) hgv (.int .i64 2)).setN (i := 1) hgv (.string ⟨tw.toArray⟩)).setN (i := 2) hgv (.int .i64 (n : Int))).c0; simpa using this, by have := (((HR5.out.setN (i := 0) hgv (.int .i64 2)).setN (i := 1) hgv (.string ⟨tw.toArray⟩)).setN (i := 2) hgv (.int .i64 (n : Int))).c1; simpa using this, by have := (blk_cell (blk_far (blk_far (blk_far HP5.out hpq (.int .i64 2) (i := 0)) hpq (.string ⟨tw.toArray⟩) (i := 1)) hpq (.int .i64 (n : Int)) (i := 2)) 2).trans (show _ = some (Value.int .i64 (n : Int)) from rfl); simpa using this⟩ | go_keep) ((fail))
              rename_i hHeld
              clear hHeld hsl g0 g1 v0 v1 v2 hvf0 hvf1 hvf2 t2 h0 h1 hfz
              have HF : Hid ((((W5.setCell ⟨pv, 0, none⟩ (.int .i64 2)).setCell ⟨pv, 1, none⟩ (.string ⟨tw.toArray⟩)).setCell ⟨pv, 2, none⟩ (.int .i64 (n : Int))).drew.heap[pv]? = some (.cells #[.int .i64 2, .string ⟨tw.toArray⟩, .int .i64 (n : Int)] 31 (0, 0))) := Lib.hid (set3 (.int .i64 2) (.string ⟨tw.toArray⟩) (.int .i64 (n : Int)) HV5.out)
              go_simp
              go_wp2
              refine bodyPost_ret (results_ct rfl _ _ pv 31 _ (0, 0) _ rfl HF.out Tryd.underlying31 rfl size31) rfl ?_
              refine ⟨m, hm2, ⟨(((HR5.out.setN hgv _).setN hgv _).setN hgv _).out⟩, (((HT5.out.setN hpvw _).setN hpvw _).setN hpvw _).trans (Turn.drewN _ 1 _), ?_⟩
              rcases Nat.eq_or_lt_of_le hm1 with heq | hlt2
              · have htn : tw = [] := List.eq_nil_of_length_eq_zero (by rw [HTL.out, heq]; omega)
                have h2 := HE.out
                rw [← drop_at s n hn, HTY.out, htn, if_pos rfl] at h2
                exact .inl ⟨h2.symm, 2, ⟨tw.toArray⟩, by simp [show ¬ n < m from by omega]⟩
              · have h2 := HE.out
                rw [← drop_at s n hn, HTY.out, if_neg (by intro h; have := HTL.out; rw [h] at this; simp at this; omega), dw_drop, HTY.out, HTL.out, List.drop_drop, show n + (m - n) = m by omega] at h2
                exact .inr ⟨_, h2.symm, hlt2, by simp [hlt2]⟩
            · have hge : (s.size : Int) ≤ (m : Int) := by omega
              clear hgo
              go_wp2
              go_quiet (fail)
              go_wp2
              have hsl := sl_run s n m (m : Int) rfl hm1 hm2
              rw [HEX.out] at hsl
              generalize hW5 : wr.drewN _ = W5
              have hr5 : Rd W5 g s m := by rw [← hW5]; exact HR3.out.drewN _
              have hv5 : W5.heap[pv]? = some (.cells #[.int .i64 0, .string ⟨#[]⟩, .int .i64 0] 31 (0, 0)) := by rw [← hW5]; exact blk_drewN HV3.out _
              have hp5 : W5.heap[pt]? = some (.cells #[.int .i64 0, .string ⟨#[s[n]!]⟩, .int .i64 (n : Int)] 31 (0, 0)) := by rw [← hW5]; exact blk_drewN HP3.out _
              have HT5 : Hid (Turn w W5 g) := Lib.hid (by rw [← hW5]; exact HT3.out.trans (Turn.drewN _ _ _))
              have HR5 := Lib.hid hr5
              have HV5 := Lib.hid hv5
              have HP5 := Lib.hid hp5
              have g0 := hr5.c0
              have g1 := hr5.c1
              have v0 := (blk_cell hv5 0).trans (show _ = some (Value.int .i64 0) from rfl)
              have v1 := (blk_cell hv5 1).trans (show _ = some (Value.string ⟨#[]⟩) from rfl)
              have v2 := (blk_cell hv5 2).trans (show _ = some (Value.int .i64 0) from rfl)
              have hvf0 := blk_frozen hv5 0
              have hvf1 := blk_frozen hv5 1
              have hvf2 := blk_frozen hv5 2
              have t2 := (blk_cell hp5 2).trans (show _ = some (Value.int .i64 (n : Int)) from rfl)
              have hpq : pt ≠ pv := by omega
              clear hW5 hr5 hv5 hp5
              go_region_held3 (fun w' => w'.cell? ⟨g, 0, none⟩ = some (.string s) ∧ w'.cell? ⟨g, 1, none⟩ = some (.int .i64 (m : Int)) ∧ w'.cell? ⟨pt, 2, none⟩ = some (.int .i64 (n : Int))) (first | exact ⟨g0, g1, t2⟩ | exact ⟨by have := (((HR5.out.setN (i := 0) hgv (.int .i64 2)).setN (i := 1) hgv (.string ⟨tw.toArray⟩)).setN (i := 2) hgv (.int .i64 (n : Int))).c0; simpa using this, by have := (((HR5.out.setN (i := 0) hgv (.int .i64 2)).setN (i := 1) hgv (.string ⟨tw.toArray⟩)).setN (i := 2) hgv (.int .i64 (n : Int))).c1; simpa using this, by have := (blk_cell (blk_far (blk_far (blk_far HP5.out hpq (.int .i64 2) (i := 0)) hpq (.string ⟨tw.toArray⟩) (i := 1)) hpq (.int .i64 (n : Int)) (i := 2)) 2).trans (show _ = some (Value.int .i64 (n : Int)) from rfl); simpa using this⟩ | go_keep) ((fail))
              rename_i hHeld
              clear hHeld hsl g0 g1 v0 v1 v2 hvf0 hvf1 hvf2 t2 h0 h1 hfz
              have HF : Hid ((((W5.setCell ⟨pv, 0, none⟩ (.int .i64 2)).setCell ⟨pv, 1, none⟩ (.string ⟨tw.toArray⟩)).setCell ⟨pv, 2, none⟩ (.int .i64 (n : Int))).drew.heap[pv]? = some (.cells #[.int .i64 2, .string ⟨tw.toArray⟩, .int .i64 (n : Int)] 31 (0, 0))) := Lib.hid (set3 (.int .i64 2) (.string ⟨tw.toArray⟩) (.int .i64 (n : Int)) HV5.out)
              go_simp
              go_wp2
              refine bodyPost_ret (results_ct rfl _ _ pv 31 _ (0, 0) _ rfl HF.out Tryd.underlying31 rfl size31) rfl ?_
              refine ⟨m, hm2, ⟨(((HR5.out.setN hgv _).setN hgv _).setN hgv _).out⟩, (((HT5.out.setN hpvw _).setN hpvw _).setN hpvw _).trans (Turn.drewN _ 1 _), ?_⟩
              rcases Nat.eq_or_lt_of_le hm1 with heq | hlt2
              · have htn : tw = [] := List.eq_nil_of_length_eq_zero (by rw [HTL.out, heq]; omega)
                have h2 := HE.out
                rw [← drop_at s n hn, HTY.out, htn, if_pos rfl] at h2
                exact .inl ⟨h2.symm, 2, ⟨tw.toArray⟩, by simp [show ¬ n < m from by omega]⟩
              · have h2 := HE.out
                rw [← drop_at s n hn, HTY.out, if_neg (by intro h; have := HTL.out; rw [h] at this; simp at this; omega), dw_drop, HTY.out, HTL.out, List.drop_drop, show n + (m - n) = m by omega] at h2
                exact .inr ⟨_, h2.symm, hlt2, by simp [hlt2]⟩
end Go.Proofs.YtjecdciabpjgcaaDoor.Lx
