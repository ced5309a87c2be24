/-
  The walk of the reference's group (chapter 1): a number's parts. No condition but that the reader's block is one, and that a reader with an error has no bytes.
-/
import Derived.Test.YtnpiicnhdpldaaaRfA
import Derived.Outline
namespace Go.Proofs.Ytnpiicnhdpldaaa.Rf
set_option linter.unusedVariables false
set_option linter.unusedSimpArgs false
open Go.RowKit Go.Proofs.YtnpiicnhdpldaaaW.PrintWords Go.Proofs.Ytnpiicnhdpldaaa.Lb

theorem info3 : (Try.prog.info? 3).map (fun i => (i.zero, i.size, i.bytes)) = some (some (.int .i64 0), 1, 8) := by kernel_rfl
/-- The next number's parts, so many at most: they, what is left, the error. -/
def grpG (m : Nat) : List Int → List Int → List Int × List Int × Int
  | out, [] => ([], [], 10)
  | out, c :: t => if c < 128 then (out ++ [c], t, 0) else if out.length + 1 = m then ([], [], 11) else grpG m (out ++ [c - 128]) t
def grpF (bits : Int) (l : List Int) (y : Int) : List Int × List Int × Int :=
  if bits < 1 ∨ 64 < bits then ([], [], argE y) else if y = 0 then grpG ((bits + 6) / 7).toNat [] l else ([], [], y)

structure GrpQ (g : Nat) (w : World) (R : List Int × List Int × Int) (e : Ending) (w' : World) : Prop where mk ::
  (out : ∃ v, e = .returned v ∧ w'.ownsRow w.heap.size 3 1 v R.1.length (nums .i64 R.1) ∧ Rdr 44 w' g R.2.1 R.2.2 ∧ Turn w w' g)
/-- The parts in the loop. -/
def GrpRel (w : World) (g m K : Nat) (R : List Int × List Int × Int) (kq : Nat) (v : Value) (wr : World) : Prop :=
  ∃ (out l : List Int) (y : Int), wr.ownsRow w.heap.size 3 1 v out.length (nums .i64 out) ∧ Rdr 44 wr g l y ∧ Turn w wr g ∧ kq ≤ K ∧ out.length ≤ 20 ∧ (l ≠ [] → BlkOf wr g w.heap.size) ∧
    ((y = 0 ∧ l.length + 1 ≤ kq ∧ out.length < m ∧ m ≤ 10 ∧ grpG m out l = R) ∨ (y ≠ 0 ∧ R = ([], l, y)))

theorem blk_start {w : World} {g : Nat} {l : List Int} {y : Int} (H : Rdr 44 w g l y) (h : l ≠ []) : BlkOf w g w.heap.size := by
  obtain ⟨A, c, hb, hc, hr, hx, hl⟩ := H.out
  obtain ⟨ad, rfl, hcell⟩ := hr.2.2 (List.length_pos_iff.2 h)
  refine ⟨ad, _, _, _, hb, ?_⟩
  have h0 := hcell 0 (List.length_pos_iff.2 h)
  rw [add_0] at h0
  exact World.block_lt_of_cell? w _ h0
theorem rdr_grown {w w' : World} {g B : Nat} {l : List Int} {y : Int} (H : Rdr 44 w g l y) (hB : l ≠ [] → BlkOf w g B) (hg : g < B) (hb : Below B w w') : Rdr 44 w' g l y ∧ (l ≠ [] → BlkOf w' g B) := by
  obtain ⟨A, c, hk, hc, hr, hx, hl⟩ := H.out
  have hk' := (hb.block g hg).trans hk
  have hadd : ∀ (ad : Addr), l ≠ [] → A = some ad → ad.block < B := by
    intro ad hne hA
    obtain ⟨ad2, n2, c2, e2, hb2, hlt⟩ := hB hne
    rw [hk] at hb2
    injection hb2 with hb2
    injection hb2 with hb2
    rw [hA] at hb2
    have : ad = ad2 := by have q := congrArg (fun q => q[0]?) hb2; simp at q; exact q.1
    rw [this]; exact hlt
  refine ⟨⟨A, c, hk', hc, ⟨hr.1, hr.2.1, fun hp => ?_⟩, hx, hl⟩, fun hne => ?_⟩
  · obtain ⟨ad, hA, hcell⟩ := hr.2.2 hp
    refine ⟨ad, hA, fun j hj => ?_⟩
    have hbk : (ad.add j).block = ad.block := by unfold Addr.add; split <;> rfl
    have := hb.block ad.block (hadd ad (List.length_pos_iff.1 hp) hA)
    rw [← hbk] at this
    rw [World.cell?_of_block (w := w) this]
    exact hcell j hj
  · obtain ⟨ad, hA, hcell⟩ := hr.2.2 (List.length_pos_iff.2 hne)
    subst hA
    exact ⟨ad, _, _, _, hk', hadd ad hne rfl⟩
theorem turn_grown {w w1 w' : World} {g : Nat} (h : Turn w w1 g) (hb : Below w.heap.size w1 w') : Turn w w' g :=
  ⟨hb.os.trans h.os, hb.tape.trans h.tape, hb.output.trans h.output, Nat.le_trans h.size hb.size, fun k hk hne => (hb.block k hk).trans (h.block k hk hne)⟩

theorem cells44 {w : World} {g : Nat} {l : List Int} {y : Int} (H : Rdr 44 w g l y) : w.cell? ⟨g, 1, none⟩ = some (.int .i64 y) := by
  obtain ⟨A, c, hb, _⟩ := H.out
  exact cell1 hb

theorem rdr_head {T : Nat} {w : World} {g : Nat} {c : Int} {t : List Int} {y : Int} (H : Rdr T w g (c :: t) y) : 0 ≤ c ∧ c < 256 := by
  obtain ⟨A, cc, hb, hc, hr, hx, hl⟩ := H.out
  exact hx c (by simp)
/-- A row of numbers of one's own, behind a call on a reader. -/
theorem own_row41 {w w' : World} {base n g : Nat} {v : Value} {xs : List Value} {l : List Int} {y : Int} (h : w.ownsRow base 3 1 v n xs) (H : Rdr 44 w g l y) (ht : Turn w w' g) : w'.ownsRow base 3 1 v n xs := by
  obtain ⟨A, cc, hb, hc, hr, hx, hl⟩ := H.out
  refine ht.keep.own h (fun e => ?_) (by cases v.ownBlock <;> simp)
  exact own_ne h hb (by decide) e.symm
set_option maxHeartbeats 1000000 in
set_option maxRecDepth 100000 in
theorem group_c (g : Nat) (bits : Int) (l : List Int) (y : Int) (w : World) (H : Rdr 44 w g l y) (hy : y = 0 ∨ l = []) :
    Calls Try.prog 35 #[.pointer (some ⟨g, 0, none⟩), .int .i64 bits] w (GrpQ g w (grpF bits l y)) := by
  obtain ⟨K, hK⟩ : ∃ K, K = l.length + 1 := ⟨_, rfl⟩
  generalize hR : grpF bits l y = R
  obtain ⟨m, hm⟩ : ∃ m, m = ((bits + 6) / 7).toNat := ⟨_, rfl⟩
  have HR := Lib.hid hR
  have HM := Lib.hid hm
  have HK := Lib.hid hK
  have HH := Lib.hid H
  have HY := Lib.hid hy
  clear hR hm hK H hy
  have hgo : (∀ w, Rdr 44 w g l y → Calls Try.prog 35 #[.pointer (some ⟨g, 0, none⟩), .int .i64 bits] w (GrpQ g w R)) := by
    clear HH
    clear w
    intro w H
    have HH := Lib.hid H
    clear H
    by_cases hb : bits < 1 ∨ 64 < bits
    · have HRR : Hid (R = ([], [], argE y) ∧ argE y ≠ 0) := Lib.hid (by
        have h1 := HR.out
        unfold grpF at h1
        rw [if_pos hb] at h1
        refine ⟨h1.symm, ?_⟩
        unfold argE; split <;> omega)
      rcases (show bits < 1 ∨ (1 ≤ bits ∧ 64 < bits) by omega) with hb1 | ⟨hb0, hb1⟩
      all_goals
        clear hb
        go_enter Try.func35, Try.ntmps35
        go_wp2_with (first | (go_at_call 32; refine (fail_1 g _ _ _ HH.out HY.out).mono ?_; rintro e w1 ⟨rfl, hq, ht⟩; have hc1 := cells44 hq; have HQ1 := Lib.hid hq; have HT1 := Lib.hid ht; clear hq ht))
        go_loopg [5, 6] 0 (fun kq v v6 wr => wr = w1)
        case atStart => rfl
        case round =>
          subst hrel
          have hy2b : (argE y == 0) = false := by simpa using HRR.out.2
          go_wp2
          go_ret
          rw [HRR.out.1]
          exact ⟨_, rfl, own_nil _ _ _ _, HQ1.out, HT1.out⟩
    · have HRR : Hid ((y = 0 ∧ l.length + 1 ≤ K ∧ ([] : List Int).length < m ∧ m ≤ 10 ∧ grpG m [] l = R) ∨ (y ≠ 0 ∧ R = ([], l, y))) := Lib.hid (by
        have h1 := HR.out
        have h2 := HM.out
        unfold grpF at h1
        rw [if_neg hb] at h1
        by_cases h0 : y = 0
        · rw [if_pos h0, ← h2] at h1
          exact .inl ⟨h0, by have := HK.out; omega, by simp; omega, by omega, h1⟩
        · rw [if_neg h0] at h1
          obtain rfl : l = [] := by rcases HY.out with h | h; exact absurd h h0; exact h
          exact .inr ⟨h0, h1.symm⟩)
      have hb1 : 1 ≤ bits := by omega
      have hb2 : bits ≤ 64 := by omega
      clear hb
      go_enter Try.func35, Try.ntmps35
      go_wp2
      go_loopg [5, 6] K (fun kq v v6 wr => GrpRel w g m K R kq v wr)
      case atStart => exact ⟨[], l, y, own_nil _ _ _ _, HH.out, Turn.refl _ _, Nat.le_refl _, by simp, blk_start HH.out, HRR.out⟩
      case round =>
        obtain ⟨out, l2, y2, hown, hq, ht, hkK, ho20, hblk, hcase⟩ := hrel
        have HO := Lib.hid hown
        have HQ := Lib.hid hq
        have HT := Lib.hid ht
        have HBK := Lib.hid hblk
        have HGW : Hid (g < w.heap.size) := Lib.hid (by obtain ⟨_, _, q, _⟩ := HH.out.out; exact blk_lt q)
        have hc1 := cells44 hq
        clear hown hq ht hblk
        rcases hcase with ⟨rfl, hlen, hom, hm10, hG⟩ | ⟨hy2, hR2⟩
        · have HG := Lib.hid hG
          clear hG
          cases gk with
          | zero => exact absurd hlen (by omega)
          | succ k1 =>
            cases l2 with
            | nil =>
              go_wp2_with (go_at_call 26; refine (byte_none0 g _ HQ.out).mono ?_; rintro e w1 ⟨rfl, hq, ht⟩; have hc1 := cells44 hq; have HQ2 := Lib.hid hq; have HT2 := Lib.hid ht; clear hq ht)
              go_ret
              have hG := HG.out
              unfold grpG at hG
              subst hG
              exact ⟨_, rfl, own_nil _ _ _ _, HQ2.out, HT.out.trans HT2.out⟩
            | cons c t =>
              obtain ⟨hcc0, hcc1⟩ := rdr_head HQ.out
              have hG := HG.out
              unfold grpG at hG
              have HLL := Lib.hid (show (out.length + 1) * 8 ≤ 140737488355328 by omega)
              by_cases hc : c < 128
              · rw [if_pos hc] at hG
                have HG2 := Lib.hid hG
                clear hG
                go_wp2_with (first | (go_at_call 26; refine (byte_some g _ _ _ _ _ HQ.out (HBK.out (by simp))).mono ?_; rintro e w1 ⟨rfl, hq, ht, hbk⟩; have hc1 := cells44 hq; have HQ2 := Lib.hid hq; have HT2 := Lib.hid ht; have HBK2 := Lib.hid hbk; have HO2 := Lib.hid (own_row41 HO.out HQ.out ht); have HBL := Lib.hid (Below.refl w.heap.size w1); have HSZ := Lib.hid (Nat.le_trans HT.out.size ht.size); clear hq ht hbk) | (at_builtin; go_loud (refine print_append_num (w0 := w1) w.heap.size rfl (.tmp 30) (.tmp 32) 41 3 .i64 8 rfl Try.underlying41 info3 (by decide) u5 out c rfl (by first | (go_simp; done) | (go_simp; rfl)) HO2.out HBL.out HSZ.out HLL.out ?_; intro v1 w3 hown hbl hg hat; obtain ⟨A9, c9, rfl⟩ := own_slice hown; have HO3 := Lib.hid hown; have HB3 := Lib.hid hbl; clear hown hbl hg hat)))
                go_ret
                have hG := HG2.out
                subst hG
                refine ⟨.slice A9 (out.length + 1) c9, rfl, ?_, (rdr_grown HQ2.out (fun _ => HBK2.out) HGW.out HB3.out).1, turn_grown (HT.out.trans HT2.out) HB3.out⟩
                have h := HO3.out
                simp only [List.length_append, List.length_cons, List.length_nil, Nat.zero_add] at h ⊢
                exact h
              · rw [if_neg hc] at hG
                have HG2 := Lib.hid hG
                clear hG
                have HBYTE := (byte_some g _ _ _ _ _ HQ.out (HBK.out (by simp)))
                go_wp2_with (first | (go_at_call 26; refine HBYTE.mono ?_; rintro e w1 ⟨rfl, hq, ht, hbk⟩; clear HBYTE; have hc1 := cells44 hq; have HQ2 := Lib.hid hq; have HT2 := Lib.hid ht; have HBK2 := Lib.hid hbk; have HO2 := Lib.hid (own_row41 HO.out HQ.out ht); have HBL := Lib.hid (Below.refl w.heap.size w1); have HSZ := Lib.hid (Nat.le_trans HT.out.size ht.size); clear hq ht hbk) | (go_at_call 32; refine (fail_11 g _ _ HQ3.out.1).mono ?_; rintro e w4 ⟨rfl, hq, ht⟩; have hc4 := cells44 hq; have HQ4 := Lib.hid hq; have HT4 := Lib.hid (HT3.out.trans ht); have HO4 := Lib.hid (own_row41 HO3.out HQ3.out.1 ht); clear hq ht) | (at_builtin; go_loud (refine print_append_num (w0 := w1) w.heap.size rfl (.tmp 34) (.tmp 37) 41 3 .i64 8 rfl Try.underlying41 info3 (by decide) u5 out (c - 128) rfl (by first | (go_simp; done) | (go_simp; rfl)) HO2.out HBL.out HSZ.out HLL.out ?_; intro v1 w3 hown hbl hg hat; obtain ⟨A9, c9, rfl⟩ := own_slice hown; have HO3 := Lib.hid hown; have HQ3 := Lib.hid (rdr_grown HQ2.out (fun _ => HBK2.out) HGW.out hbl); have HT3 := Lib.hid (turn_grown (HT.out.trans HT2.out) hbl); clear hown hbl hg hat)))
                · rename_i hm1
                  have hm2 : out.length + 1 = m := by have := HM.out; simp at hm1; omega
                  have HR5 : Hid (R = ([], [], 11)) := Lib.hid (by have := HG2.out; rw [if_pos hm2] at this; exact this.symm)
                  go_roundg 0
                  case measure => exact Nat.succ_pos _
                  case rel =>
                    have h := HO4.out
                    refine ⟨out ++ [c - 128], [], 11, ?_, HQ4.out, HT4.out, Nat.zero_le _, by simp; omega, fun h => absurd rfl h, .inr ⟨by decide, HR5.out⟩⟩
                    simp only [List.length_append, List.length_cons, List.length_nil, Nat.zero_add] at h ⊢
                    exact h
                · rename_i hm1
                  have hm2 : out.length + 1 ≠ m := by have := HM.out; simp at hm1; omega
                  have HR5 : Hid (grpG m (out ++ [c - 128]) t = R) := Lib.hid (by have := HG2.out; rw [if_neg hm2] at this; exact this)
                  go_roundg k1
                  case measure => exact Nat.lt_succ_self _
                  case rel =>
                    have h := HO3.out
                    refine ⟨out ++ [c - 128], t, 0, ?_, HQ3.out.1, HT3.out, by omega, by simp; omega, HQ3.out.2, .inl ⟨rfl, by simp at hlen; omega, by simp; omega, hm10, HR5.out⟩⟩
                    simp only [List.length_append, List.length_cons, List.length_nil, Nat.zero_add] at h ⊢
                    exact h
        · have HR2 := Lib.hid hR2
          clear hR2
          have hy2b : (y2 == 0) = false := by simpa using hy2
          go_wp2
          go_ret
          have := HR2.out
          subst this
          exact ⟨_, rfl, own_nil _ _ _ _, HQ.out, HT.out⟩
  exact hgo w HH.out
end Go.Proofs.Ytnpiicnhdpldaaa.Rf
