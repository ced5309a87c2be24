/-
  The walk of the law LebReads (chapter 1). No condition but that of every slice that is read: it takes no more than 2^47 bytes.
-/
import Derived.Test.YtnpiicnhdpldaaaRfG
import Derived.Deep.RegionWith
import Derived.BigQuiet

namespace Go.Proofs.Ytnpiicnhdpldaaa.Rf
set_option linter.unusedVariables false
set_option linter.unusedSimpArgs false
open Go.RowKit Go.Proofs.YtnpiicnhdpldaaaW.PrintWords Go.Proofs.Ytnpiicnhdpldaaa.PLeb Go.Proofs.Ytnpiicnhdpldaaa.Lb Go.Proofs.Ytnpiicnhdpldaaa.Pure

/-- The two readers, as one. -/
structure Two (w wr : World) (g h : Nat) (l : List Int) (y : Int) : Prop where
  a : Rdr 55 wr g l y
  b : Rdr 44 wr h l y
  inv : y = 0 ∨ l = []
  below : Below w.heap.size w wr
  hg : w.heap.size ≤ g
  hh : w.heap.size ≤ h
  ne : g ≠ h
theorem Two.step {w wr w1 w2 : World} {g h : Nat} {l l' : List Int} {y y' : Int} (H : Two w wr g h l y) (q1 : Rdr 55 w1 g l' y') (t1 : Turn wr w1 g) (q2 : Rdr 44 w2 h l' y') (t2 : Turn w1 w2 h) (hi : y' = 0 ∨ l' = []) : Two w w2 g h l' y' :=
  ⟨rdr_turn q1 (rdr_turn H.b H.a t1 H.ne.symm) t2 H.ne, q2, hi, t2.below (t1.below H.below H.hg) H.hh, H.hg, H.hh, H.ne⟩
theorem Two.mid {w wr w1 : World} {g h : Nat} {l : List Int} {y : Int} (H : Two w wr g h l y) (t1 : Turn wr w1 g) : Rdr 44 w1 h l y := rdr_turn H.b H.a t1 H.ne.symm
theorem Two.drew {w wr : World} {g h : Nat} {l : List Int} {y : Int} (H : Two w wr g h l y) : Two w wr.drew g h l y :=
  ⟨rdr_below H.a (Below.refl _ _).drew, rdr_below H.b (Below.refl _ _).drew, H.inv, H.below.drew, H.hg, H.hh, H.ne⟩

theorem Two.drewN {w wr : World} {g h : Nat} {l : List Int} {y : Int} (H : Two w wr g h l y) (n : Nat) : Two w (wr.drewN n) g h l y :=
  ⟨rdr_below H.a (pw_below_drewN (Below.refl _ _) n), rdr_below H.b (pw_below_drewN (Below.refl _ _) n), H.inv, pw_below_drewN H.below n, H.hg, H.hh, H.ne⟩

theorem sF_inv (bits : Int) (l : List Int) (y : Int) : InvB (sF bits l y).2.1 (sF bits l y).2.2 := by
  have h := (numF_inv bits l y).2.1
  unfold sF
  simp only
  split
  · exact h
  · split
    · exact .inr rfl
    · split
      · exact .inr rfl
      · exact h
theorem nameF_inv (l : List Int) (y : Int) : InvB (nameF l y).2.1 (nameF l y).2.2 := by
  unfold nameF
  simp only
  split
  · exact .inr rfl
  · split
    · exact .inr rfl
    · split
      · exact .inl rfl
      · exact .inr rfl
theorem fail_inv {l : List Int} {y : Int} (x : Int) (h : y = 0 ∨ l = []) : failE y x = 0 ∨ failL l y x = [] := by
  unfold failE failL
  split
  · exact .inr rfl
  · exact h
def byteE (l : List Int) (y : Int) : Int := if l = [] then failE y 10 else y
theorem byteE_inv {l : List Int} {y : Int} (h : y = 0 ∨ l = []) : byteE l y = 0 ∨ l.tail = [] := by
  unfold byteE
  split
  · rename_i e; subst e; exact .inr rfl
  · rename_i e; rcases h with h | h; exact .inl h; exact absurd h e
theorem byte_p (g : Nat) (l : List Int) (y : Int) (w : World) (H : Rdr 55 w g l y) :
    Calls Try.prog 25 #[.pointer (some ⟨g, 0, none⟩)] w fun e w' => e = .returned (.int .u8 (l.headD 0)) ∧ Rdr 55 w' g l.tail (byteE l y) ∧ Turn w w' g := by
  cases l with
  | nil => exact Lb.byte_none g y w H
  | cons x l => exact Lb.byte_some g x y l w H
theorem byte_r (g : Nat) (l : List Int) (y : Int) (w : World) (H : Rdr 44 w g l y) :
    Calls Try.prog 26 #[.pointer (some ⟨g, 0, none⟩)] w fun e w' => e = .returned (.int .u8 (l.headD 0)) ∧ Rdr 44 w' g l.tail (byteE l y) ∧ Turn w w' g := by
  cases l with
  | nil => exact byte_none g y w H
  | cons x l => exact (byte_some g _ x y l w H (blk_start H (by simp))).mono fun e w' h => ⟨h.1, h.2.1, h.2.2.1⟩

theorem own_far {T : Nat} {w w' : World} {h : Nat} {l r : List Int} {y : Int} {v : Value} (H : Rdr T w h l y) (ho : w'.ownsRow w.heap.size 5 1 v r.length (nums .u8 r)) : v.ownBlock ≠ some h := fun e => by
  obtain ⟨_, _, q, _⟩ := H.out
  have h1 := blk_lt q
  have h2 := own_base ho h e
  omega
def ReadsRel (w : World) (g h n : Nat) (i : Value) (wr : World) : Prop := ∃ (k : Nat) (l : List Int) (y : Int), i = .int .i64 k ∧ k ≤ n ∧ k ≤ 100 ∧ Two w wr g h l y
set_option maxHeartbeats 1000000 in
set_option maxRecDepth 100000 in
theorem reads_law (A : Option Addr) (c : Nat) (l : List Int) (A2 : Option Addr) (c2 : Nat) (ks : List Int) (w : World) (hr : ReadsInt w .u8 A l.length l) (hc : l.length ≤ c) (hx : ∀ x ∈ l, 0 ≤ x ∧ x < 256) (hl : l.length ≤ 140737488351232) (hr2 : ReadsInt w .i64 A2 ks.length ks) (hl2 : ks.length ≤ 140737488351232) :
    Calls Try.prog 6 #[.slice A l.length c, .slice A2 ks.length c2] w fun e w' => e = .returned (.bool true) ∧ Below w.heap.size w w' := by
  have HR := Lib.hid hr
  have HC := Lib.hid hc
  have HX := Lib.hid hx
  have HL := Lib.hid hl
  have HR2 := Lib.hid hr2
  clear hr hc hx hl hr2
  go_enter Try.func6, Try.ntmps6
  go_wp2_with (first | (go_at_call 9; refine (awake_c _).mono ?_; rintro e w1 ⟨rfl, hb⟩; have HB := Lib.hid hb; clear hb) | (go_at_call 13; refine (read_c _ _ _ _ (HR.out.below HB.out) HC.out HX.out HL.out).mono ?_; rintro e w2 ⟨rfl, hq, hb⟩; obtain ⟨g, hg⟩ : ∃ g, g = w1.heap.size := ⟨_, rfl⟩; rw [← hg] at hq ⊢; have HG : Hid (w.heap.size ≤ g) := Lib.hid (by rw [hg]; exact HB.out.size); have HQ2 := Lib.hid hq; have HB2 := Lib.hid (HB.out.trans (hb.mono HB.out.size)); clear hb hq hg))
  have HTW : Hid (Two w (w2.alloc (Obj.cells #[Value.slice A l.length c, Value.int IntKind.i64 0] 44)) g w2.heap.size l 0) := Lib.hid
    ⟨rdr_below HQ2.out ((Below.refl _ _).alloc (Nat.le_refl _) _), ⟨A, c, by show (w2.heap.push _)[w2.heap.size]? = _; exact Array.getElem?_push_size, HC.out, (HR.out.below HB2.out).allocS _, HX.out, HL.out⟩, .inl rfl, HB2.out.alloc HB2.out.size _, HG.out, HB2.out.size, by obtain ⟨_, _, q, _⟩ := HQ2.out.out; have := blk_lt q; omega⟩
  generalize w2.alloc (Obj.cells #[Value.slice A l.length c, Value.int IntKind.i64 0] 44) = w3 at HTW ⊢
  generalize w2.heap.size = h at HTW ⊢
  clear HQ2 HB2 HB HG
  go_loopw [8] (ReadsRel w g h ks.length) (fun i _ => ks.length - (intOf i).toNat)
  case atStart => exact ⟨0, l, 0, rfl, Nat.zero_le _, by decide, HTW.out⟩
  case round =>
    obtain ⟨k, l1, y1, rfl, hk, hk100, htw⟩ := hrel
    have HW := Lib.hid htw
    clear htw HTW
    have HRC := Lib.hid (HR2.out.below HW.out.below)
    by_cases hgo : k < ks.length ∧ k < 100
    · obtain ⟨hgo1, hgo2⟩ := hgo
      obtain ⟨ad, hA2, hcell⟩ := HRC.out.2.2 (by omega)
      subst hA2
      have hck := hcell k hgo1
      obtain ⟨x, hx⟩ : ∃ x, x = ks.getD k 0 := ⟨_, rfl⟩
      have hcx : wr.cell? (ad.add k) = some (.int .i64 x) := by rw [hx]; simpa using hck
      clear hcell hck hx
      go_upto_block 2 with fail
      go_cut [10] (fun v wx => v = .bool true ∧ ∃ l2 y2, Two w wx g h l2 y2)
      case first =>
        rename_i J K' hJ hK'
        clear hcx HRC HR2 HR HC HX HL hl2
        go_wp2_with (first | (go_at_call 14; refine (u_c g _ l1 y1 _ HW.out.a HW.out.inv).mono ?_; intro e w4 huq; obtain ⟨he, hrd, ht⟩ := huq.out; subst he; have HQ4 := Lib.hid hrd; have HT4 := Lib.hid ht; have HM4 := Lib.hid (HW.out.mid ht); clear huq hrd ht) | (go_at_call 22; refine (U_r h _ l1 y1 _ HM4.out HW.out.inv).mono ?_; intro e w5 huq; obtain ⟨he, hrd, ht⟩ := huq.out; subst he; have HU := Lib.hid (HW.out.step HQ4.out HT4.out hrd ht (uF_inv _ _ _).2.1); clear huq hrd ht) | (go_at_call 23; refine (s_c g _ l1 y1 _ HW.out.a HW.out.inv).mono ?_; intro e w4 huq; obtain ⟨he, hrd, ht⟩ := huq.out; subst he; have HQ4 := Lib.hid hrd; have HT4 := Lib.hid ht; have HM4 := Lib.hid (HW.out.mid ht); clear huq hrd ht) | (go_at_call 24; refine (S_r h _ l1 y1 _ HM4.out HW.out.inv).mono ?_; intro e w5 huq; obtain ⟨he, hrd, ht⟩ := huq.out; subst he; have HU := Lib.hid (HW.out.step HQ4.out HT4.out hrd ht (sF_inv _ _ _)); clear huq hrd ht) | (go_at_call 29; refine (name_c g l1 y1 _ HW.out.a HW.out.inv).mono ?_; intro e w4 huq; obtain ⟨he, hrd, ht⟩ := huq.out; subst he; have HQ4 := Lib.hid hrd; have HT4 := Lib.hid ht; have HM4 := Lib.hid (HW.out.mid ht); clear huq hrd ht) | (go_at_call 30; refine (N_r h l1 y1 _ HM4.out HW.out.inv).mono ?_; intro e w5 huq; obtain ⟨he, hrd, ht⟩ := huq.out; subst he; have HU := Lib.hid (HW.out.step HQ4.out HT4.out hrd ht (nameF_inv _ _)); clear huq hrd ht) | (go_at_call 25; refine (byte_p g l1 y1 _ HW.out.a).mono ?_; rintro e w4 ⟨rfl, hq, ht⟩; have HQ4 := Lib.hid hq; have HT4 := Lib.hid ht; have HM4 := Lib.hid (HW.out.mid ht); clear hq ht) | (go_at_call 26; refine (byte_r h l1 y1 _ HM4.out).mono ?_; rintro e w5 ⟨rfl, hq, ht⟩; have HU := Lib.hid (HW.out.step HQ4.out HT4.out hq ht (byteE_inv HW.out.inv)); clear hq ht) | (go_at_call 31; refine (Lb.fail_r g l1 y1 _ _ HW.out.a).mono ?_; rintro e w4 ⟨rfl, hq, ht⟩; have HQ4 := Lib.hid hq; have HT4 := Lib.hid ht; have HM4 := Lib.hid (HW.out.mid ht); clear hq ht) | (go_at_call 32; refine (fail_r h l1 y1 _ _ HM4.out).mono ?_; rintro e w5 ⟨rfl, hq, ht⟩; have HU := Lib.hid (HW.out.step HQ4.out HT4.out hq ht (fail_inv _ HW.out.inv)); clear hq ht))
        all_goals try (go_meet; exact ⟨by simp, _, _, HU.out⟩)
        have HD := Lib.hid HW.out.drew
        go_region_with (first | (go_at_call 27; refine (take_c g _ l1 y1 _ HD.out.a HD.out.inv).mono ?_; intro e w4 huq; obtain ⟨v, he, hown, hrd, ht⟩ := huq.out; subst he; have hcv := own_string (P := Try.prog) (src := 25) (dst := 9) Try.underlying25 Try.underlying5 Try.underlying9 hown; have HO4 := Lib.hid hown; have HQ4 := Lib.hid hrd; have HT4 := Lib.hid ht; have HM4 := Lib.hid (HD.out.mid ht); clear huq hrd ht hown) | (go_at_call 28; refine (T_r h _ l1 y1 _ HM4.out HD.out.inv).mono ?_; intro e w5 huq; obtain ⟨A7, c7, he, hrr, hcap, hrd, ht⟩ := huq.out; subst he; have hcv5 := string_of_reads (P := Try.prog) (src := 25) (dst := 9) (c := c7) Try.underlying25 Try.underlying5 Try.underlying9 hrr; have hcv4 := own_string (P := Try.prog) (src := 25) (dst := 9) Try.underlying25 Try.underlying5 Try.underlying9 (own_turn HO4.out ht (own_far HD.out.b HO4.out)); have HU := Lib.hid (HD.out.step HQ4.out HT4.out hrd ht (takeF_inv _ _ _)); clear huq hrd ht hrr hcap hcv))
        all_goals
          go_simp
          refine hK' _ _ (Met.intro ?_)
          refine hJ _ _ ?_
          (repeat apply Exists.intro)
          refine ⟨?_, rfl⟩
          exact ⟨by simp, _, _, HU.out⟩
      case rest =>
        obtain ⟨rfl, l2, y2, htw⟩ := hcut
        have HW2 := Lib.hid htw
        obtain ⟨A8, c8, hb8, hrest⟩ := htw.b.out
        have hc80 := cell0 hb8
        have hc81 := cell1 hb8
        have HQ := Lib.hid (fun n => rdr_below htw.a (pw_below_drewN (Below.refl _ _) n))
        clear htw hb8 hrest HW HRC hcx
        go_wp2_with fail
        go_quiet ((first | (go_at_call 16; exact Calls.quiet_of_same (left_r g l2 y2 _ (HQ.out _))) | (go_at_call 15; exact Calls.quiet_of_same (err_r g l2 y2 _ (HQ.out _)))))
        go_wp2_with fail
        go_roundw
        case rel => exact ⟨k + 1, l2, y2, by go_num, by omega, by omega, HW2.out.drewN _⟩
        case measure => simp [intOf]; omega
    · have hge : ks.length = k ∨ (k < ks.length ∧ k = 100) := by omega
      obtain ⟨A8, c8, hb8, hrest⟩ := HW.out.b.out
      have hc80 := cell0 hb8
      have HQ := Lib.hid (fun n => rdr_below HW.out.a (pw_below_drewN (Below.refl _ _) n))
      clear hb8 hrest HRC hgo
      rcases hge with hge | ⟨hge1, hge2⟩
      · have hge3 : (ks.length : Int) ≤ k := by omega
        go_wp2_with fail
        go_quiet ((first | (go_at_call 16; exact Calls.quiet_of_same (left_r g l1 y1 _ (HQ.out _)))))
        go_wp2_with fail
        go_ret
        exact ⟨by simp, (HW.out.drewN _).below⟩
      · have hge3 : (k : Int) < ks.length := by omega
        have hge4 : (100 : Int) ≤ k := by omega
        go_wp2_with fail
        go_quiet ((first | (go_at_call 16; exact Calls.quiet_of_same (left_r g l1 y1 _ (HQ.out _)))))
        go_wp2_with fail
        go_ret
        exact ⟨by simp, (HW.out.drewN _).below⟩
theorem reads_walk (a0 : Option Addr) (len0 cap0 : Nat) (z0 : List Int) (a1 : Option Addr) (len1 cap1 : Nat) (z1 : List Int) (w : World)
    (w0 : (a0 = none ∧ len0 = 0 ∧ cap0 = 0 ∧ z0 = []) ∨ ∃ x, a0 = some x ∧ len0 ≤ cap0 ∧ cap0 ≤ maxLen ∧ z0.length = cap0 ∧ (∀ i, i < z0.length → w.cell? (x.add i) = some (.int .u8 (z0.getD i 0))) ∧ ∀ n ∈ z0, (Lit.int .u8 n).wf = true) (y0 : len0 * 1 ≤ 140737488351232)
    (w1 : (a1 = none ∧ len1 = 0 ∧ cap1 = 0 ∧ z1 = []) ∨ ∃ x, a1 = some x ∧ len1 ≤ cap1 ∧ cap1 ≤ maxLen ∧ z1.length = cap1 ∧ (∀ i, i < z1.length → w.cell? (x.add i) = some (.int .i64 (z1.getD i 0))) ∧ ∀ n ∈ z1, (Lit.int .i64 n).wf = true) (y1 : len1 * 8 ≤ 140737488351232) :
    Calls Try.prog 6 #[.slice a0 len0 cap0, .slice a1 len1 cap1] w fun e w' => e = .returned (.bool true) ∧ Below w.heap.size w w' := by
  obtain ⟨l0, rfl, hr0, hm0, hw0, hc0⟩ := ReadsInt.ofRowC w0
  obtain ⟨l1, rfl, hr1, hm1, hw1, hc1⟩ := ReadsInt.ofRowC w1
  exact reads_law a0 cap0 l0 a1 cap1 l1 w hr0 hc0 (fun x hx => by have := bounds_u8 (hw0 x hx); omega) (by omega) hr1 (by omega)
end Go.Proofs.Ytnpiicnhdpldaaa.Rf
