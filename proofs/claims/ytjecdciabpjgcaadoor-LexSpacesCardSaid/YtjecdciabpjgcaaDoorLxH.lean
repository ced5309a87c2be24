/-
  The walk of the reader's text (a string between its marks). Condition: the library's variable internal/bytealg.MaxLen holds a number; the text is no longer than 1100000 bytes.
-/
import Derived.Test.YtjecdciabpjgcaaDoorLxFc
import Derived.Deep.RegionWith
import Derived.Deep.RegionHeld3
namespace Go.Proofs.YtjecdciabpjgcaaDoor.Lx
set_option linter.unusedVariables false
set_option linter.unusedSimpArgs false
open Go.RowKit Go.Proofs.YtjecdciabpjgcaaDoorW.PrintWords Go.Proofs.YtjecdciabpjgcaaDoor.PLx

/-- Bytes as numbers. -/
def nb (l : List UInt8) : List Int := l.map fun c => (c.toNat : Int)
theorem nb_len (l : List UInt8) : (nb l).length = l.length := by simp [nb]
theorem nb_app (a b : List UInt8) : nb (a ++ b) = nb a ++ nb b := by simp [nb]
theorem str_nb (l : List UInt8) : strOfNums (nb l) = ⟨l.toArray⟩ := by
  have e : (nb l).map (fun n : Int => n.toNat.toUInt8) = l := by
    unfold nb
    rw [List.map_map]
    conv => rhs; rw [← List.map_id l]
    apply List.map_congr_left
    intro c _
    simp
  have h : strOfNums (nb l) = ⟨((nb l).map (fun n : Int => n.toNat.toUInt8)).toArray⟩ := rfl
  rw [h, e]
theorem bytes_nb (l : List UInt8) : bytesOf ⟨l.toArray⟩ = nb l := by unfold bytesOf nb; rfl
theorem info5 : (Tryd.prog.info? 5).map (fun i => (i.zero, i.size, i.bytes)) = some (some (.int .u8 0), 1, 1) := by kernel_rfl
theorem lit1_reads (W : World) (x : Nat) : ReadsInt (W.alloc (.cells #[.int .u8 (x : Int)] 5)) .u8 (some ⟨W.heap.size, 0, none⟩) 1 [(x : Int)] := by
  have ho := own_lit W W.heap.size 5 .u8 [(x : Int)] (Nat.le_refl _) (by simp)
  exact own_reads' ho
theorem utf8_len (n : Nat) : (utf8 n).length ≤ 4 := by unfold utf8; split <;> (try split) <;> (try split) <;> simp
theorem esc_len (l b : List UInt8) (n : Nat) (h : esc l = some (b, n)) : b.length ≤ 4 := by
  cases l with
  | nil => cases h
  | cons c t =>
    by_cases hl : longE c
    · by_cases hu : Lib.hasPrefix (c :: t) [117, 123] = true
      · rw [esc_uni_eq c t hl hu] at h
        simp only at h
        split at h
        · split at h
          · cases h
          · split at h
            · injection h with h; injection h with h _; rw [← h]; exact utf8_len _
            · cases h
        · cases h
      · have hu' : Lib.hasPrefix (c :: t) [117, 123] = false := by simpa using hu
        cases t with
        | nil => rw [esc_one_eq c hl] at h; cases h
        | cons d t =>
          rw [esc_hex_eq c d t hl hu'] at h
          split at h
          · injection h with h; injection h with h _; rw [← h]; simp
          · cases h
    · have hh : c = 116 ∨ c = 110 ∨ c = 114 ∨ c = 34 ∨ c = 39 ∨ c = 92 := by
        refine Classical.byContradiction fun hn => hl ⟨fun e => hn (by simp [e]), fun e => hn (by simp [e]), fun e => hn (by simp [e]), fun e => hn (by simp [e]), fun e => hn (by simp [e]), fun e => hn (by simp [e])⟩
      have he : ∃ x, esc (c :: t) = some ([x], 1) := by
        rcases hh with rfl | rfl | rfl | rfl | rfl | rfl <;> exact ⟨_, rfl⟩
      obtain ⟨x, he⟩ := he
      rw [he] at h
      injection h with h; injection h with h _; rw [← h]; simp
theorem str_nil (f : Nat) (out : List UInt8) : str (f + 1) [] out = none := rfl
theorem str_end (f : Nat) (t out : List UInt8) : str (f + 1) (34 :: t) out = some (out, t) := rfl
theorem str_bad (f : Nat) (c : UInt8) (t out : List UInt8) (h1 : c ≠ 34) (h : c < 32 ∨ c = 127) : str (f + 1) (c :: t) out = none := by simp only [str]; rw [if_neg h1, if_pos h]
theorem str_on (f : Nat) (c : UInt8) (t out : List UInt8) (h1 : c ≠ 34) (h : ¬ (c < 32 ∨ c = 127)) (h2 : c ≠ 92) : str (f + 1) (c :: t) out = str f t (out ++ [c]) := by simp only [str]; rw [if_neg h1, if_neg h, if_pos h2]
theorem str_esc (f : Nat) (t out : List UInt8) : str (f + 1) (92 :: t) out = match esc t with | none => none | some (b, n) => str f (t.drop n) (out ++ b) := by
  simp only [str]
  rw [if_neg (by decide), if_neg (by decide), if_neg (by decide)]
  cases esc t <;> rfl

theorem Rd.belowB {w w' : World} {g : Nat} {s : ByteArray} {n B : Nat} (h : Rd w g s n) (hb : Below B w w') (hg : g < B) : Rd w' g s n := ⟨(hb.block g hg).trans h.out⟩
theorem Turn.belowB {w wr w1 : World} {g : Nat} (ht : Turn w wr g) (hb : Below w.heap.size wr w1) : Turn w w1 g :=
  ⟨hb.os.trans ht.os, hb.tape.trans ht.tape, hb.output.trans ht.output, Nat.le_trans ht.size hb.size, fun k hk hg => (hb.block k hk).trans (ht.block k hk hg)⟩

def TxR (g : Nat) (s : ByteArray) (w : World) (R : Option (List UInt8 × List UInt8)) (v4 : Value) (wr : World) : Prop :=
  ∃ (n f : Nat) (out : List UInt8), n ≤ s.size ∧ Rd wr g s n ∧ Turn w wr g ∧ s.size - n < f ∧ wr.ownsRow w.heap.size 5 1 v4 (nb out).length (nums .u8 (nb out)) ∧ out.length ≤ 4 * n ∧ str f (s.data.toList.drop n) out = R
structure TxQ (g : Nat) (s : ByteArray) (w : World) (R : Option (List UInt8 × List UInt8)) (e : Ending) (w' : World) : Prop where mk ::
  (out : ∃ n, n ≤ s.size ∧ Rd w' g s n ∧ Turn w w' g ∧ ((R = none ∧ e = .returned (.tuple #[.string ⟨#[]⟩, .bool false])) ∨ ∃ x : List UInt8, R = some (x, s.data.toList.drop n) ∧ e = .returned (.tuple #[.string ⟨x.toArray⟩, .bool true])))
set_option maxRecDepth 1000000 in
set_option maxHeartbeats 1000000 in
theorem text_c (g : Nat) (s : ByteArray) (n : Nat) (hn : n < s.size) (hs : s.size ≤ 1100000) (w : World) (hr : Rd w g s n) (hg0 : g ≠ 0) (hm : ML w) (R : Option (List UInt8 × List UInt8)) (hR : str (s.size - n) (s.data.toList.drop (n + 1)) [] = R) :
    Calls Tryd.prog 29 #[.pointer (some ⟨g, 0, none⟩)] w (TxQ g s w R) := by
  have HGL := Lib.hid hr.lt
  have HM := Lib.hid hm
  have HA : Hid (TxR g s w R (.slice none 0 0) (w.setCell ⟨g, 1, none⟩ (.int .i64 ((n : Int) + 1)))) := Lib.hid
    ⟨n + 1, s.size - n, [], by omega, hr.set _ _ (by push_cast; rfl), Turn.set _ _ _ _, by omega, own_nil _ _ _ _, by simp, hR⟩
  have h0 := hr.c0
  have h1 := hr.c1
  have hfz := hr.f1
  clear hr hR hm
  go_enter Tryd.func29, Tryd.ntmps29
  go_wp2
  clear h0 h1 hfz
  go_loopw [4] (TxR g s w R) (fun _ wr => s.size - rdPos wr g)
  case atStart => exact HA.out
  case round =>
    obtain ⟨n, f, out, hn, hr, ht, hf, ho, hol, hc⟩ := hrel
    have HR0 := Lib.hid hr
    have HT0 := Lib.hid ht
    have HO := Lib.hid ho
    have h0 := hr.c0
    have h1 := hr.c1
    have hfz := hr.f1
    have HNE : Hid (some g ≠ u4.ownBlock) := Lib.hid (fun e => by have := own_base ho g e.symm; have := HGL.out; omega)
    obtain ⟨f, rfl⟩ : ∃ k, f = k + 1 := ⟨f - 1, by omega⟩
    by_cases hlt : n < s.size
    · have hlt' : (n : Int) < (s.size : Int) := by omega
      have hdr := drop_at s n hlt
      rw [hdr] at hc
      have HC := Lib.hid hc
      have hx := UInt8.toNat_lt s[n]
      clear hc hr ht ho hdr
      by_cases c34 : s[n] = 34
      · have HE : Hid (R = some (out, s.data.toList.drop (n + 1))) := Lib.hid (by have := HC.out; rw [c34, str_end] at this; exact this.symm)
        have hq : ((s[n].toNat : Int) == 34) = true := by rw [c34]; decide
        have hcv : ∀ (k : Nat) (m : Int), (convert 63 9 u4).run Tryd.prog ((wr.drewN k).setCell ⟨g, 1, none⟩ (.int .i64 m)) = .ok (.string ⟨out.toArray⟩) ((wr.drewN k).setCell ⟨g, 1, none⟩ (.int .i64 m)) := fun k m => by
          have := own_string (P := Tryd.prog) (src := 63) (dst := 9) Tryd.underlying63 Tryd.underlying5 Tryd.underlying9 (own_setCell (pw_own_below HO.out (pw_below_drewN (Below.refl _ _) k)) (p := ⟨g, 1, none⟩) HNE.out (.int .i64 m))
          rw [str_nb] at this
          exact this
        clear c34
        go_wp2
        go_quiet (fail)
        go_wp2
        go_quiet (fail)
        go_wp2
        go_ret2
        exact ⟨n + 1, by omega, (HR0.out.drewN _).set _ _ (by push_cast; rfl), (HT0.out.trans (Turn.drewN _ _ _)).trans (Turn.set _ _ _ _), .inr ⟨out, HE.out, rfl⟩⟩
      · have hq : ((s[n].toNat : Int) == 34) = false := by
          simp only [beq_eq_false_iff_ne, ne_eq]
          intro h
          apply c34
          have : s[n].toNat = (34 : UInt8).toNat := by have : (34 : UInt8).toNat = 34 := rfl; omega
          exact UInt8.toNat_inj.1 this
        by_cases cb : s[n] < 32 ∨ s[n] = 127
        · have HE : Hid (R = none) := Lib.hid (by have := HC.out; rw [str_bad _ _ _ _ c34 cb] at this; exact this.symm)
          rcases cb with cb | cb
          · have hb : (s[n].toNat : Int) < 32 := by have := UInt8.lt_iff_toNat_lt.1 cb; have e : (32 : UInt8).toNat = 32 := rfl; omega
            clear c34 cb
            go_wp2
            go_quiet (fail)
            go_wp2
            go_quiet (fail)
            go_wp2
            go_ret2
            exact ⟨n, hn, HR0.out.drewN _, HT0.out.trans (Turn.drewN _ _ _), .inl ⟨HE.out, rfl⟩⟩
          · have hb : 32 ≤ (s[n].toNat : Int) := by rw [cb]; decide
            have hb2 : ((s[n].toNat : Int) == 127) = true := by rw [cb]; decide
            clear c34 cb
            go_wp2
            go_quiet (fail)
            go_wp2
            go_quiet (fail)
            go_wp2
            go_ret2
            exact ⟨n, hn, HR0.out.drewN _, HT0.out.trans (Turn.drewN _ _ _), .inl ⟨HE.out, rfl⟩⟩
        · have hb : 32 ≤ (s[n].toNat : Int) := by
            rcases Nat.lt_or_ge s[n].toNat 32 with h | h
            · exact absurd (.inl (UInt8.lt_iff_toNat_lt.2 h)) cb
            · omega
          have hb2 : ((s[n].toNat : Int) == 127) = false := by
            simp only [beq_eq_false_iff_ne, ne_eq]
            intro h
            apply cb
            have : s[n].toNat = (127 : UInt8).toNat := by have : (127 : UInt8).toNat = 127 := rfl; omega
            exact .inr (UInt8.toNat_inj.1 this)
          by_cases c92 : s[n] = 92
          · have hq2 : ((s[n].toNat : Int) != 92) = false := by rw [c92]; decide
            obtain ⟨r, hr⟩ : ∃ r, esc (s.data.toList.drop (n + 1)) = r := ⟨_, rfl⟩
            have HE0 : Hid (r = none → R = none) := Lib.hid (fun h => by have := HC.out; rw [c92, str_esc, hr, h] at this; exact this.symm)
            have HE1 : Hid (∀ b m, r = some (b, m) → str f (s.data.toList.drop (n + 1 + m)) (out ++ b) = R ∧ 1 ≤ m ∧ n + 1 + m ≤ s.size ∧ b.length ≤ 4) := Lib.hid (fun b m h => by
              have := HC.out
              rw [c92, str_esc, hr, h] at this
              simp only [List.drop_drop] at this
              have hp := esc_pos _ _ _ (hr.trans h)
              rw [List.length_drop, len_data] at hp
              exact ⟨this, hp.1, by omega, esc_len _ _ _ (hr.trans h)⟩)
            have HES := Lib.hid (fun w hm => escape_c (s.extract (n + 1) s.size) (by rw [← len_data, rest_data, List.length_drop, len_data]; omega) w hm)
            rw [rest_data, hr] at HES
            have HM0 : Hid (ML wr) := Lib.hid (HM.out.turn HT0.out hg0)
            have hn1 : (n : Int) + 1 ≤ (s.size : Int) := by omega
            clear hr c92 cb c34
            go_wp2
            go_quiet (fail)
            go_wp2
            go_quiet (fail)
            go_wp2
            have hw1 : IntKind.i64.wrap ((n : Int) + 1) = (n : Int) + 1 := IntWalk.i64_in _ (by omega)
            have hw2 : 0 ≤ (n : Int) + 1 := by omega
            have hw3 : ((n : Int) + 1).toNat = n + 1 := by omega
            go_region_with (go_at_call 35; refine (HES.out _ (HM0.out.below (pw_below_drewN (Below.refl _ _) _))).mono ?_; intro e w1 hq; obtain ⟨he, hb⟩ := hq.out; subst he; have HB1 := Lib.hid hb; clear hb hq)
            all_goals
              clear hw1 hw2 hw3
              have HR1 := Lib.hid ((HR0.out.drewN _).below HB1.out)
              have HT1 := Lib.hid ((HT0.out.trans (Turn.drewN _ _ _)).trans (Turn.of_below HB1.out g))
              have HO1 := Lib.hid (pw_own_below (pw_own_below HO.out (pw_below_drewN (Below.refl _ _) _)) HB1.out)
              clear h0 h1 hfz
              rcases r with _ | ⟨b, m⟩
              · have HE := Lib.hid (HE0.out rfl)
                go_simp
                go_wp2
                go_ret2
                exact ⟨n, hn, HR1.out, HT1.out, .inl ⟨HE.out, rfl⟩⟩
              · obtain ⟨e1, e2, e3, e4⟩ := HE1.out b m rfl
                have HE := Lib.hid e1
                have hm0 : ((m : Int) == 0) = false := by simp only [beq_eq_false_iff_ne, ne_eq]; omega
                have hbs : (nb out).length + (⟨b.toArray⟩ : ByteArray).size ≤ 140737488355328 := by rw [nb_len, size_arr]; omega
                have HBS := Lib.hid hbs
                clear e1 hbs
                go_simp
                go_wp2_with (at_builtin; go_loud ((refine print_append_str (w0 := w1) (W := w1) w.heap.size rfl (.tmp 50) (.tmp 51) 63 9 5 rfl Tryd.underlying63 Tryd.underlying9 info5 u4 (nb out) ⟨b.toArray⟩ rfl rfl HO1.out (Below.refl _ _) HT1.out.size HBS.out ?_); intro v1 w2 hown hbl hg; have HO2 := Lib.hid hown; have HB2 := Lib.hid hbl; have HR2 := Lib.hid (HR1.out.belowB hbl HGL.out); have hc0 := HR2.out.c0; have hc1 := HR2.out.c1; have hc2 := HR2.out.f1; clear hown hbl hg))
                go_roundw
                case rel => exact ⟨n + 1 + m, f, out ++ b, by omega, HR2.out.set _ _ (by push_cast; omega), (HT1.out.belowB HB2.out).trans (Turn.set _ _ _ _), by omega, by have := HO2.out; rw [bytes_nb, ← nb_app] at this; exact own_setCell this (fun e => by have := own_base HO2.out g e.symm; have := HGL.out; omega) _, by simp; omega, HE.out⟩
                case measure =>
                  rw [HR0.out.pos, (HR2.out.set _ (n + 1 + m) (by push_cast; omega)).pos]
                  omega
          · have hq2 : ((s[n].toNat : Int) != 92) = true := by
              simp only [bne_iff_ne, ne_eq]
              intro h
              apply c92
              have : s[n].toNat = (92 : UInt8).toNat := by have : (92 : UInt8).toNat = 92 := rfl; omega
              exact UInt8.toNat_inj.1 this
            have HE : Hid (str f (s.data.toList.drop (n + 1)) (out ++ [s[n]]) = R) := Lib.hid (by have := HC.out; rw [str_on _ _ _ _ c34 cb c92] at this; exact this)
            have HL1 := Lib.hid (fun (W : World) => lit1_reads W s[n].toNat)
            have HLEN : Hid (((nb out).length + 1) * 1 ≤ 140737488355328) := Lib.hid (by rw [nb_len]; omega)
            clear c34 cb c92
            go_wp2
            go_quiet (fail)
            go_wp2
            go_quiet (fail)
            go_wp2_with (at_builtin; go_loud (refine print_append_row (w0 := _) w.heap.size rfl (.tmp 84) (.tmp 86) 63 5 .u8 1 rfl Tryd.underlying63 info5 (by decide) u4 (nb out) [(s[n].toNat : Int)] _ 1 1 rfl rfl (pw_own_below (pw_own_below HO.out (pw_below_drewN (Below.refl _ _) _)) ((Below.refl _ _).alloc (Nat.le_refl _) _)) (HL1.out _) (Below.refl _ _) (by have := HT0.out.size; simp; omega) HLEN.out ?_); intro v1 w1 hown hbl hg hat; have HO1 := Lib.hid hown; have HB1 := Lib.hid hbl; have HR1 := Lib.hid (((HR0.out.drewN _).below ((Below.refl _ _).alloc (Nat.le_refl _) _)).belowB hbl HGL.out); have hc0 := HR1.out.c0; have hc1 := HR1.out.c1; have hc2 := HR1.out.f1; clear hown hbl hg hat)
            go_roundw
            case rel => exact ⟨n + 1, f, out ++ [s[n]], by omega, HR1.out.set _ _ (by push_cast; rfl), ((HT0.out.trans ((Turn.drewN _ _ _).trans (Turn.of_below ((Below.refl _ _).alloc (Nat.le_refl _) _) _))).belowB HB1.out).trans (Turn.set _ _ _ _), by omega, by rw [nb_app]; exact own_setCell HO1.out (fun e => by have := own_base HO1.out g e.symm; have := HGL.out; omega) _, by simp; omega, HE.out⟩
            case measure =>
              rw [HR0.out.pos, (HR1.out.set _ (n + 1) (by push_cast; rfl)).pos]
              omega
    · have HE : Hid (R = none) := Lib.hid (by rw [drop_end s n (by omega), str_nil] at hc; exact hc.symm)
      have hge : (s.size : Int) ≤ (n : Int) := by omega
      clear hlt hc hr ht ho
      go_wp2
      go_quiet (fail)
      go_wp2
      go_ret2
      exact ⟨n, hn, HR0.out.drewN _, HT0.out.trans (Turn.drewN _ _ _), .inl ⟨HE.out, rfl⟩⟩
end Go.Proofs.YtjecdciabpjgcaaDoor.Lx
