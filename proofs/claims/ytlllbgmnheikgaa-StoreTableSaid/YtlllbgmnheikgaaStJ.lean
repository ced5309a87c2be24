/-
  The walk of awake (store): no condition.
-/
import Derived.Test.YtlllbgmnheikgaaStI
import Derived.Lib.SlBytesConst
namespace Go.Proofs.Ytlllbgmnheikgaa.St
set_option linter.unusedVariables false
set_option linter.unusedSimpArgs false
open Go.RowKit Go.Proofs.YtlllbgmnheikgaaW.PrintWords Go.Proofs.Ytlllbgmnheikgaa.PStoreNone

/-- The first bytes, as awake makes them. -/
def zb : List Int := List.replicate 65536 0
theorem zb_len : zb.length = 65536 := by unfold zb; rw [List.length_replicate]
theorem make_zb : ∀ W : World, (Instr.makeSlice 29 (.int .i64 65536) (.int .i64 65536)).run Try.prog W = .ok (.slice (some ⟨W.heap.size, 0, none⟩) 65536 65536) (W.alloc (.cells (madeCells #[.int .u8 0] 65536) 5)) :=
  fun W => print_make (P := Try.prog) 29 5 .u8 1 Try.underlying29 info5 (by decide) 65536 (by decide) W
theorem InitQ.below {w0 w w' : World} {base g : Nat} {mn mx : Int} {hs : Bool} {v : Value} {xs ys : List Int} (hb : Below base w0 w) (hs' : base ≤ w.heap.size) (H : MemI w base g mn mx hs v xs) (hg : w.grownBy w' v.ownBlock) : Below base w0 w' :=
  hb.grown hg hs' (own_base H.own)
theorem lit5 (W : World) (a b : Int) : ReadsInt (W.alloc (.cells #[.int .u8 a, .int .u8 b] 5 (2, 3))) .u8 (some ⟨W.heap.size, 0, none⟩) 2 [a, b] := by
  refine ⟨rfl, by decide, fun _ => ⟨_, rfl, fun j hj => ?_⟩⟩
  have hb := heap_alloc_new W (.cells #[.int .u8 a, .int .u8 b] 5 (2, 3))
  rw [add_plain, cell_of_row _ _ j _ _ _ hb]
  rcases j with _ | _ | j
  · rfl
  · rfl
  · omega
theorem fillA (w : World) (base g : Nat) (v : Value) (H : MemI w base g 0 1 true v zb) : Calls Try.prog 17 #[.pointer (some ⟨g, 0, none⟩), .int .u64 65536, .int .u8 1, .int .u64 0] w (InitQ w base g 0 1 true v zb 0) := by
  have h := fill_c w base g 0 1 true v zb H 65536 0 1
  have e1 : inB 65536 0 zb.length = true := by rw [zb_len]; decide
  have e2 : fillE 65536 0 zb.length = 0 := by unfold fillE; exact if_pos e1
  have e3 : fillF 65536 0 1 zb = zb := by unfold fillF; exact (if_pos e1).trans (fillX_zero _ _ _)
  rw [e2, e3] at h
  exact h
theorem fillB (w : World) (base g : Nat) (v : Value) (H : MemI w base g 0 1 true v zb) : Calls Try.prog 17 #[.pointer (some ⟨g, 0, none⟩), .int .u64 65537, .int .u8 1, .int .u64 0] w (InitQ w base g 0 1 true v zb 44) := by
  have h := fill_c w base g 0 1 true v zb H 65537 0 1
  have e1 : ¬ inB 65537 0 zb.length = true := by rw [zb_len]; decide
  have e2 : fillE 65537 0 zb.length = 44 := by unfold fillE; exact if_neg e1
  have e3 : fillF 65537 0 1 zb = zb := by unfold fillF; exact if_neg e1
  rw [e2, e3] at h
  exact h
/-- The bytes when two are written. -/
def zb2 : List Int := initF 3 0 2 [97, 98] zb
theorem zb2_eq : ∃ L, zb2 = [0, 0, 0, 97, 98] ++ L ∧ zb2.length = 65536 := by
  refine ⟨zb.drop 5, ?_, ?_⟩
  · unfold zb2 initF
    rw [if_pos ⟨by decide, by rw [zb_len]; decide⟩]
    have : zb.take 3 = [0, 0, 0] := by unfold zb; rw [List.take_replicate]; rfl
    rw [this]
    rfl
  · unfold zb2; rw [initF_len, zb_len]
theorem writeA (w : World) (base g : Nat) (v : Value) (A : Option Addr) (H : MemI w base g 0 1 true v zb) (hr : ReadsInt w .u8 A 2 [97, 98]) : Calls Try.prog 15 #[.pointer (some ⟨g, 0, none⟩), .int .u64 3, .slice A 2 2] w (InitQ w base g 0 1 true v zb2 0) := by
  have h := write_c w base g 0 1 true v zb H 3 A 2 [97, 98] hr (by decide) (by decide)
  have e2 : initE 3 0 ([97, 98] : List Int).length ([97, 98] : List Int).length zb.length = 0 := by unfold initE; rw [zb_len]; rfl
  rw [e2] at h
  exact h
theorem readA (w : World) (base g : Nat) (v : Value) (H : MemI w base g 0 1 true v zb2) : Calls Try.prog 21 #[.pointer (some ⟨g, 0, none⟩), .int .u64 2, .int .i64 3] w (ReadQ w [0, 97, 98] 0) := by
  obtain ⟨A, c, rfl⟩ := own_slice H.own
  obtain ⟨L, h1, h2⟩ := zb2_eq
  have h := read_ok w base g 0 1 true A c zb2 H 2 3 (by rw [h2]; decide) (by omega)
  have e : (zb2.drop 2).take 3 = [0, 97, 98] := by rw [h1]; rfl
  rw [e] at h
  exact h
theorem growA (w : World) (base g : Nat) (v : Value) (H : MemI w base g 0 1 true v zb2) (hb : base ≤ w.heap.size) : Calls Try.prog 10 #[.pointer (some ⟨g, 0, none⟩), .int .u64 1, .int .i64 9] w (GrowQ w base g 0 1 true v zb2 (-1)) := by
  have h := growM_c w base g 0 1 true v zb2 H 1 9 (by decide) hb (by decide) (by decide)
  have hn : ¬ growOk zb2.length 1 (mostM 1 true 9) := by obtain ⟨L, h1, h2⟩ := zb2_eq; rw [h2]; decide
  rw [if_neg hn, if_neg hn] at h
  exact h
/-- The two values of the table, and four. -/
def tb2 : List Value := val4 0 0 0 false ++ val4 0 0 0 false
def tb4 : List Value := tb2 ++ repC 2 (val4 112 5 0 false)
theorem growB (w : World) (base g : Nat) (A : Option Addr) (c : Nat) (H : TblI w base g 0 0 0 false (.slice A 2 c) 2 tb2) (hb : base ≤ w.heap.size) :
    Calls Try.prog 13 #[.pointer (some ⟨g, 0, none⟩), .int .u64 2, .agg #[.int .i64 112, .int .u64 5, .int .u64 0, .bool false]] w (GrowT w base g 0 0 0 false (.slice A 2 c) 4 tb4 2) :=
  growT_yes w base g 0 0 0 false A c 2 tb2 H 2 112 5 0 false hb (by decide) (by decide)
theorem getB (w : World) (base g : Nat) (v : Value) (H : TblI w base g 0 0 0 false v 4 tb4) :
    Calls Try.prog 28 #[.pointer (some ⟨g, 0, none⟩), .int .u64 3] w fun e w' => e = .returned (.tuple #[.agg #[.int .i64 112, .int .u64 5, .int .u64 0, .bool false], .int .i64 0]) ∧ Below w.heap.size w w' := by
  obtain ⟨g2, cap, hv, hg2, _⟩ := H.own.form (by decide)
  subst hv
  exact get_ok w base g 0 0 0 false g2 cap 4 tb4 H 3 (by decide) 112 5 0 false rfl rfl rfl rfl
theorem MemI.keep {w w' : World} {base g gt : Nat} {mn mx : Int} {hs : Bool} {v vt : Value} {xs : List Int} (H : MemI w base g mn mx hs v xs) (hsz : w.heap.size ≤ w'.heap.size) (h : ∀ i, i < w.heap.size → i ≠ gt → some i ≠ vt.ownBlock → w'.heap[i]? = w.heap[i]?) (h1 : g ≠ gt) (h2 : some g ≠ vt.ownBlock) (h3 : v.ownBlock ≠ some gt) (h4 : v.ownBlock = none ∨ v.ownBlock ≠ vt.ownBlock) : MemI w' base g mn mx hs v xs :=
  ⟨(h g (blk_lt H.blk) h1 h2).trans H.blk, KeepBut.own ⟨hsz, h⟩ H.own h3 h4, H.ge, H.len⟩
theorem field3 (t lo hi : Int) (nu : Bool) (W : World) : (Instr.field 26 (.agg #[.int .i64 t, .int .u64 lo, .int .u64 hi, .bool nu]) 3).run Try.prog W = .ok (.bool nu) W := by
  have hu := Try.underlying26
  obtain ⟨i, hi, hz⟩ := Option.map_eq_some_iff.1 (show (Try.prog.info? 4).map (·.size) = some 1 from by kernel_rfl)
  have hu4 := Try.underlying4
  simp [Instr.field, run_underlying hu, run_underlying hu4, asAgg, part, sizeOf, typeInfo, hi, hz, Result.andThen]
theorem str3 : (strOfNums [0, 97, 98]).toList = [0, 97, 98] := by rw [ByteArray.toList_eq]; rfl
set_option maxHeartbeats 2000000 in
set_option maxRecDepth 100000 in
theorem awake_c (w : World) : Calls Try.prog 8 #[] w fun e w' => e = .returned (.bool true) ∧ Below w.heap.size w w' := by
  have hmk := make_zb
  obtain ⟨Mc, hMc⟩ : ∃ Mc, Mc = madeCells #[.int .u8 0] 65536 := ⟨_, rfl⟩
  rw [← hMc] at hmk
  obtain ⟨base, hbase⟩ : ∃ base, base = w.heap.size := ⟨_, rfl⟩
  obtain ⟨wm, hwm⟩ : ∃ wm, wm = (w.alloc (Obj.cells Mc 5)).alloc (Obj.cells #[Value.int IntKind.i64 0, Value.int IntKind.i64 1, Value.bool true, Value.slice (some { block := base, off := 0 }) 65536 65536] 31) := ⟨_, rfl⟩
  have hs1 : (w.alloc (Obj.cells Mc 5)).heap.size = base + 1 := by rw [hbase]; show (w.heap.push _).size = _; exact Array.size_push _
  have hown : (w.alloc (Obj.cells Mc 5)).ownsRow base 5 1 (.slice (some ⟨base, 0, none⟩) 65536 65536) 65536 (nums .u8 zb) := by
    rw [hMc, hbase]; exact own_made w w.heap.size 5 .u8 65536 (Nat.le_refl _) (by decide)
  have HM : Hid (MemI wm base (base + 1) 0 1 true (.slice (some ⟨base, 0, none⟩) 65536 65536) zb) := Lib.hid
    ⟨by rw [hwm, ← hs1]; exact heap_alloc_new _ _, by rw [hwm, zb_len]; exact own_alloc hown _, by omega, by rw [zb_len]; decide⟩
  have HB : Hid (Below base w wm) := Lib.hid (by
    rw [hwm, hbase]
    exact ((Below.refl _ _).alloc (Nat.le_refl _) _).alloc (by rw [hs1, hbase]; omega) _)
  have HSZ : Hid (base + 2 ≤ wm.heap.size) := Lib.hid (by rw [hwm]; show _ ≤ (Array.push _ _).size; rw [Array.size_push, hs1]; omega)
  obtain ⟨vm, hvm⟩ : ∃ vm, vm = Value.slice (some { block := base, off := 0 }) 65536 65536 := ⟨_, rfl⟩
  have HVM := Lib.hid hvm
  have HBASE := Lib.hid hbase
  clear hMc hown hs1
  go_enter Try.func8, Try.ntmps8
  go_upto_region 2 with fail
  rw [← hbase, ← hwm]
  rw [← hvm] at HM ⊢
  clear hwm hbase hvm hmk
  go_wp2_with (first | (go_at_call 17; ((with_reducible refine (fillA wm base (base + 1) vm HM.out).mono ?_)); intro e w1 hq; obtain ⟨he, hm, hgr⟩ := hq.out; subst he; have HM1 := Lib.hid hm; have HB1 := Lib.hid (HB.out.grown hgr (by have := HSZ.out; omega) (own_base HM.out.own)); have HS1 := Lib.hid (Nat.le_trans HSZ.out hgr.size); clear hq hm hgr) | (go_at_call 17; ((with_reducible refine (fillB w1 base (base + 1) vm HM1.out).mono ?_)); intro e w2 hq; obtain ⟨he, hm, hgr⟩ := hq.out; subst he; have HM2 := Lib.hid hm; have HB2 := Lib.hid (HB1.out.grown hgr (by have := HS1.out; omega) (own_base HM1.out.own)); have HS2 := Lib.hid (Nat.le_trans HS1.out hgr.size); have HL2 := Lib.hid (hm.below ((Below.refl _ _).alloc (Nat.le_refl _) (.cells #[.int .u8 97, .int .u8 98] 5 (2, 3)))); have hcvt := Go.Lib.run_convert_bytes_const (P := Try.prog) w2 29 5 #[.int .u8 97, .int .u8 98] 2 2 Try.underlying29 Try.underlying5; clear hq hm hgr) | (go_at_call 15; refine (writeA _ base (base + 1) vm _ HL2.out (lit5 w2 97 98)).mono ?_; intro e w3 hq; obtain ⟨he, hm, hgr⟩ := hq.out; subst he; have HM3 := Lib.hid hm; have HB3 := Lib.hid ((HB2.out.alloc (by have := HS2.out; omega) _).grown hgr (by have := HS2.out; show base ≤ (Array.push _ _).size; rw [Array.size_push]; omega) (own_base HL2.out.own)); have HS3 := Lib.hid (Nat.le_trans HS2.out (Nat.le_trans (by show _ ≤ (Array.push _ _).size; rw [Array.size_push]; omega) hgr.size)); clear hq hm hgr) | (go_at_call 21; refine (readA w3 base (base + 1) vm HM3.out).mono ?_; intro e w4 hq; obtain ⟨v4, he, ho, hb⟩ := hq.out; subst he; have HM4 := Lib.hid (HM3.out.below hb); have HB4 := Lib.hid (HB3.out.trans (hb.mono (by have := HS3.out; omega))); have HS4 := Lib.hid (Nat.le_trans HS3.out hb.size); have HO4 := Lib.hid ho; clear hq ho hb))
  have hs4a : (w4.alloc (Obj.cells #[.int .i64 0, .int .u64 0, .int .u64 0, .bool false, .int .i64 0, .int .u64 0, .int .u64 0, .bool false] 26)).heap.size = w4.heap.size + 1 := by show (Array.push _ _).size = _; exact Array.size_push _
  have h4 := HS4.out
  have HT : Hid (TblI ((w4.alloc (Obj.cells #[.int .i64 0, .int .u64 0, .int .u64 0, .bool false, .int .i64 0, .int .u64 0, .int .u64 0, .bool false] 26)).alloc (Obj.cells #[.int .i64 0, .int .i64 0, .int .i64 0, .bool false, .slice (some ⟨w4.heap.size, 0, none⟩) 2 2] 41)) base (w4.heap.size + 1) 0 0 0 false (.slice (some ⟨w4.heap.size, 0, none⟩) 2 2) 2 tb2) := Lib.hid
    ⟨by rw [← hs4a]; exact heap_alloc_new _ _, own_alloc (World.ownsRow_lit (base := base) (e := 26) (size := 4) w4 #[.int .i64 0, .int .u64 0, .int .u64 0, .bool false, .int .i64 0, .int .u64 0, .int .u64 0, .bool false] 2 (by omega) (by decide) rfl) _, by decide, by omega, by decide⟩
  have HBT : Hid (Below w4.heap.size w4 ((w4.alloc (Obj.cells #[.int .i64 0, .int .u64 0, .int .u64 0, .bool false, .int .i64 0, .int .u64 0, .int .u64 0, .bool false] 26)).alloc (Obj.cells #[.int .i64 0, .int .i64 0, .int .i64 0, .bool false, .slice (some ⟨w4.heap.size, 0, none⟩) 2 2] 41))) := Lib.hid (((Below.refl _ _).alloc (Nat.le_refl _) _).alloc (by rw [hs4a]; omega) _)
  generalize ((w4.alloc (Obj.cells #[.int .i64 0, .int .u64 0, .int .u64 0, .bool false, .int .i64 0, .int .u64 0, .int .u64 0, .bool false] 26)).alloc (Obj.cells #[.int .i64 0, .int .i64 0, .int .i64 0, .bool false, .slice (some ⟨w4.heap.size, 0, none⟩) 2 2] 41)) = wt at HT HBT ⊢
  have HST : Hid (base + 2 ≤ wt.heap.size) := Lib.hid (Nat.le_trans h4 HBT.out.size)
  have HMT := Lib.hid (HM4.out.below HBT.out)
  have HBB := Lib.hid (HB4.out.trans (HBT.out.mono (by omega)))
  have HO5 := Lib.hid (pw_own_below HO4.out HBT.out)
  have HG4 : Hid (base + 1 ≠ w4.heap.size + 1 ∧ base + 1 ≠ w4.heap.size ∧ base ≠ w4.heap.size + 1 ∧ base ≠ w4.heap.size ∧ base + 2 ≤ w4.heap.size) := Lib.hid (by omega)
  clear h4 hs4a
  refine (growB wt base (w4.heap.size + 1) (some ⟨w4.heap.size, 0, none⟩) 2 HT.out (by have := HST.out; omega)).mono ?_
  intro e w5 hq
  obtain ⟨v5, he, ht5, hfar, hb5, hat, hsz5⟩ := hq.out
  subst he
  have hg4 := HG4.out
  have hv5 : vm.ownBlock = some base := by rw [HVM.out]; rfl
  have HM5 := Lib.hid (HMT.out.keep (vt := .slice (some ⟨w4.heap.size, 0, none⟩) 2 2) hsz5 hfar hg4.1 (by simp [Value.ownBlock]; omega) (by rw [hv5]; simp; omega) (.inr (by rw [hv5]; simp [Value.ownBlock]; omega)))
  have HT5 := Lib.hid ht5
  have HB5 := Lib.hid (HBB.out.trans hb5)
  have HS5 : Hid (base + 2 ≤ w5.heap.size) := Lib.hid (Nat.le_trans HST.out hsz5)
  have HS3' := HS3.out
  have hv4 : ∀ k, v4.ownBlock = some k → base + 2 ≤ k ∧ k < w4.heap.size := fun k hk => ⟨Nat.le_trans HS3' (own_base HO4.out k hk), own_lt HO4.out k hk⟩
  have HV4 := Lib.hid hv4
  have HO6 := Lib.hid (KeepBut.own (row := some w4.heap.size) ⟨hsz5, hfar⟩ HO5.out (fun e => by have := hv4 _ e; omega) (by rcases h : v4.ownBlock with _ | k; exact .inl rfl; exact .inr (fun e => by injection e with e; have := hv4 k h; omega)))
  clear hq ht5 hfar hb5 hat hsz5 hg4 hv5 hv4 HS3'
  go_upto_region 9 with (first | (go_at_call 28; refine (getB _ base (w4.heap.size + 1) v5 HT5.out).mono ?_; rintro e w6 ⟨rfl, hb⟩; have HM6 := Lib.hid (HM5.out.below hb); have HB6 := Lib.hid (HB5.out.trans (hb.mono (by have := HS5.out; omega))); have HS6 := Lib.hid (Nat.le_trans HS5.out hb.size); have HO7 := Lib.hid (pw_own_below HO6.out hb); clear hb))
  have hbl := blk_new w6 (.cells #[.int .i64 112, .int .u64 5, .int .u64 0, .bool false] 26)
  have hb6 : Below w6.heap.size w6 (w6.alloc (Obj.cells #[.int .i64 112, .int .u64 5, .int .u64 0, .bool false] 26)) := (Below.refl _ _).alloc (Nat.le_refl _) _
  have HL := Lib.hid hbl
  have HM6a := Lib.hid (HM6.out.below hb6)
  have HB6a := Lib.hid (HB6.out.trans (hb6.mono (by have := HS6.out; omega)))
  have HO8 := Lib.hid (pw_own_below HO7.out hb6)
  have HS6a := Lib.hid (Nat.le_trans HS6.out hb6.size)
  have HLT : Hid (w6.heap.size < (w6.alloc (Obj.cells #[.int .i64 112, .int .u64 5, .int .u64 0, .bool false] 26)).heap.size) := Lib.hid (blk_lt hbl)
  generalize w6.alloc (Obj.cells #[.int .i64 112, .int .u64 5, .int .u64 0, .bool false] 26) = wz at HL HM6a HB6a HO8 HS6a HLT ⊢
  clear hbl hb6
  have hstr := str3
  have hfld : ∀ W, (Instr.field 26 (.agg #[.int .i64 112, .int .u64 0, .int .u64 0, .bool true]) 3).run Try.prog W = .ok (.bool true) W := fun W => field3 _ _ _ _ W
  go_wp2_with (first | (go_at_call 10; refine (growA wz base (base + 1) vm HM6a.out (by have := HS6a.out; omega)).mono ?_; intro e w7 hq; obtain ⟨v7, he, hm7, hfar, hb7, hat, hsz⟩ := hq.out; subst he; have hvb : vm.ownBlock = some base := (by rw [HVM.out]; rfl); have hl1 : w7.cell? ⟨w6.heap.size, 1, none⟩ = some (.int .u64 5) := ((blk_cell ((hfar _ HLT.out (by have := HS6.out; omega) (by rw [hvb]; intro e; injection e with e; have := HS6.out; omega)).trans HL.out) 1).trans rfl); have hcv4 := own_string (P := Try.prog) (src := 29) (dst := 9) Try.underlying29 Try.underlying5 Try.underlying9 (KeepBut.own (row := some base) ⟨hsz, fun i h1 h2 h3 => hfar i h1 h2 (by rw [hvb]; exact h3)⟩ HO8.out (fun e => by have := HV4.out _ e; omega) (by rcases h : v4.ownBlock with _ | k; exact .inl rfl; exact .inr (fun e => by injection e with e; have := HV4.out k h; omega))); have HB7 := Lib.hid (HB6a.out.trans hb7); have HS7 := Lib.hid (Nat.le_trans HS6a.out hsz); clear hq hm7 hfar hb7 hat hsz hvb) | (go_at_call 29; refine (zero_c _ _).mono ?_; rintro e w8 ⟨rfl, hb⟩; have HB8 := Lib.hid (HB7.out.trans (hb.mono (by have := HS7.out; omega))); clear hb))
  go_ret
  exact ⟨rfl, by rw [← HBASE.out]; exact HB8.out⟩
end Go.Proofs.Ytlllbgmnheikgaa.St
