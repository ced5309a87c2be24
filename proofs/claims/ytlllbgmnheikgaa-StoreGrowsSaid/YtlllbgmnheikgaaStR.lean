/-
  The walk of the law StoreGrows: no condition.
-/
import Derived.Test.YtlllbgmnheikgaaStQ
import Derived.Deep.QuietTactic
import Derived.OpenShut
namespace Go.Proofs.Ytlllbgmnheikgaa.St
set_option linter.unusedVariables false
set_option linter.unusedSimpArgs false
open Go.ChangeShapes Go.WideShapes Go.RowKit Go.Proofs.YtlllbgmnheikgaaW.PrintWords Go.Proofs.YtlllbgmnheikgaaW.PrintMore Go.Proofs.Ytlllbgmnheikgaa.PStoreNone

theorem blk_at {w0 w : World} {g : Nat} {o : Obj} (h : w0.heap[g]? = some o) (hb : Below w0.heap.size w0 w) : w.heap[g]? = some o := (hb.block g (blk_lt h)).trans h
theorem below_go {w0 w w' : World} (h : Below w0.heap.size w0 w) (hb : Below w.heap.size w w') : Below w0.heap.size w0 w' := h.trans (hb.mono h.size)
theorem below_al {w0 w : World} (h : Below w0.heap.size w0 w) (o : Obj) : Below w0.heap.size w0 (w.alloc o) := h.alloc h.size o
theorem and1 (n : Int) : ∃ k : Nat, Go.bits .and .i64 n 1 = (k : Int) ∧ k ≤ 1 := by
  have h1 : (BitVec.ofInt 64 1).toNat = 2 ^ 1 - 1 := by decide
  have key : (BitVec.ofInt 64 n &&& BitVec.ofInt 64 1).toNat = (n % ((2 ^ 64 : Nat) : Int)).toNat % 2 ^ 1 := by
    rw [BitVec.toNat_and, BitVec.toNat_ofInt, h1, Nat.and_two_pow_sub_one_eq_mod]
  refine ⟨(n % 2).toNat, ?_, by omega⟩
  show IntKind.i64.wrap ((BitVec.ofInt 64 n &&& BitVec.ofInt 64 1).toNat : Nat) = _
  rw [key, IntKind.wrap_i64]
  omega
/-- The limits as the law takes them. -/
def LimI (w0 w : World) (pl pv : Nat) (mn mx : Int) (o : Obj) : Prop :=
  w.heap[pl]? = some (.cells #[.int .i64 mn, .int .i64 mx, .bool true] 23 (0, 0)) ∧ w.heap[pv]? = some o ∧ mx ≤ 4 ∧ -9223372036854775808 ≤ mx ∧ Below w0.heap.size w0 w
structure GrI (w0 w : World) (pl : Nat) (mn mx : Int) (o : Obj) (gm : Nat) (vm vb : Value) (xs : List Int) : Prop where mk ::
  lim : LimI w0 w pl (pl + 1) mn mx o
  mem : MemI w (pl + 2) gm mn mx true vm xs
  own : w.ownsRow (pl + 2) 5 1 vb xs.length (nums .u8 xs)
  ne1 : vb.ownBlock ≠ some gm
  ne2 : vb.ownBlock = none ∨ vb.ownBlock ≠ vm.ownBlock
  ge : pl + 2 ≤ w.heap.size
  le : w0.heap.size ≤ pl
theorem LimI.below {w0 w w' : World} {pl : Nat} {mn mx : Int} {o : Obj} (H : LimI w0 w pl (pl + 1) mn mx o) (hb : Below (pl + 2) w w') (hl : w0.heap.size ≤ pl + 2) : LimI w0 w' pl (pl + 1) mn mx o :=
  ⟨(hb.block pl (by omega)).trans H.1, (hb.block (pl + 1) (by omega)).trans H.2.1, H.2.2.1, H.2.2.2.1, H.2.2.2.2.trans (hb.mono hl)⟩
theorem GrI.below {w0 w w' : World} {pl gm : Nat} {mn mx : Int} {o : Obj} {vm vb : Value} {xs : List Int} (H : GrI w0 w pl mn mx o gm vm vb xs) (hb : Below w.heap.size w w') : GrI w0 w' pl mn mx o gm vm vb xs :=
  ⟨H.lim.below (hb.mono H.ge) (by have := H.le; omega), H.mem.below hb, pw_own_below H.own hb, H.ne1, H.ne2, Nat.le_trans H.ge hb.size, H.le⟩
theorem GrI.set {w0 w : World} {pl gm g2 g3 c2 c3 : Nat} {mn mx : Int} {o : Obj} {xs : List Int} (H : GrI w0 w pl mn mx o gm (.slice (some ⟨g2, 0, none⟩) xs.length c2) (.slice (some ⟨g3, 0, none⟩) xs.length c3) xs) (i : Nat) (x : Int) :
    GrI w0 ((w.setCell ⟨g3, i, none⟩ (.int .u8 x)).setCell ⟨g2, i, none⟩ (.int .u8 x)) pl mn mx o gm (.slice (some ⟨g2, 0, none⟩) xs.length c2) (.slice (some ⟨g3, 0, none⟩) xs.length c3) (xs.set i x) := by
  have h1 := own_store H.own (i : Int) x
  rw [Int.toNat_natCast] at h1
  have n1 : g3 ≠ gm := fun e => H.ne1 (by rw [e]; rfl)
  have n2 : g3 ≠ g2 := fun e => by rcases H.ne2 with q | q; cases q; exact q (by rw [e]; rfl)
  have hg3 : pl + 2 ≤ g3 := own_base H.own g3 rfl
  have hg2 : pl + 2 ≤ g2 := own_base H.mem.own g2 rfl
  have b1 : Below (pl + 2) w (w.setCell ⟨g3, i, none⟩ (.int .u8 x)) := (Below.refl _ _).setCell (p := ⟨g3, i, none⟩) hg3 _
  have M1 : MemI (w.setCell ⟨g3, i, none⟩ (.int .u8 x)) (pl + 2) gm mn mx true (.slice (some ⟨g2, 0, none⟩) xs.length c2) xs :=
    H.mem.keep (gt := g3) (vt := .slice (some ⟨g3, 0, none⟩) xs.length c3) (by simp [World.setCell]) (fun j _ h _ => Below.heap_setCell _ ⟨g3, i, none⟩ _ _ h) (Ne.symm n1) (fun e => n1 (by injection e with e; exact e.symm)) (fun e => by injection e with e; exact n2 e.symm) (.inr (fun e => by injection e with e; exact n2 e.symm))
  have M2 := M1.set i x
  have b2 : Below (pl + 2) w ((w.setCell ⟨g3, i, none⟩ (.int .u8 x)).setCell ⟨g2, i, none⟩ (.int .u8 x)) := b1.setCell (p := ⟨g2, i, none⟩) hg2 _
  refine ⟨H.lim.below b2 (by have := H.le; omega), M2.1, ?_, H.ne1, .inr (fun e => by injection e with e; exact n2 e), by simpa [World.setCell] using H.ge, H.le⟩
  have := own_setCell h1.1 (p := ⟨g2, i, none⟩) (fun e => by injection e with e; exact n2 e.symm) (.int .u8 x)
  rw [List.length_set]
  exact this
theorem GrI.mid {w0 w : World} {pl gm g2 g3 c2 c3 : Nat} {mn mx : Int} {o : Obj} {xs : List Int} (H : GrI w0 w pl mn mx o gm (.slice (some ⟨g2, 0, none⟩) xs.length c2) (.slice (some ⟨g3, 0, none⟩) xs.length c3) xs) (i : Nat) (hi : i < xs.length) (x : Int) :
    (w.setCell ⟨g3, i, none⟩ (.int .u8 x)).cell? ⟨gm, 3, none⟩ = some (.slice (some ⟨g2, 0, none⟩) xs.length c2) ∧ (∃ y, (w.setCell ⟨g3, i, none⟩ (.int .u8 x)).cell? ⟨g2, i, none⟩ = some y) ∧ (w.setCell ⟨g3, i, none⟩ (.int .u8 x)).frozen? ⟨g2, i, none⟩ = false := by
  have n1 : g3 ≠ gm := fun e => H.ne1 (by rw [e]; rfl)
  have n2 : g3 ≠ g2 := fun e => by rcases H.ne2 with q | q; cases q; exact q (by rw [e]; rfl)
  have M1 : MemI (w.setCell ⟨g3, i, none⟩ (.int .u8 x)) (pl + 2) gm mn mx true (.slice (some ⟨g2, 0, none⟩) xs.length c2) xs :=
    H.mem.keep (gt := g3) (vt := .slice (some ⟨g3, 0, none⟩) xs.length c3) (by simp [World.setCell]) (fun j _ h _ => Below.heap_setCell _ ⟨g3, i, none⟩ _ _ h) (Ne.symm n1) (fun e => n1 (by injection e with e; exact e.symm)) (fun e => by injection e with e; exact n2 e.symm) (.inr (fun e => by injection e with e; exact n2 e.symm))
  obtain ⟨h1, h2⟩ := own_at M1.own (i : Int) (by omega) (by omega)
  rw [Int.toNat_natCast] at h1 h2
  exact ⟨M1.cellB, ⟨_, h1⟩, h2⟩
/-- What both Grows leave: as many bytes, as many pages before. -/
def gz (n : Nat) (mst : Int) (xs : List Int) : List Int := if growOk xs.length n mst then xs ++ List.replicate (n * 65536) 0 else xs
def gr (n : Nat) (mst : Int) (xs : List Int) : Int := if growOk xs.length n mst then ((xs.length / 65536 : Nat) : Int) else -1
structure Gr9 (w0 w : World) (pl : Nat) (mn mx : Int) (o : Obj) (gm : Nat) (vm : Value) (xs zs : List Int) (r : Int) (e : Ending) (w' : World) : Prop where mk ::
  (out : ∃ v, e = .returned (.tuple #[v, .int .i64 r]) ∧ Below w.heap.size w w' ∧ LimI w0 w' pl (pl + 1) mn mx o ∧ MemI w' (pl + 2) gm mn mx true vm xs ∧ w'.ownsRow (pl + 2) 5 1 v zs.length (nums .u8 zs) ∧ v.ownBlock ≠ some gm ∧ (v.ownBlock = none ∨ v.ownBlock ≠ vm.ownBlock))
theorem gr9 {w0 w : World} {pl gm : Nat} {mn mx : Int} {o : Obj} {vm vb : Value} {xs : List Int} (H : GrI w0 w pl mn mx o gm vm vb xs) (n : Nat) (most : Int) (hn : n < 18446744073709551616) (hm : -9223372036854775808 ≤ most) (A : Option Addr) (c : Nat) (hv : vb = .slice A xs.length c) :
    Calls Try.prog 9 #[vb, .agg #[.int .i64 mn, .int .i64 mx, .bool true], .int .u64 (n : Int), .int .i64 most] w (Gr9 w0 w pl mn mx o gm vm xs (gz n (mostM mx true most) xs) (gr n (mostM mx true most) xs)) := by
  subst hv
  have hbp := blk_lt H.mem.blk
  unfold gz gr
  by_cases h : growOk xs.length n (mostM mx true most)
  · rw [if_pos h, if_pos h]
    refine (growR_yes w mn mx true A c xs H.mem.len n most hn (own_reads' H.own) h hm H.lim.2.2.2.1).mono fun e w' hq => ?_
    obtain ⟨v, he, ho, hb⟩ := hq.out
    have hK := H.below hb
    refine ⟨v, he, hb, hK.lim, hK.mem, own_less ho H.ge, fun e => ?_, ?_⟩
    · have := own_base ho gm e; omega
    · rcases h1 : v.ownBlock with _ | q
      · exact .inl rfl
      · refine .inr fun e => ?_
        have h2 := own_base ho q h1
        have h3 := own_lt H.mem.own q e.symm
        omega
  · rw [if_neg h, if_neg h]
    refine (growR_no w mn mx true A c xs H.mem.len n most hn h hm H.lim.2.2.2.1).mono fun e w' hq => ?_
    obtain ⟨he, hb⟩ := hq.out
    have hK := H.below hb
    exact ⟨_, he, hb, hK.lim, hK.mem, hK.own, H.ne1, H.ne2⟩
structure Gr10 (w0 w : World) (pl : Nat) (mn mx : Int) (o : Obj) (gm : Nat) (v16 : Value) (zs : List Int) (r : Int) (e : Ending) (w' : World) : Prop where mk ::
  (out : ∃ vm, e = .returned (.int .i64 r) ∧ Below (pl + 2) w w' ∧ LimI w0 w' pl (pl + 1) mn mx o ∧ MemI w' (pl + 2) gm mn mx true vm zs ∧ w'.ownsRow (pl + 2) 5 1 v16 zs.length (nums .u8 zs))
theorem gr10 {w0 w : World} {pl gm : Nat} {mn mx : Int} {o : Obj} {vm v16 : Value} {xs zs : List Int} (hL : LimI w0 w pl (pl + 1) mn mx o) (hM : MemI w (pl + 2) gm mn mx true vm xs) (hO : w.ownsRow (pl + 2) 5 1 v16 zs.length (nums .u8 zs)) (h1 : v16.ownBlock ≠ some gm) (h2 : v16.ownBlock = none ∨ v16.ownBlock ≠ vm.ownBlock) (n : Nat) (most : Int) (hn : n < 18446744073709551616) (hm : -9223372036854775808 ≤ most) (hz : zs = gz n (mostM mx true most) xs) (hge : pl + 2 ≤ w.heap.size) (hle : w0.heap.size ≤ pl) :
    Calls Try.prog 10 #[.pointer (some ⟨gm, 0, none⟩), .int .u64 (n : Int), .int .i64 most] w (Gr10 w0 w pl mn mx o gm v16 zs (gr n (mostM mx true most) xs)) := by
  refine (growM_c w (pl + 2) gm mn mx true vm xs hM n most hn hge hm hL.2.2.2.1).mono fun e w' hq => ?_
  obtain ⟨v, he, hm', hfar, hb, hat, hsz⟩ := hq.out
  refine ⟨v, he, hb, hL.below hb (by omega), by rw [hz]; exact hm', KeepBut.own ⟨hsz, hfar⟩ hO h1 h2⟩
theorem four {w : World} {g : Nat} {a b c d : Value} (h : w.heap[g]? = some (.cells #[a, b, c, d] 26 (0, 0))) : w.cell? ⟨g, 0, none⟩ = some a ∧ w.cell? ⟨g, 1, none⟩ = some b ∧ w.cell? ⟨g, 2, none⟩ = some c ∧ w.cell? ⟨g, 3, none⟩ = some d :=
  ⟨(blk_cell h 0).trans rfl, (blk_cell h 1).trans rfl, (blk_cell h 2).trans rfl, (blk_cell h 3).trans rfl⟩
def GrRel (w0 : World) (pl : Nat) (mn mx : Int) (o : Obj) (gm g2 g3 n : Nat) (v : Value) (wr : World) : Prop :=
  ∃ (i : Nat) (xs : List Int), v = .int .i64 i ∧ i ≤ n + 999 ∧ xs.length = n ∧ GrI w0 wr pl mn mx o gm (.slice (some ⟨g2, 0, none⟩) n n) (.slice (some ⟨g3, 0, none⟩) n n) xs
set_option maxHeartbeats 2000000 in
set_option maxRecDepth 100000 in
theorem grows_law (mn mx : Int) (hs : Bool) (n : Nat) (most : Int) (t lo hi : Int) (nu : Bool) (before : Int) (w : World) (hx : -9223372036854775808 ≤ mx) (hn : n < 18446744073709551616) (hm : -9223372036854775808 ≤ most) :
    Calls Try.prog 3 #[.agg #[.int .i64 mn, .int .i64 mx, .bool hs], .int .u64 (n : Int), .int .i64 most, .agg #[.int .i64 t, .int .u64 lo, .int .u64 hi, .bool nu], .int .i64 before] w fun e w' => e = .returned (.bool true) ∧ Below w.heap.size w w' := by
  obtain ⟨k, hk, hk1⟩ := and1 before
  obtain ⟨ov, hov⟩ : ∃ ov, ov = Obj.cells #[.int .i64 t, .int .u64 lo, .int .u64 hi, .bool nu] 26 := ⟨_, rfl⟩
  obtain ⟨wa, hwa⟩ : ∃ wa, wa = (w.alloc (Obj.cells #[.int .i64 mn, .int .i64 mx, .bool hs] 23)).alloc ov := ⟨_, rfl⟩
  have hs1 : (w.alloc (Obj.cells #[.int .i64 mn, .int .i64 mx, .bool hs] 23)).heap.size = w.heap.size + 1 := by show (Array.push _ _).size = _; exact Array.size_push _
  have hb1 : Below w.heap.size w (w.alloc (Obj.cells #[.int .i64 mn, .int .i64 mx, .bool hs] 23)) := (Below.refl _ _).alloc (Nat.le_refl _) _
  have hb2 : Below (w.heap.size + 1) (w.alloc (Obj.cells #[.int .i64 mn, .int .i64 mx, .bool hs] 23)) wa := by rw [hwa, ← hs1]; exact (Below.refl _ _).alloc (Nat.le_refl _) _
  have hba : Below w.heap.size w wa := hb1.trans (hb2.mono (by omega))
  obtain ⟨pl, hpl⟩ : ∃ pl, pl = w.heap.size := ⟨_, rfl⟩
  have hv0 : wa.heap[pl]? = some (.cells #[.int .i64 mn, .int .i64 mx, .bool hs] 23 (0, 0)) := by rw [hpl]; exact (hb2.block _ (by omega)).trans (heap_alloc_new w _)
  have hv1 : wa.heap[pl + 1]? = some ov := by rw [hpl, hwa, ← hs1]; exact heap_alloc_new _ _
  rw [hov] at hwa
  have HBA := Lib.hid hba
  have HV0 := Lib.hid hv0
  have HV1 := Lib.hid hv1
  have HPL := Lib.hid hpl
  have HOV := Lib.hid hov
  have HX := Lib.hid hx
  have HNN := Lib.hid hn
  have HM := Lib.hid hm
  clear hb1 hb2 hs1 hba hv0 hv1 hov hx hn hm
  go_enter Try.func3, Try.ntmps3
  go_upto_region 1 with fail
  rw [← hwa, ← hpl]
  clear hwa hpl
  go_upto_region 5 with (go_at_call 8; refine (awake_c _).mono ?_; rintro e w1 ⟨rfl, hb⟩; have HB1 := Lib.hid (HBA.out.trans (hb.mono HBA.out.size)); have HL1 := Lib.hid ((hb.block pl (blk_lt HV0.out)).trans HV0.out); have HV1b := Lib.hid ((hb.block (pl + 1) (blk_lt HV1.out)).trans HV1.out); clear hb)
  obtain ⟨c0, c1, c2⟩ := blk3 HL1.out
  obtain ⟨b, hbb⟩ : ∃ b, b = (!hs || decide (mx > 4)) := ⟨_, rfl⟩
  have HBB := Lib.hid hbb
  clear hbb
  go_cut [35] (fun v wx => v = .bool b ∧ w1 = wx)
  case first =>
    cases hs
    · go_wp2
      all_goals
        go_meet
        exact ⟨by rw [HBB.out]; rfl, rfl⟩
    · by_cases h4 : mx > 4
      · go_wp2
        go_meet
        exact ⟨by rw [HBB.out]; simp [h4], rfl⟩
      · go_wp2
        go_meet
        exact ⟨by rw [HBB.out]; simp [h4], rfl⟩
  case rest =>
    obtain ⟨rfl, rfl⟩ := hcut
    go_upto_if 35 with fail
    go_cut [38] (fun _ wx => ∃ mx', LimI w wx pl (pl + 1) mn mx' ov)
    case first =>
      cases b
      · go_wp2
        go_meet
        refine ⟨mx, ?_, HV1b.out, ?_, HX.out, HB1.out⟩
        · have := HBB.out
          cases hs
          · cases this
          · exact HL1.out
        · have := HBB.out
          cases hs
          · cases this
          · simpa using this
      · have f0 := blk_frozen HL1.out 0
        have f1 := blk_frozen HL1.out 1
        have f2 := blk_frozen HL1.out 2
        go_wp2
        go_meet
        refine ⟨4, ?_, ?_, by decide, by decide, ?_⟩
        · have h4 := blk_set (blk_set (blk_set HL1.out 0 (.int .i64 mn)) 1 (.int .i64 4)) 2 (.bool true)
          simpa using h4
        · exact (((Below.heap_setCell _ ⟨pl, 2, none⟩ _ _ (by show pl + 1 ≠ pl; omega)).trans (Below.heap_setCell _ ⟨pl, 1, none⟩ _ _ (by show pl + 1 ≠ pl; omega))).trans (Below.heap_setCell _ ⟨pl, 0, none⟩ _ _ (by show pl + 1 ≠ pl; omega))).trans HV1b.out
        · have hp : w.heap.size ≤ pl := by rw [HPL.out]; exact Nat.le_refl _
          exact ((HB1.out.setCell (p := ⟨pl, 0, none⟩) hp _).setCell (p := ⟨pl, 1, none⟩) hp _).setCell (p := ⟨pl, 2, none⟩) hp _
    case rest =>
      obtain ⟨mx', hL⟩ := hcut

      have HL := Lib.hid hL
      obtain ⟨d0, d1, d2⟩ := blk3 hL.1
      have hmk := fun W => print_make (P := Try.prog) 29 5 .u8 1 Try.underlying29 info5 (by decide) (k * 65536) (by omega) W
      have hkn : ((k * 65536 : Nat) : Int) = (k : Int) * 65536 := by omega
      rw [hkn] at hmk
      obtain ⟨Mc, hMc⟩ : ∃ Mc, Mc = madeCells #[.int .u8 0] (k * 65536) := ⟨_, rfl⟩
      rw [← hMc] at hmk
      have HMC := Lib.hid hMc
      obtain ⟨e0, e1, e2⟩ := blk3 (blk_at (w := wc.alloc (Obj.cells Mc 5)) hL.1 ((Below.refl _ _).alloc (Nat.le_refl _) _))
      clear hL c0 c1 c2 hkn hMc
      go_upto_region 7 with fail
      go_region
      go_upto_region 9 with fail
      have hlim := HL.out
      have hwl : pl + 1 < wc.heap.size := blk_lt hlim.2.1
      have hG : GrI w (((wc.alloc (Obj.cells Mc 5)).alloc (Obj.cells #[.int .i64 mn, .int .i64 mx', .bool true, .slice (some ⟨wc.heap.size, 0, none⟩) (k * 65536) (k * 65536)] 31)).alloc (Obj.cells Mc 5)).drew pl mn mx' ov (wc.heap.size + 1) (.slice (some ⟨wc.heap.size, 0, none⟩) (k * 65536) (k * 65536)) (.slice (some ⟨wc.heap.size + 1 + 1, 0, none⟩) (k * 65536) (k * 65536)) (List.replicate (k * 65536) 0) := by
        have z1 : (wc.alloc (Obj.cells Mc 5)).heap.size = wc.heap.size + 1 := by show (Array.push _ _).size = _; exact Array.size_push _
        have z2 : ((wc.alloc (Obj.cells Mc 5)).alloc (Obj.cells #[.int .i64 mn, .int .i64 mx', .bool true, .slice (some ⟨wc.heap.size, 0, none⟩) (k * 65536) (k * 65536)] 31)).heap.size = wc.heap.size + 1 + 1 := by show (Array.push _ _).size = _; rw [Array.size_push, z1]
        have q1 : Below (pl + 2) wc (wc.alloc (Obj.cells Mc 5)) := (Below.refl _ _).alloc (by omega) _
        have q2 := q1.alloc (by rw [z1]; omega) (Obj.cells #[.int .i64 mn, .int .i64 mx', .bool true, .slice (some ⟨wc.heap.size, 0, none⟩) (k * 65536) (k * 65536)] 31)
        have q3 := (q2.alloc (by rw [z2]; omega) (Obj.cells Mc 5)).drew
        have hom : ∀ W : World, pl + 2 ≤ W.heap.size → (W.alloc (Obj.cells Mc 5)).ownsRow (pl + 2) 5 1 (.slice (some ⟨W.heap.size, 0, none⟩) (k * 65536) (k * 65536)) (k * 65536) (nums .u8 (List.replicate (k * 65536) 0)) := fun W h => by
          rw [HMC.out]; exact own_made W (pl + 2) 5 .u8 (k * 65536) h (by omega)
        have o1 : (wc.alloc (Obj.cells Mc 5)).ownsRow (pl + 2) 5 1 (.slice (some ⟨wc.heap.size, 0, none⟩) (k * 65536) (k * 65536)) (k * 65536) (nums .u8 (List.replicate (k * 65536) 0)) := by
          exact hom wc (by omega)
        have o2 : (((wc.alloc (Obj.cells Mc 5)).alloc (Obj.cells #[.int .i64 mn, .int .i64 mx', .bool true, .slice (some ⟨wc.heap.size, 0, none⟩) (k * 65536) (k * 65536)] 31)).alloc (Obj.cells Mc 5)).ownsRow (pl + 2) 5 1 (.slice (some ⟨wc.heap.size + 1 + 1, 0, none⟩) (k * 65536) (k * 65536)) (k * 65536) (nums .u8 (List.replicate (k * 65536) 0)) := by
          rw [← z2]; exact hom _ (by rw [z2]; omega)
        refine ⟨hlim.below q3 (by have := HPL.out; omega), ⟨?_, ?_, by omega, by rw [List.length_replicate]; omega⟩, ?_, by simp [Value.ownBlock], .inr (by simp [Value.ownBlock]; omega), ?_, by have := HPL.out; omega⟩
        · show (((wc.alloc (Obj.cells Mc 5)).alloc _).alloc (Obj.cells Mc 5)).heap[wc.heap.size + 1]? = _
          rw [← z1]
          exact (((Below.refl _ _).alloc (Nat.le_refl _) _).block _ (by rw [z1, z2]; omega)).trans (heap_alloc_new _ _)
        · rw [List.length_replicate]
          exact pw_own_below (own_alloc (own_alloc o1 _) _) (Below.refl _ _).drew
        · rw [List.length_replicate]
          exact pw_own_below o2 (Below.refl _ _).drew
        · show pl + 2 ≤ (Array.push _ _).size
          rw [Array.size_push]
          have := z2
          omega
      obtain ⟨gm, hgm⟩ : ∃ gm, gm = wc.heap.size + 1 := ⟨_, rfl⟩
      obtain ⟨g2, hg2⟩ : ∃ g2, g2 = wc.heap.size := ⟨_, rfl⟩
      rw [← hgm, ← hg2] at hG ⊢
      obtain ⟨g3, hg3⟩ : ∃ g3, g3 = gm + 1 := ⟨_, rfl⟩
      rw [← hg3] at hG ⊢
      generalize (((wc.alloc (Obj.cells Mc 5)).alloc (Obj.cells #[.int .i64 mn, .int .i64 mx', .bool true, .slice (some ⟨g2, 0, none⟩) (k * 65536) (k * 65536)] 31)).alloc (Obj.cells Mc 5)).drew = w3 at hG ⊢
      have HG3 := Lib.hid hG
      clear hG hgm hg2 hg3 hlim hwl d0 d1 d2 e0 e1 e2 hmk
      go_wp2
      obtain ⟨N, hN⟩ : ∃ N, N = k * 65536 := ⟨_, rfl⟩
      have HN := Lib.hid hN
      have hN2 : N ≤ 100000 := by omega
      obtain ⟨M, hM⟩ : ∃ M, M = N + 1000 := ⟨_, rfl⟩
      have HMM := Lib.hid hM
      clear hM
      rw [← hN] at HG3 ⊢
      clear hN
      go_loopw [15] (GrRel w pl mn mx' ov gm g2 g3 N) (fun i _ => M - (intOf i).toNat)
      case atStart => exact ⟨0, _, rfl, Nat.zero_le _, List.length_replicate, HG3.out⟩
      case round =>
        obtain ⟨i, xs, rfl, hi, hlx, hG⟩ := hrel
        have HG := Lib.hid hG
        have HLX := Lib.hid hlx
        by_cases hlt : i < N
        · obtain ⟨hc1, hf1⟩ := own_at (by have := hG.own; rw [hlx] at this; exact this) (i : Int) (by omega) (by omega)
          rw [Int.toNat_natCast] at hc1 hf1
          have hcB := hG.mem.cellB
          rw [← hlx] at hG
          obtain ⟨m1, ⟨y, m2⟩, m3⟩ := hG.mid i (by omega) ((i : Int) % 256)
          have hset := Lib.hid (hG.set i ((i : Int) % 256))
          rw [hlx] at m1 hset
          have hi2 : (i : Int) < 200000 := by omega
          clear hG hlx
          have HI := Lib.hid hi
          clear hi hN2
          go_upto_region 13 with fail
          generalize wr.setCell ⟨g3, i, none⟩ (.int .u8 ((i : Int) % 256)) = wy at m1 m2 m3 hset ⊢
          clear hcB hc1 hf1

          go_wp2
          go_roundw
          case rel => exact ⟨i + 1000, _, by go_num, by omega, (List.length_set).trans HLX.out, hset.out⟩
          case measure => simp [intOf]; have := HMM.out; omega
        · have hge : (N : Int) ≤ i := by omega
          have hex : ∃ A c, (Value.slice (some ⟨g3, 0, none⟩) N N) = .slice A xs.length c := ⟨_, _, by rw [hlx]⟩
          obtain ⟨vb, hvb⟩ : ∃ vb, vb = (Value.slice (some ⟨g3, 0, none⟩) N N) := ⟨_, rfl⟩
          obtain ⟨vm, hvm⟩ : ∃ vm, vm = (Value.slice (some ⟨g2, 0, none⟩) N N) := ⟨_, rfl⟩
          rw [← hvb, ← hvm] at hG HG
          rw [← hvb] at hex
          obtain ⟨A3, c3, hA3⟩ := hex
          have HA3 := Lib.hid hA3
          obtain ⟨d0, d1, d2⟩ := blk3 hG.lim.1
          have HNL : Hid (pl + 2 ≤ wr.heap.size) := Lib.hid hG.ge
          have HI := Lib.hid hi
          clear hG hA3 hlx hi hN2
          go_upto_region 14 with fail
          rw [← hvb]
          have HVB := Lib.hid hvb
          have HVM := Lib.hid hvm
          clear hvb hvm hge hlt
          go_upto_region 15 with (go_at_call 9; refine (gr9 HG.out n most HNN.out HM.out A3 c3 HA3.out).mono ?_; intro e w5 hq; obtain ⟨v16, he, hb, hl5, hm5, ho5, h51, h52⟩ := hq.out; subst he; have HB5 := Lib.hid hb; have HL5 := Lib.hid hl5; have HM5 := Lib.hid hm5; have HO5 := Lib.hid ho5; have H51 := Lib.hid h51; have H52 := Lib.hid h52; clear hq hb hl5 hm5 ho5 h51 h52 d0 d1 d2)
          obtain ⟨zs, hzs⟩ : ∃ zs, zs = gz n (mostM mx' true most) xs := ⟨_, rfl⟩
          obtain ⟨r, hr⟩ : ∃ r, r = gr n (mostM mx' true most) xs := ⟨_, rfl⟩
          rw [← hzs] at HO5
          rw [← hr]
          have HZ := Lib.hid hzs
          have HRR := Lib.hid hr
          have HLE : Hid (w.heap.size ≤ pl) := Lib.hid HG.out.le
          clear hzs hr
          go_upto_region 16 with (go_at_call 10; refine (gr10 HL5.out HM5.out HO5.out H51.out H52.out n most HNN.out HM.out HZ.out (Nat.le_trans HNL.out HB5.out.size) HLE.out).mono ?_; intro e w6 hq; obtain ⟨vm6, he, hb, hl6, hm6, ho6⟩ := hq.out; rw [← HRR.out] at he; subst he; have HB6 := Lib.hid hb; have HL6 := Lib.hid hl6; have HM6 := Lib.hid hm6; have HO6 := Lib.hid ho6; have HS6 : Hid (pl + 2 ≤ w6.heap.size) := Lib.hid (Nat.le_trans (Nat.le_trans HNL.out HB5.out.size) hb.size); obtain ⟨d0, d1, d2⟩ := blk3 hl6.1; clear hq hb hl6 hm6 ho6)
          have hwu : IntKind.u64.wrap (k : Int) = (k : Int) := by rw [IntKind.wrap_u64]; omega
          obtain ⟨q, hq⟩ : ∃ q, q = w6.heap.size := ⟨_, rfl⟩
          have HQ := Lib.hid hq
          clear hq
          go_cut [19] (fun v wx => ∃ gt vt, v = .pointer (some ⟨gt, 0, none⟩) ∧ Below q w6 wx ∧ TblI wx q gt 0 mn mx' true vt k (cl (List.replicate k (5, 0, 0, false))) ∧ q ≤ wx.heap.size)
          case first =>
            go_region_with (go_at_call 11; refine (repR_c k 5 0 0 false _ (by omega)).mono ?_; intro e w7 hq; obtain ⟨vt, he, ho, hb⟩ := hq.out; subst he; rw [List.length_replicate] at ho; obtain ⟨At, ct, rfl⟩ := own_slice ho; have HO7 := Lib.hid ho; have HB7 := Lib.hid hb; obtain ⟨d0, d1, d2⟩ := blk3 (blk_at (w0 := w6.drew) HL6.out.1 hb); clear hq ho hb)
            all_goals
              go_simp
              go_wp2_with fail
              go_meet
              have b7 := HB7.out
              have s7 : w6.heap.size ≤ w7.heap.size := b7.size
              have hb : Below w6.heap.size w6 w7 := ((Below.refl w6.heap.size w6).drew).trans b7
              rw [HQ.out]
              refine ⟨_, _, rfl, hb.alloc s7 _, ⟨heap_alloc_new _ _, own_alloc HO7.out _, cl_one _, s7, by omega⟩, ?_⟩
              show _ ≤ (Array.push _ _).size
              rw [Array.size_push]; omega
          case rest =>
            obtain ⟨gt, vt, rfl, hb7, ht7, hs7⟩ := hcut
            obtain ⟨wt, rfl⟩ : ∃ wt, wt = wc := ⟨_, rfl⟩
            have hbb : Below w6.heap.size w6 wt := by rw [← HQ.out]; exact hb7
            have HBB7 := Lib.hid hbb
            have hl7 := HL6.out.below (hb7.mono (by have := HS6.out; have := HQ.out; omega)) (by have := HLE.out; omega)
            have HL7 := Lib.hid hl7
            have HT7 := Lib.hid ht7
            have HS7 := Lib.hid hs7
            obtain ⟨d0, d1, d2⟩ := blk3 hl7.1
            have hv7 := hl7.2.1
            rw [HOV.out] at hv7
            have HV7 := Lib.hid hv7
            obtain ⟨e0, e1, e2, e3⟩ := four hv7
            obtain ⟨T, hT⟩ : ∃ T, T = tz n (mostT mx' true) (List.replicate k (5, 0, 0, false)) (t, lo, hi, nu) := ⟨_, rfl⟩
            obtain ⟨rt, hrt⟩ : ∃ rt, rt = tr n (mostT mx' true) (List.replicate k ((5, 0, 0, false) : V4)) := ⟨_, rfl⟩
            have HTT := Lib.hid hT
            have HRT := Lib.hid hrt
            clear hbb hb7 hl7 ht7 hs7 hv7 hT hrt
            go_upto_region 17 with fail
            go_cut [20, 21] (fun v u wx => u = .int .i64 rt ∧ Below wt.heap.size wt wx ∧ wx.ownsRow wt.heap.size 26 4 v T.length (cl T))
            case first =>
              have w1d : Below wt.heap.size wt wt.drew := (Below.refl _ _).drew
              go_region_with (first | (go_at_call 11; refine (repR_c k 5 0 0 false _ (by omega)).mono ?_; intro e w8 hq; obtain ⟨vu, he, ho, hb⟩ := hq.out; subst he; have HO8 := Lib.hid ho; have HB8 := Lib.hid hb; obtain ⟨d0, d1, d2⟩ := blk3 (blk_at (w0 := wt.drew) HL7.out.1 hb); obtain ⟨e0, e1, e2, e3⟩ := four (blk_at (w0 := wt.drew) HV7.out hb); clear hq ho hb) | (go_at_call 12; refine (tr12 w8 wt.heap.size mn mx' true vu (List.replicate k (5, 0, 0, false)) (by rw [List.length_replicate]; omega) n t lo hi nu HNN.out HL7.out.2.2.2.1 HO8.out HB8.out.size).mono ?_; intro e w9 hq; obtain ⟨v20, he, ho, hb, hat⟩ := hq.out; rw [← HRT.out] at he; subst he; rw [← HTT.out] at ho; have HO9 := Lib.hid ho; have HB9 := Lib.hid hb; clear hq ho hb hat))
              all_goals
                go_simp
                go_wp2_with fail
                go_meet
                exact ⟨rfl, (w1d.trans HB8.out).trans (HB9.out.mono HB8.out.size), HO9.out⟩
            case rest =>
              obtain ⟨rfl, hb9, ho9⟩ := hcut
              obtain ⟨wu, rfl⟩ : ∃ wu, wu = wc := ⟨_, rfl⟩
              have hb6u : Below w6.heap.size w6 wu := HBB7.out.trans (hb9.mono HBB7.out.size)
              have hvu := (hb9.block _ (blk_lt HV7.out)).trans HV7.out
              obtain ⟨e0, e1, e2, e3⟩ := four hvu
              have HB9 := Lib.hid hb9
              have HO9 := Lib.hid ho9
              have HB6U := Lib.hid hb6u
              have HTU := Lib.hid (HT7.out.below hb9)
              have HQU : Hid (q ≤ wu.heap.size) := Lib.hid (Nat.le_trans HS7.out hb9.size)
              clear hb9 ho9 hb6u hvu d0 d1 d2
              have hg := gt13 wu q gt 0 mn mx' true vt (List.replicate k (5, 0, 0, false)) k List.length_replicate.symm HTU.out n t lo hi nu HQU.out HL7.out.2.2.2.1
              rw [← HRT.out, ← HTT.out] at hg
              have HGT := Lib.hid hg
              clear hg
              go_upto_region 19 with (go_at_call 13; refine HGT.out.mono ?_; intro e wv hq; obtain ⟨vt2, he, ht, hfar, hb, hat, hsz⟩ := hq.out; subst he; have HTV := Lib.hid ht; have HFAR := Lib.hid hfar; have HBV := Lib.hid hb; have HSZ := Lib.hid hsz; clear hq ht hfar hb hat hsz e0 e1 e2 e3)
              have hb6v : Below w6.heap.size w6 wv := HB6U.out.trans (by have := HBV.out; rw [HQ.out] at this; exact this)
              have hgt : gt < wt.heap.size := blk_lt HT7.out.blk
              have hov : wv.ownsRow wt.heap.size 26 4 u20 T.length (cl T) := KeepBut.own (row := vt.ownBlock) ⟨HSZ.out, HFAR.out⟩ HO9.out (fun e => by have := own_base HO9.out gt e; omega) (by
                rcases h1 : u20.ownBlock with _ | p
                · exact .inl rfl
                · refine .inr fun e => ?_
                  have h2 := own_base HO9.out p h1
                  have h3 := own_lt HT7.out.own p e.symm
                  omega)
              have hmv := HM6.out.below hb6v
              have how := pw_own_below HO6.out hb6v
              have hl : Below w.heap.size w wv := HL6.out.2.2.2.2.trans (hb6v.mono (Nat.le_trans (Nat.le_trans HLE.out (by omega)) HS6.out))
              obtain ⟨Aa, ca, hva, hra⟩ := own_r4 HTV.out.own rfl
              obtain ⟨Ab, cb, hvb, hrb⟩ := own_r4 hov rfl
              subst hva hvb
              have hcB := hmv.cellB
              have htB := HTV.out.cellB
              have hc1 : ∀ q, (convert 29 9 vm6).run Try.prog (wv.drewN q) = .ok (.string (strOfNums zs)) (wv.drewN q) := fun q => own_string (P := Try.prog) (src := 29) (dst := 9) Try.underlying29 Try.underlying5 Try.underlying9 (pw_own_below hmv.own (pw_below_drewN (Below.refl _ _) q))
              have hc2 : ∀ q, (convert 29 9 v16).run Try.prog (wv.drewN q) = .ok (.string (strOfNums zs)) (wv.drewN q) := fun q => own_string (P := Try.prog) (src := 29) (dst := 9) Try.underlying29 Try.underlying5 Try.underlying9 (pw_own_below how (pw_below_drewN (Below.refl _ _) q))
              have hsame : ∀ q, Calls Try.prog 14 #[.slice Aa T.length ca, .slice Ab T.length cb] (wv.drewN q) fun e w' => e = .returned (.bool true) ∧ ∃ m, w' = (wv.drewN q).drewN m := fun q => same_c _ Aa Ab T.length ca cb T rfl (by have := HTV.out.len; omega) (reads4_below hra (pw_below_drewN (Below.refl _ _) q)) (reads4_below hrb (pw_below_drewN (Below.refl _ _) q))
              have HSAME := Lib.hid hsame
              have HL := Lib.hid hl
              have hTl : T.length ≤ 1000000 := HTV.out.len
              clear hb6v hgt hov hmv how hl hra hrb hsame
              go_quiet ((go_at_call 14; exact Calls.quiet_of (HSAME.out _)))
              go_wp2
              go_ret
              exact ⟨rfl, pw_below_drewN HL.out _⟩
theorem grows_walk (b00 b01 : Int) (b02 : Bool) (a1 a2 : Int) (b30 b31 b32 : Int) (b33 : Bool) (a4 : Int) (w : World) (w01 : (Lit.int .i64 b01).wf = true) (w1 : (Lit.int .u64 a1).wf = true) (w2 : (Lit.int .i64 a2).wf = true) (w4 : (Lit.int .i64 a4).wf = true) :
    Calls Try.prog 3 #[.agg #[.int .i64 b00, .int .i64 b01, .bool b02], .int .u64 a1, .int .i64 a2, .agg #[.int .i64 b30, .int .u64 b31, .int .u64 b32, .bool b33], .int .i64 a4] w fun e w' => e = .returned (.bool true) ∧ Below w.heap.size w w' := by
  have q0 := bounds_i64 w01
  have q1 := bounds_u64 w1
  have q2 := bounds_i64 w2
  obtain ⟨n, rfl⟩ := Int.eq_ofNat_of_zero_le q1.1
  exact grows_law b00 b01 b02 n a2 b30 b31 b32 b33 a4 w q0.1 (by omega) q2.1
end Go.Proofs.Ytlllbgmnheikgaa.St
