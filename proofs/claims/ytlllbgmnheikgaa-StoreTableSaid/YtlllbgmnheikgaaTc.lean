/-
  The walk of the law StoreTable. No condition but that what came in is read.
-/
import Derived.Test.YtlllbgmnheikgaaTb
namespace Go.Proofs.Ytlllbgmnheikgaa.St
set_option linter.unusedVariables false
set_option linter.unusedSimpArgs false
open Go.ChangeShapes Go.WideShapes Go.RowKit Go.Proofs.YtlllbgmnheikgaaW.PrintWords Go.Proofs.Ytlllbgmnheikgaa.PStoreNone

def TabR (w0 : World) (pl : Nat) (mn mx : Int) (hs : Bool) (gt gx : Nat) (vx : Value) (oth : List V4) (ns : Nat) (v i : Value) (wr : World) : Prop :=
  ∃ (k : Nat) (vt : Value) (ms : List V4), i = .int .i64 k ∧ k ≤ ns ∧ TbM w0 wr pl mn mx hs gt gx vt vx v oth ms ms
theorem below_go {w0 w w' : World} (h : Below w0.heap.size w0 w) (hb : Below w.heap.size w w') : Below w0.heap.size w0 w' := h.trans (hb.mono h.size)
theorem first_tb (w w4 : World) (pl : Nat) (mn mx : Int) (hs : Bool) (v1 v2 FAv : Value) (FA : Option Addr) (fc : Nat) (fst oth : List V4) (hpl : pl = w.heap.size) (hb : Below w.heap.size w w4) (hl : w4.heap[pl]? = some (.cells #[.int .i64 mn, .int .i64 mx, .bool hs] 23 (0, 0)))
    (o1 : w4.ownsRow (pl + 1) 26 4 v1 fst.length (cl fst)) (o2 : w4.ownsRow (pl + 1) 26 4 v2 oth.length (cl oth)) (hne : v2.ownBlock = none ∨ v2.ownBlock ≠ v1.ownBlock) (hr : Reads4 w FA fst.length (cl fst)) (hfc : fst.length ≤ fc) (hf : fst.length ≤ 100) (ho : oth.length ≤ 100) :
    TbM w ((w4.alloc (Obj.cells #[.int .i64 112, .int .i64 mn, .int .i64 mx, .bool hs, v1] 41)).alloc (Obj.cells #[.int .i64 0, .int .i64 0, .int .i64 0, .bool false, v2] 41)) pl mn mx hs w4.heap.size (w4.heap.size + 1) v1 v2 (.slice FA fst.length fc) oth fst fst := by
  have hwl : pl < w4.heap.size := blk_lt hl
  have z1 : (w4.alloc (Obj.cells #[.int .i64 112, .int .i64 mn, .int .i64 mx, .bool hs, v1] 41)).heap.size = w4.heap.size + 1 := by show (Array.push _ _).size = _; exact Array.size_push _
  have q1 : Below w4.heap.size w4 (w4.alloc (Obj.cells #[.int .i64 112, .int .i64 mn, .int .i64 mx, .bool hs, v1] 41)) := (Below.refl _ _).alloc (Nat.le_refl _) _
  have q2 : Below w4.heap.size w4 ((w4.alloc (Obj.cells #[.int .i64 112, .int .i64 mn, .int .i64 mx, .bool hs, v1] 41)).alloc (Obj.cells #[.int .i64 0, .int .i64 0, .int .i64 0, .bool false, v2] 41)) := q1.alloc (by rw [z1]; omega) _
  have l1 : ∀ k, v1.ownBlock = some k → k < w4.heap.size := own_lt o1
  have l2 : ∀ k, v2.ownBlock = some k → k < w4.heap.size := own_lt o2
  refine ⟨(q2.block pl hwl).trans hl, ⟨?_, pw_own_below o1 q2, cl_one _, by omega, by omega⟩, ⟨?_, pw_own_below o2 q2, cl_one _, by omega, by omega⟩, ⟨FA, fc, rfl, hfc, .inl hr⟩, by omega, by omega, fun e => ?_, fun e => ?_, hne, ?_, hpl, hb.trans (q2.mono (by omega))⟩
  · exact (((Below.refl _ _).alloc (Nat.le_refl _) _).block _ (by rw [z1]; omega)).trans (heap_alloc_new _ _)
  · rw [← z1]; exact heap_alloc_new _ _
  · have := l1 _ e.symm; omega
  · have := l2 _ e; omega
  · have := q2.size; omega
set_option maxHeartbeats 4000000 in
set_option maxRecDepth 1000000 in
theorem tab_big (mn mx : Int) (hs : Bool) (FA OA S : Option Addr) (fn fc on oc ns cs : Nat) (w : World) (h : 100 < (fn : Int) ∨ 100 < (on : Int)) :
    Calls Try.prog 6 #[.agg #[.int .i64 mn, .int .i64 mx, .bool hs], .slice FA fn fc, .slice OA on oc, .slice S ns cs] w fun e w' => e = .returned (.bool true) ∧ Below w.heap.size w w' := by
  have hba : Below w.heap.size w (w.alloc (Obj.cells #[.int .i64 mn, .int .i64 mx, .bool hs] 23)) := (Below.refl _ _).alloc (Nat.le_refl _) _
  have HBA := Lib.hid hba
  clear hba
  by_cases h1 : 100 < (fn : Int)
  · clear h
    go_enter Try.func6, Try.ntmps6
    go_wp2_with (go_at_call 8; refine (awake_c _).mono ?_; rintro e wc ⟨rfl, hb⟩; have HB1 := Lib.hid (HBA.out.trans (hb.mono HBA.out.size)); clear hb)
    go_ret
    exact ⟨rfl, HB1.out⟩
  · have h2 : 100 < (on : Int) := h.resolve_left h1
    have h1' : (fn : Int) ≤ 100 := by omega
    clear h h1
    go_enter Try.func6, Try.ntmps6
    go_wp2_with (go_at_call 8; refine (awake_c _).mono ?_; rintro e wc ⟨rfl, hb⟩; have HB1 := Lib.hid (HBA.out.trans (hb.mono HBA.out.size)); clear hb)
    go_ret
    exact ⟨rfl, HB1.out⟩
set_option maxHeartbeats 4000000 in
set_option maxRecDepth 1000000 in
theorem tab_law (mn mx : Int) (hs : Bool) (FA OA S : Option Addr) (fc oc ns cs : Nat) (fst oth : List V4) (w : World) (hx : -9223372036854775808 ≤ mx) (hfr : Reads4 w FA fst.length (cl fst)) (hfc : fst.length ≤ fc) (hfl : (fst.length : Int) ≤ 100) (hor : Reads4 w OA oth.length (cl oth)) (hoc : oth.length ≤ oc) (hol : (oth.length : Int) ≤ 100)
    (hscr : ∀ i, i < ns → ∃ ad x, S = some ad ∧ ActOk w (ad.add (i * 10)) x) :
    Calls Try.prog 6 #[.agg #[.int .i64 mn, .int .i64 mx, .bool hs], .slice FA fst.length fc, .slice OA oth.length oc, .slice S ns cs] w fun e w' => e = .returned (.bool true) ∧ Below w.heap.size w w' := by
  obtain ⟨wa, hwa⟩ : ∃ wa, wa = w.alloc (Obj.cells #[.int .i64 mn, .int .i64 mx, .bool hs] 23) := ⟨_, rfl⟩
  have hba : Below w.heap.size w wa := by rw [hwa]; exact (Below.refl _ _).alloc (Nat.le_refl _) _
  have hsa : wa.heap.size = w.heap.size + 1 := by rw [hwa]; show (Array.push _ _).size = _; exact Array.size_push _
  obtain ⟨pl, hpl⟩ : ∃ pl, pl = w.heap.size := ⟨_, rfl⟩
  have hv0 : wa.heap[pl]? = some (.cells #[.int .i64 mn, .int .i64 mx, .bool hs] 23 (0, 0)) := by rw [hpl, hwa]; exact heap_alloc_new w _
  have HBA := Lib.hid hba
  have HV0 := Lib.hid hv0
  have HPL := Lib.hid hpl
  have HSA := Lib.hid hsa
  have HX := Lib.hid hx
  have HSCR := Lib.hid hscr
  have HFR := Lib.hid hfr
  have HFC := Lib.hid hfc
  have HOR := Lib.hid hor
  have HOC := Lib.hid hoc
  have HOL : Hid (oth.length ≤ 1000000) := Lib.hid (by omega)
  clear hba hv0 hsa hx hscr hfr hfc hor hoc
  go_enter Try.func6, Try.ntmps6
  go_upto_region 1 with fail
  rw [← hwa, ← hpl]
  clear hwa hpl
  go_upto_region 6 with (go_at_call 8; refine (awake_c _).mono ?_; rintro e wc ⟨rfl, hb⟩; have HB1 := Lib.hid (HBA.out.trans (hb.mono HBA.out.size)); have HL1 := Lib.hid ((hb.block pl (blk_lt HV0.out)).trans HV0.out); have HS1 := Lib.hid (show pl + 1 ≤ wc.heap.size from by have := hb.size; have := HSA.out; have := HPL.out; omega); clear hb)
  obtain ⟨v1, w1, r1, o1, q1, at1⟩ := append_r4 wc (pl + 1) 0 fst.length fc FA (.slice none 0 0) [] (cl fst) (own_nil _ _ _ _) (reads4_below HFR.out HB1.out) (by omega) HS1.out
  rw [Nat.zero_add, List.nil_append] at o1
  have b1 : Below wc.heap.size wc w1 := (Below.refl _ _).grown q1 (Nat.le_refl _) (fun k hk => by cases hk)
  obtain ⟨v2, w2, r2, o2, q2, at2⟩ := append_r4 w1 w1.heap.size 0 oth.length oc OA (.slice none 0 0) [] (cl oth) (own_nil _ _ _ _) (reads4_below HOR.out (below_go HB1.out b1)) (by omega) (Nat.le_refl _)
  rw [Nat.zero_add, List.nil_append] at o2
  have b2 : Below w1.heap.size w1 w2 := (Below.refl _ _).grown q2 (Nat.le_refl _) (fun k hk => by cases hk)
  have b12 : Below w.heap.size w w2 := below_go (below_go HB1.out b1) b2
  have hl2 := (b2.block pl (by have := b1.size; have := HS1.out; omega)).trans ((b1.block pl (by have := HS1.out; omega)).trans HL1.out)
  have hne : v2.ownBlock = none ∨ v2.ownBlock ≠ v1.ownBlock := by
    rcases h : v2.ownBlock with _ | k
    · exact .inl rfl
    · refine .inr fun e => ?_
      have h2 := own_base o2 k h
      have h3 := own_lt o1 k e.symm
      omega
  have hG := first_tb w w2 pl mn mx hs v1 v2 (.slice FA fst.length fc) FA fc fst oth HPL.out b12 hl2 (pw_own_below o1 b2) (own_less o2 (Nat.le_trans HS1.out b1.size)) hne HFR.out HFC.out (by omega) (by omega)
  have HR1 := Lib.hid r1
  have HR2 := Lib.hid r2
  have HG := Lib.hid hG
  obtain ⟨d0, d1, d2⟩ := blk3 hl2
  obtain ⟨A1, c1, e1⟩ := own_slice o1
  obtain ⟨A2, c2, e2⟩ := own_slice o2
  have HE1 := Lib.hid e1
  have HE2 := Lib.hid e2
  subst e1 e2
  clear o1 o2 q1 q2 at1 at2 b1 b2 b12 hl2 hne hG r1 r2
  go_upto_region 12 with (at_builtin; go_loud (first | (refine step_append rfl (.tmp 38) (.tmp 39) 38 38 rfl (.slice none 0 0) (.slice FA fst.length fc) _ w1 (by first | (go_simp; done) | (go_simp; rfl) | rfl) (by first | (go_simp; done) | (go_simp; rfl) | rfl) HR1.out ?_) | (refine step_append rfl (.tmp 41) (.tmp 42) 38 38 rfl (.slice none 0 0) (.slice OA oth.length oc) _ w2 (by first | (go_simp; done) | (go_simp; rfl) | rfl) (by first | (go_simp; done) | (go_simp; rfl) | rfl) HR2.out ?_)))
  obtain ⟨gt, hgt⟩ : ∃ gt, gt = w2.heap.size := ⟨_, rfl⟩
  obtain ⟨gx, hgx⟩ : ∃ gx, gx = gt + 1 := ⟨_, rfl⟩
  obtain ⟨wt, hwt⟩ : ∃ wt, wt = ((w2.alloc (Obj.cells #[.int .i64 112, .int .i64 mn, .int .i64 mx, .bool hs, .slice A1 fst.length c1] 41)).alloc (Obj.cells #[.int .i64 0, .int .i64 0, .int .i64 0, .bool false, .slice A2 oth.length c2] 41)) := ⟨_, rfl⟩
  rw [← hgt, ← hgx, ← hwt] at HG
  rw [← hgt, ← hgx, ← hwt]
  clear hgt hgx hwt d0 d1 d2
  obtain ⟨v10, hv10⟩ : ∃ v, v = Value.slice A1 fst.length c1 := ⟨_, rfl⟩
  obtain ⟨v11, hv11⟩ : ∃ v, v = Value.slice A2 oth.length c2 := ⟨_, rfl⟩
  rw [← hv10, ← hv11] at HG ⊢
  obtain ⟨v1w, hv1w⟩ : ∃ v, v = Value.slice FA fst.length fc := ⟨_, rfl⟩
  rw [← hv1w] at HG ⊢
  clear hv10 hv11 hv1w
  go_wp2
  go_loopw [14, 15] (TabR w pl mn mx hs gt gx v11 oth ns) (fun _ i _ => ns - (intOf i).toNat)
  case atStart => exact ⟨0, _, _, rfl, Nat.zero_le _, HG.out⟩
  case round =>
    obtain ⟨i, vt, ms, rfl, hi, hG⟩ := hrel
    have HG := Lib.hid hG
    clear hG
    by_cases hlt : i < ns
    · by_cases h20 : (i : Int) < 20
      · obtain ⟨ad, x, rfl, hA⟩ := HSCR.out i hlt
        have hA2 := hA.below HG.out.bel
        have HNB : Hid (x.n < 18446744073709551616 ∧ x.a < 18446744073709551616) := Lib.hid ⟨hA.nb, hA.ab⟩
        obtain ⟨c0, c1, c2, c3, c4, c5, c6, c7, c8, c9, hrd, hle, hkb, hnb2, hab⟩ := hA2
        obtain ⟨pa, hpa⟩ : ∃ pa, pa = wr.heap.size := ⟨_, rfl⟩
        have HPA := Lib.hid hpa
        clear hrd hle hkb hnb2 hab hA hpa
        go_upto_region 17 with fail
        rw [← HPA.out]
        have hbl := blk_new wr (.cells x.cells 49)
        have hbb : Below wr.heap.size wr (wr.alloc (Obj.cells x.cells 49)) := (Below.refl _ _).alloc (Nat.le_refl _) _
        have hGb := HG.out.below hbb
        unfold ActV.cells at hbl hbb hGb
        rw [← HPA.out] at hbl
        generalize wr.alloc (Obj.cells #[.int .i64 x.k, .int .u64 x.a, .int .u64 x.b, .int .u64 x.n, .int .u8 x.c, .slice x.LA x.ys.length x.lc, .int .i64 x.t, .int .u64 x.lo, .int .u64 x.hi, .bool x.nu] 49) = wb at hbl hGb hbb ⊢
        have HBL := Lib.hid hbl
        have HGB := Lib.hid hGb
        have b0 := (blk_cell hbl 0).trans (show _ = some (Value.int .i64 x.k) from rfl)
        clear hbl hbb hGb c0 c1 c2 c3 c4 c5 c6 c7 c8 c9
        obtain ⟨j, hj⟩ : ∃ j, x.k.tmod 7 = j := ⟨_, rfl⟩
        go_upto_block 2 with fail
        have HJ := Lib.hid hj
        clear hj b0
        go_cut [14, 17, 18] (fun v e f wx => CutT w pl mn mx hs gt gx v11 oth v e f wx)
        case first =>
            rename_i J K' hJ hK'
            by_cases hk0 : j = 0
            · subst hk0
              refine caseT0 HGB HOR HOC HOL HNB HBL _ _ _ _ _ _ _ _ _ _ _ _ _ _ _ _ _ _ _ _ _ _ _ _ _ _ _ _ _ _ _ _ _ _ _ _ _ _ _ _ _ _ _ _ _ _ _ _ _ _ _ _ _ _ _ _ _ _ _ _ _ _ _ _ _ _ _ _ _ _ _ _ _ _ _ _ _ _ _ _ _ _ _ _ _ _ _ _ _ _ _ _ _ _ _ _ _ _ _ _ _ _ _ _ _ _ _ _ _ _ _ _ _ _ _ _ _ _ _ _ _ _ _ _ _ _ _ _ _ _ _ _ _ _ _ _ _ _ _ _ _ _ _ _ _ _ _ _ _ _ _ _ _ _ _ _ _ _ _ _ _ _ _ _ _ _ _ _ _ _ _ _ _ _ _ _ _ _ _ _ _ _ _ _ _ _ _ _ _ _ _ _ _ _ _ _ _ _ _ _ _ _ _ _ _ _ _ _ _ _ _ _ _ _ _ _ _ _ _ _ _ _ _ _ _ _ _ _ _ _ _ _ _ _ _ _ _ _ _ _ _ _ _ _ _ _ _ _ _ _ _ _ _ _ _ _ _ _ _ _ _ _ _ _ _ _ _ _ _ _ _ _ _ ?_
              intro _ _ _ _ _ _ _ _ _ _ _ _ _ _ _ _ _ _ _ _ _ _ _ _ _ _ _ _ _ _ _ _ _ _ _ _ _ _ _ _ _ _ _ _ _ _ _ _ _ _ _ _ _ _ _ _ _ _ _ _ _ _ _ _ _ _ _ _ _ _ _ _ _ _ _ _ _ _ _ _ _ _ _ _ _ _ _ _ _ _ _ _ _ _ _ _ _ _ _ _ _ _ _ _ _ _ _ _ _ _ _ _ _ _ _ _ _ _ _ _ _ _ _ _ _ _ _ _ _ _ _ _ _ _ _ _ _ _ _ _ _ _ _ _ _ _ _ _ _ _ _ _ _ _ _ _ _ _ _ _ _ _ _ _ _ _ _ _ _ _ _ _ _ _ _ _ _ _ _ _ _ _ _ _ _ _ _ _ _ _ _ _ _ _ _ _ _ _ _ _ _ _ _ wx hc
              dsimp only
              first | refine hJ _ _ ?_ | (refine hK' _ _ (Met.intro ?_); refine hJ _ _ ?_)
              (repeat apply Exists.intro)
              exact ⟨hc, rfl⟩
            by_cases hk1 : j = 1
            · subst hk1
              refine caseT1 HGB HOR HOC HOL HNB HBL _ _ _ _ _ _ _ _ _ _ _ _ _ _ _ _ _ _ _ _ _ _ _ _ _ _ _ _ _ _ _ _ _ _ _ _ _ _ _ _ _ _ _ _ _ _ _ _ _ _ _ _ _ _ _ _ _ _ _ _ _ _ _ _ _ _ _ _ _ _ _ _ _ _ _ _ _ _ _ _ _ _ _ _ _ _ _ _ _ _ _ _ _ _ _ _ _ _ _ _ _ _ _ _ _ _ _ _ _ _ _ _ _ _ _ _ _ _ _ _ _ _ _ _ _ _ _ _ _ _ _ _ _ _ _ _ _ _ _ _ _ _ _ _ _ _ _ _ _ _ _ _ _ _ _ _ _ _ _ _ _ _ _ _ _ _ _ _ _ _ _ _ _ _ _ _ _ _ _ _ _ _ _ _ _ _ _ _ _ _ _ _ _ _ _ _ _ _ _ _ _ _ _ _ _ _ _ _ _ _ _ _ _ _ _ _ _ _ _ _ _ _ _ _ _ _ _ _ _ _ _ _ _ _ _ _ _ _ _ _ _ _ _ _ _ _ _ _ _ _ _ _ _ _ _ _ _ _ _ _ _ _ _ _ _ _ _ _ _ _ _ _ _ ?_
              intro _ _ _ _ _ _ _ _ _ _ _ _ _ _ _ _ _ _ _ _ _ _ _ _ _ _ _ _ _ _ _ _ _ _ _ _ _ _ _ _ _ _ _ _ _ _ _ _ _ _ _ _ _ _ _ _ _ _ _ _ _ _ _ _ _ _ _ _ _ _ _ _ _ _ _ _ _ _ _ _ _ _ _ _ _ _ _ _ _ _ _ _ _ _ _ _ _ _ _ _ _ _ _ _ _ _ _ _ _ _ _ _ _ _ _ _ _ _ _ _ _ _ _ _ _ _ _ _ _ _ _ _ _ _ _ _ _ _ _ _ _ _ _ _ _ _ _ _ _ _ _ _ _ _ _ _ _ _ _ _ _ _ _ _ _ _ _ _ _ _ _ _ _ _ _ _ _ _ _ _ _ _ _ _ _ _ _ _ _ _ _ _ _ _ _ _ _ _ _ _ _ _ _ wx hc
              dsimp only
              first | refine hJ _ _ ?_ | (refine hK' _ _ (Met.intro ?_); refine hJ _ _ ?_)
              (repeat apply Exists.intro)
              exact ⟨hc, rfl⟩
            by_cases hk2 : j = 2
            · subst hk2
              refine caseT2 HGB HOR HOC HOL HNB HBL _ _ _ _ _ _ _ _ _ _ _ _ _ _ _ _ _ _ _ _ _ _ _ _ _ _ _ _ _ _ _ _ _ _ _ _ _ _ _ _ _ _ _ _ _ _ _ _ _ _ _ _ _ _ _ _ _ _ _ _ _ _ _ _ _ _ _ _ _ _ _ _ _ _ _ _ _ _ _ _ _ _ _ _ _ _ _ _ _ _ _ _ _ _ _ _ _ _ _ _ _ _ _ _ _ _ _ _ _ _ _ _ _ _ _ _ _ _ _ _ _ _ _ _ _ _ _ _ _ _ _ _ _ _ _ _ _ _ _ _ _ _ _ _ _ _ _ _ _ _ _ _ _ _ _ _ _ _ _ _ _ _ _ _ _ _ _ _ _ _ _ _ _ _ _ _ _ _ _ _ _ _ _ _ _ _ _ _ _ _ _ _ _ _ _ _ _ _ _ _ _ _ _ _ _ _ _ _ _ _ _ _ _ _ _ _ _ _ _ _ _ _ _ _ _ _ _ _ _ _ _ _ _ _ _ _ _ _ _ _ _ _ _ _ _ _ _ _ _ _ _ _ _ _ _ _ _ _ _ _ _ _ _ _ _ _ _ _ _ _ _ _ _ ?_
              intro _ _ _ _ _ _ _ _ _ _ _ _ _ _ _ _ _ _ _ _ _ _ _ _ _ _ _ _ _ _ _ _ _ _ _ _ _ _ _ _ _ _ _ _ _ _ _ _ _ _ _ _ _ _ _ _ _ _ _ _ _ _ _ _ _ _ _ _ _ _ _ _ _ _ _ _ _ _ _ _ _ _ _ _ _ _ _ _ _ _ _ _ _ _ _ _ _ _ _ _ _ _ _ _ _ _ _ _ _ _ _ _ _ _ _ _ _ _ _ _ _ _ _ _ _ _ _ _ _ _ _ _ _ _ _ _ _ _ _ _ _ _ _ _ _ _ _ _ _ _ _ _ _ _ _ _ _ _ _ _ _ _ _ _ _ _ _ _ _ _ _ _ _ _ _ _ _ _ _ _ _ _ _ _ _ _ _ _ _ _ _ _ _ _ _ _ _ _ _ _ _ _ _ wx hc
              dsimp only
              first | refine hJ _ _ ?_ | (refine hK' _ _ (Met.intro ?_); refine hJ _ _ ?_)
              (repeat apply Exists.intro)
              exact ⟨hc, rfl⟩
            by_cases hk3 : j = 3
            · subst hk3
              refine caseT3 HGB HOR HOC HOL HNB HBL _ _ _ _ _ _ _ _ _ _ _ _ _ _ _ _ _ _ _ _ _ _ _ _ _ _ _ _ _ _ _ _ _ _ _ _ _ _ _ _ _ _ _ _ _ _ _ _ _ _ _ _ _ _ _ _ _ _ _ _ _ _ _ _ _ _ _ _ _ _ _ _ _ _ _ _ _ _ _ _ _ _ _ _ _ _ _ _ _ _ _ _ _ _ _ _ _ _ _ _ _ _ _ _ _ _ _ _ _ _ _ _ _ _ _ _ _ _ _ _ _ _ _ _ _ _ _ _ _ _ _ _ _ _ _ _ _ _ _ _ _ _ _ _ _ _ _ _ _ _ _ _ _ _ _ _ _ _ _ _ _ _ _ _ _ _ _ _ _ _ _ _ _ _ _ _ _ _ _ _ _ _ _ _ _ _ _ _ _ _ _ _ _ _ _ _ _ _ _ _ _ _ _ _ _ _ _ _ _ _ _ _ _ _ _ _ _ _ _ _ _ _ _ _ _ _ _ _ _ _ _ _ _ _ _ _ _ _ _ _ _ _ _ _ _ _ _ _ _ _ _ _ _ _ _ _ _ _ _ _ _ _ _ _ _ _ _ _ _ _ _ _ _ ?_
              intro _ _ _ _ _ _ _ _ _ _ _ _ _ _ _ _ _ _ _ _ _ _ _ _ _ _ _ _ _ _ _ _ _ _ _ _ _ _ _ _ _ _ _ _ _ _ _ _ _ _ _ _ _ _ _ _ _ _ _ _ _ _ _ _ _ _ _ _ _ _ _ _ _ _ _ _ _ _ _ _ _ _ _ _ _ _ _ _ _ _ _ _ _ _ _ _ _ _ _ _ _ _ _ _ _ _ _ _ _ _ _ _ _ _ _ _ _ _ _ _ _ _ _ _ _ _ _ _ _ _ _ _ _ _ _ _ _ _ _ _ _ _ _ _ _ _ _ _ _ _ _ _ _ _ _ _ _ _ _ _ _ _ _ _ _ _ _ _ _ _ _ _ _ _ _ _ _ _ _ _ _ _ _ _ _ _ _ _ _ _ _ _ _ _ _ _ _ _ _ _ _ _ _ wx hc
              dsimp only
              first | refine hJ _ _ ?_ | (refine hK' _ _ (Met.intro ?_); refine hJ _ _ ?_)
              (repeat apply Exists.intro)
              exact ⟨hc, rfl⟩
            by_cases hk4 : j = 4
            · subst hk4
              refine caseT4 HGB HOR HOC HOL HNB HBL _ _ _ _ _ _ _ _ _ _ _ _ _ _ _ _ _ _ _ _ _ _ _ _ _ _ _ _ _ _ _ _ _ _ _ _ _ _ _ _ _ _ _ _ _ _ _ _ _ _ _ _ _ _ _ _ _ _ _ _ _ _ _ _ _ _ _ _ _ _ _ _ _ _ _ _ _ _ _ _ _ _ _ _ _ _ _ _ _ _ _ _ _ _ _ _ _ _ _ _ _ _ _ _ _ _ _ _ _ _ _ _ _ _ _ _ _ _ _ _ _ _ _ _ _ _ _ _ _ _ _ _ _ _ _ _ _ _ _ _ _ _ _ _ _ _ _ _ _ _ _ _ _ _ _ _ _ _ _ _ _ _ _ _ _ _ _ _ _ _ _ _ _ _ _ _ _ _ _ _ _ _ _ _ _ _ _ _ _ _ _ _ _ _ _ _ _ _ _ _ _ _ _ _ _ _ _ _ _ _ _ _ _ _ _ _ _ _ _ _ _ _ _ _ _ _ _ _ _ _ _ _ _ _ _ _ _ _ _ _ _ _ _ _ _ _ _ _ _ _ _ _ _ _ _ _ _ _ _ _ _ _ _ _ _ _ _ _ _ _ _ _ _ ?_
              intro _ _ _ _ _ _ _ _ _ _ _ _ _ _ _ _ _ _ _ _ _ _ _ _ _ _ _ _ _ _ _ _ _ _ _ _ _ _ _ _ _ _ _ _ _ _ _ _ _ _ _ _ _ _ _ _ _ _ _ _ _ _ _ _ _ _ _ _ _ _ _ _ _ _ _ _ _ _ _ _ _ _ _ _ _ _ _ _ _ _ _ _ _ _ _ _ _ _ _ _ _ _ _ _ _ _ _ _ _ _ _ _ _ _ _ _ _ _ _ _ _ _ _ _ _ _ _ _ _ _ _ _ _ _ _ _ _ _ _ _ _ _ _ _ _ _ _ _ _ _ _ _ _ _ _ _ _ _ _ _ _ _ _ _ _ _ _ _ _ _ _ _ _ _ _ _ _ _ _ _ _ _ _ _ _ _ _ _ _ _ _ _ _ _ _ _ _ _ _ _ _ _ _ wx hc
              dsimp only
              first | refine hJ _ _ ?_ | (refine hK' _ _ (Met.intro ?_); refine hJ _ _ ?_)
              (repeat apply Exists.intro)
              exact ⟨hc, rfl⟩
            by_cases hk5 : j = 5
            · subst hk5
              refine caseT5 HGB HOR HOC HOL HNB HBL _ _ _ _ _ _ _ _ _ _ _ _ _ _ _ _ _ _ _ _ _ _ _ _ _ _ _ _ _ _ _ _ _ _ _ _ _ _ _ _ _ _ _ _ _ _ _ _ _ _ _ _ _ _ _ _ _ _ _ _ _ _ _ _ _ _ _ _ _ _ _ _ _ _ _ _ _ _ _ _ _ _ _ _ _ _ _ _ _ _ _ _ _ _ _ _ _ _ _ _ _ _ _ _ _ _ _ _ _ _ _ _ _ _ _ _ _ _ _ _ _ _ _ _ _ _ _ _ _ _ _ _ _ _ _ _ _ _ _ _ _ _ _ _ _ _ _ _ _ _ _ _ _ _ _ _ _ _ _ _ _ _ _ _ _ _ _ _ _ _ _ _ _ _ _ _ _ _ _ _ _ _ _ _ _ _ _ _ _ _ _ _ _ _ _ _ _ _ _ _ _ _ _ _ _ _ _ _ _ _ _ _ _ _ _ _ _ _ _ _ _ _ _ _ _ _ _ _ _ _ _ _ _ _ _ _ _ _ _ _ _ _ _ _ _ _ _ _ _ _ _ _ _ _ _ _ _ _ _ _ _ _ _ _ _ _ _ _ _ _ _ _ _ ?_
              intro _ _ _ _ _ _ _ _ _ _ _ _ _ _ _ _ _ _ _ _ _ _ _ _ _ _ _ _ _ _ _ _ _ _ _ _ _ _ _ _ _ _ _ _ _ _ _ _ _ _ _ _ _ _ _ _ _ _ _ _ _ _ _ _ _ _ _ _ _ _ _ _ _ _ _ _ _ _ _ _ _ _ _ _ _ _ _ _ _ _ _ _ _ _ _ _ _ _ _ _ _ _ _ _ _ _ _ _ _ _ _ _ _ _ _ _ _ _ _ _ _ _ _ _ _ _ _ _ _ _ _ _ _ _ _ _ _ _ _ _ _ _ _ _ _ _ _ _ _ _ _ _ _ _ _ _ _ _ _ _ _ _ _ _ _ _ _ _ _ _ _ _ _ _ _ _ _ _ _ _ _ _ _ _ _ _ _ _ _ _ _ _ _ _ _ _ _ _ _ _ _ _ _ wx hc
              dsimp only
              first | refine hJ _ _ ?_ | (refine hK' _ _ (Met.intro ?_); refine hJ _ _ ?_)
              (repeat apply Exists.intro)
              exact ⟨hc, rfl⟩
            have e0 : (j == 0) = false := by simpa using hk0
            have e1 : (j == 1) = false := by simpa using hk1
            have e2 : (j == 2) = false := by simpa using hk2
            have e3 : (j == 3) = false := by simpa using hk3
            have e4 : (j == 4) = false := by simpa using hk4
            have e5 : (j == 5) = false := by simpa using hk5
            refine caseT6 HGB HOR HOC HOL HNB HBL e0 hk0 e1 hk1 e2 hk2 e3 hk3 e4 hk4 e5 hk5 HX _ _ _ _ _ _ _ _ _ _ _ _ _ _ _ _ _ _ _ _ _ _ _ _ _ _ _ _ _ _ _ _ _ _ _ _ _ _ _ _ _ _ _ _ _ _ _ _ _ _ _ _ _ _ _ _ _ _ _ _ _ _ _ _ _ _ _ _ _ _ _ _ _ _ _ _ _ _ _ _ _ _ _ _ _ _ _ _ _ _ _ _ _ _ _ _ _ _ _ _ _ _ _ _ _ _ _ _ _ _ _ _ _ _ _ _ _ _ _ _ _ _ _ _ _ _ _ _ _ _ _ _ _ _ _ _ _ _ _ _ _ _ _ _ _ _ _ _ _ _ _ _ _ _ _ _ _ _ _ _ _ _ _ _ _ _ _ _ _ _ _ _ _ _ _ _ _ _ _ _ _ _ _ _ _ _ _ _ _ _ _ _ _ _ _ _ _ _ _ _ _ _ _ _ _ _ _ _ _ _ _ _ _ _ _ _ _ _ _ _ _ _ _ _ _ _ _ _ _ _ _ _ _ _ _ _ _ _ _ _ _ _ _ _ _ _ _ _ _ _ _ _ _ _ _ _ _ _ _ _ _ _ _ _ _ _ _ _ _ _ _ _ _ ?_
            intro _ _ _ _ _ _ _ _ _ _ _ _ _ _ _ _ _ _ _ _ _ _ _ _ _ _ _ _ _ _ _ _ _ _ _ _ _ _ _ _ _ _ _ _ _ _ _ _ _ _ _ _ _ _ _ _ _ _ _ _ _ _ _ _ _ _ _ _ _ _ _ _ _ _ _ _ _ _ _ _ _ _ _ _ _ _ _ _ _ _ _ _ _ _ _ _ _ _ _ _ _ _ _ _ _ _ _ _ _ _ _ _ _ _ _ _ _ _ _ _ _ _ _ _ _ _ _ _ _ _ _ _ _ _ _ _ _ _ _ _ _ _ _ _ _ _ _ _ _ _ _ _ _ _ _ _ _ _ _ _ _ _ _ _ _ _ _ _ _ _ _ _ _ _ _ _ _ _ _ _ _ _ _ _ _ _ _ _ _ _ _ _ _ _ _ _ _ _ _ _ _ _ _ wx hc
            dsimp only
            first | refine hJ _ _ ?_ | (refine hK' _ _ (Met.intro ?_); refine hJ _ _ ?_)
            (repeat apply Exists.intro)
            exact ⟨hc, rfl⟩
        case rest =>
          obtain ⟨r, vt', zs, rfl, rfl, hGz⟩ := hcut
          have HGZ := Lib.hid hGz
          have hcT := hGz.tab.cellB
          have hcX := hGz.far.cellB
          obtain ⟨Aw, cw, hvw, hcw, hrw⟩ := hGz.reads
          obtain ⟨At, ct, hvt, hrt⟩ := own_r4 hGz.tab.own rfl
          obtain ⟨Ax, cx, hvx, hrx⟩ := own_r4 hGz.far.own rfl
          have HS1 := Lib.hid (fun w' (hb : Below wc.heap.size wc w') => (same_c w' At Aw zs.length ct cw zs rfl (by have := HGZ.out.tab.len; omega) (reads4_below hrt hb) (reads4_below hrw hb)).mono (R' := fun e w'' => e = .returned (.bool true) ∧ Below wc.heap.size wc w'') (fun e w'' h => ⟨h.1, by obtain ⟨m, rfl⟩ := h.2; exact pw_below_drewN hb m⟩))
          have HS2 := Lib.hid (fun w' (hb : Below wc.heap.size wc w') => (same_c w' Ax OA oth.length cx oc oth rfl (by have := HOL.out; omega) (reads4_below hrx hb) (reads4_below HOR.out (HGZ.out.bel.trans (hb.mono HGZ.out.bel.size)))).mono (R' := fun e w'' => e = .returned (.bool true) ∧ Below wc.heap.size wc w'') (fun e w'' h => ⟨h.1, by obtain ⟨m, rfl⟩ := h.2; exact pw_below_drewN hb m⟩))
          rw [hvt] at hcT
          rw [hvx] at hcX
          have HVW := Lib.hid hvw
          subst hvw
          have HVT := Lib.hid hvt
          have HVX := Lib.hid hvx
          clear hGz hcw hrw hvt hrt hvx hrx
          go_upto_region 51 with fail
          have HCX := Lib.hid hcX
          go_wp2_with (first | (go_at_call 14; ((with_reducible refine (HS1.out _ (Below.refl _ _)).mono ?_)); rintro e w7 ⟨rfl, hb⟩; have HB7 := Lib.hid hb; clear hcX hcT; have hcX := cell_below hb HCX.out; clear hb) | (go_at_call 14; ((with_reducible refine (HS2.out _ HB7.out).mono ?_)); rintro e w8 ⟨rfl, hb⟩; have HB8 := Lib.hid hb; clear hb))
          go_roundw
          case rel => exact ⟨i + 1, _, _, by go_num, by omega, HGZ.out.below HB8.out⟩
          case measure => simp [intOf]; omega
      · have h20' : (20 : Int) ≤ i := by omega
        clear h20
        go_wp2
        go_ret
        exact ⟨rfl, HG.out.bel⟩
    · have hge : (ns : Int) ≤ i := by omega
      clear hlt
      go_wp2
      go_ret
      exact ⟨rfl, HG.out.bel⟩
end Go.Proofs.Ytlllbgmnheikgaa.St
