/-
  The walk of the law StoreMem. No condition but that the script is read.
-/
import Derived.Test.YtlllbgmnheikgaaStV
namespace Go.Proofs.Ytlllbgmnheikgaa.St
set_option linter.unusedVariables false
set_option linter.unusedSimpArgs false
open Go.ChangeShapes Go.WideShapes Go.RowKit Go.Proofs.YtlllbgmnheikgaaW.PrintWords Go.Proofs.Ytlllbgmnheikgaa.PStoreNone

set_option maxHeartbeats 4000000 in
set_option maxRecDepth 100000 in
theorem mem_law (k : Nat) (hk : k ≤ 2) (mn mx : Int) (hs : Bool) (S : Option Addr) (ns cs : Nat) (most : Int) (w : World) (hx : -9223372036854775808 ≤ mx) (hm : -9223372036854775808 ≤ most)
    (hscr : ∀ i, i < ns → ∃ ad x, S = some ad ∧ ActOk w (ad.add (i * 10)) x) :
    Calls Try.prog 4 #[.int .i64 (k : Int), .agg #[.int .i64 mn, .int .i64 mx, .bool hs], .slice S ns cs, .int .i64 most] w fun e w' => e = .returned (.bool true) ∧ Below w.heap.size w w' := by
  obtain ⟨wa, hwa⟩ : ∃ wa, wa = w.alloc (Obj.cells #[.int .i64 mn, .int .i64 mx, .bool hs] 23) := ⟨_, rfl⟩
  have hba : Below w.heap.size w wa := by rw [hwa]; exact (Below.refl _ _).alloc (Nat.le_refl _) _
  obtain ⟨pl, hpl⟩ : ∃ pl, pl = w.heap.size := ⟨_, rfl⟩
  have hv0 : wa.heap[pl]? = some (.cells #[.int .i64 mn, .int .i64 mx, .bool hs] 23 (0, 0)) := by rw [hpl, hwa]; exact heap_alloc_new w _
  have HBA := Lib.hid hba
  have HV0 := Lib.hid hv0
  have HPL := Lib.hid hpl
  have HX := Lib.hid hx
  have HM := Lib.hid hm
  have HSCR := Lib.hid hscr
  have hk2 : (k : Int) ≤ 2 := by omega
  clear hba hv0 hx hm hscr hk
  go_enter Try.func4, Try.ntmps4
  go_upto_region 1 with fail
  rw [← hwa, ← hpl]
  clear hwa hpl
  go_upto_region 6 with (go_at_call 8; refine (awake_c _).mono ?_; rintro e wc ⟨rfl, hb⟩; have HB1 := Lib.hid (HBA.out.trans (hb.mono HBA.out.size)); have HL1 := Lib.hid ((hb.block pl (blk_lt HV0.out)).trans HV0.out); clear hb)
  obtain ⟨d0, d1, d2⟩ := blk3 HL1.out
  have hmk := fun W => print_make (P := Try.prog) 29 5 .u8 1 Try.underlying29 info5 (by decide) (k * 65536) (by omega) W
  have hkn : ((k * 65536 : Nat) : Int) = (k : Int) * 65536 := by omega
  rw [hkn] at hmk
  obtain ⟨Mc, hMc⟩ : ∃ Mc, Mc = madeCells #[.int .u8 0] (k * 65536) := ⟨_, rfl⟩
  rw [← hMc] at hmk
  have HMC := Lib.hid hMc
  have hal : Below wc.heap.size wc (wc.alloc (Obj.cells Mc 5)) := (Below.refl _ _).alloc (Nat.le_refl _) _
  obtain ⟨e0, e1, e2⟩ := blk3 ((hal.block pl (blk_lt HL1.out)).trans HL1.out)
  clear hkn hMc hal
  go_region
  go_upto_region 8 with fail
  have hG := first_mm w wc pl k mn mx hs Mc hk2 HPL.out HB1.out HL1.out HMC.out
  obtain ⟨gm, hgm⟩ : ∃ gm, gm = wc.heap.size + 1 := ⟨_, rfl⟩
  rw [← hgm] at hG ⊢
  obtain ⟨vm0, hvm0⟩ : ∃ v, v = Value.slice (some ⟨wc.heap.size, 0, none⟩) (k * 65536) (k * 65536) := ⟨_, rfl⟩
  obtain ⟨vb0, hvb0⟩ : ∃ v, v = Value.slice (some ⟨gm + 1, 0, none⟩) (k * 65536) (k * 65536) := ⟨_, rfl⟩
  rw [← hvm0, ← hvb0] at hG ⊢
  generalize (((wc.alloc (Obj.cells Mc 5)).alloc (Obj.cells #[.int .i64 mn, .int .i64 mx, .bool hs, vm0] 31)).alloc (Obj.cells Mc 5)).drew = w3 at hG ⊢
  have HG3 := Lib.hid hG
  clear hG hgm hvm0 hvb0 d0 d1 d2 e0 e1 e2 hmk
  go_wp2
  go_loopw [11, 12] (MemR w pl mn mx hs gm ns) (fun _ i _ => ns - (intOf i).toNat)
  case atStart => exact ⟨0, _, _, rfl, Nat.zero_le _, HG3.out⟩
  case round =>
    obtain ⟨i, vm, xs, rfl, hi, hG⟩ := hrel
    have HG := Lib.hid hG
    clear hG
    by_cases hlt : i < ns
    · by_cases h12 : (i : Int) < 12
      · obtain ⟨ad, x, rfl, hA⟩ := HSCR.out i hlt
        have hA2 := hA.below' HG.out
        have HA2 := Lib.hid hA2
        have HA := Lib.hid hA
        obtain ⟨c0, c1, c2, c3, c4, c5, c6, c7, c8, c9, hrd, hle, hkb, hnb2, hab⟩ := hA2
        obtain ⟨pa, hpa⟩ : ∃ pa, pa = wr.heap.size := ⟨_, rfl⟩
        have HPA := Lib.hid hpa
        clear hrd hle hkb hnb2 hab hA hpa
        go_upto_region 11 with fail
        go_upto_region 12 with fail
        rw [← HPA.out]
        have hbl := blk_new wr (.cells x.cells 49)
        have hbb : Below wr.heap.size wr (wr.alloc (Obj.cells x.cells 49)) := (Below.refl _ _).alloc (Nat.le_refl _) _
        have hGb := HG.out.below hbb
        have hAb := HA2.out.below hbb
        unfold ActV.cells at hbl hbb hGb hAb
        rw [← HPA.out] at hbl
        generalize wr.alloc (Obj.cells #[.int .i64 x.k, .int .u64 x.a, .int .u64 x.b, .int .u64 x.n, .int .u8 x.c, .slice x.LA x.ys.length x.lc, .int .i64 x.t, .int .u64 x.lo, .int .u64 x.hi, .bool x.nu] 49) = wb at hbl hGb hAb hbb ⊢
        have HBL := Lib.hid hbl
        have HGB := Lib.hid hGb
        have HAB := Lib.hid hAb
        have b0 := (blk_cell hbl 0).trans (show _ = some (Value.int .i64 x.k) from rfl)
        have b5 := (blk_cell hbl 5).trans (show _ = some (Value.slice x.LA x.ys.length x.lc) from rfl)
        clear hbl hbb hGb hAb c0 c1 c2 c3 c4 c5 c6 c7 c8 c9
        by_cases hbig : (x.ys.length : Int) > 1000
        · go_wp2
          go_ret
          exact ⟨rfl, HGB.out.bel⟩
        · have hsz : x.ys.length ≤ 140737488351232 := by omega
          obtain ⟨j, hj⟩ : ∃ j, x.k.tmod 6 = j := ⟨_, rfl⟩
          go_upto_block 2 with fail
          have HJ := Lib.hid hj
          clear hj
          go_cut [11, 14, 15] (fun v e f wx => CutM w pl mn mx hs gm v e f wx)
          case first =>
            rename_i J K' hJ hK'
            by_cases hk0 : j = 0
            · subst hk0
              refine case0 HGB HAB HA HBL hsz _ _ _ _ _ _ _ _ _ _ _ _ _ _ _ _ _ _ _ _ _ _ _ _ _ _ _ _ _ _ _ _ _ _ _ _ _ _ _ _ _ _ _ _ _ _ _ _ _ _ _ _ _ _ _ _ _ _ _ _ _ _ _ _ _ _ _ _ _ _ _ _ _ _ _ _ _ _ _ _ _ _ _ _ _ _ _ _ _ _ _ _ _ _ _ _ _ _ _ _ _ _ _ _ _ _ _ _ _ _ _ _ _ _ _ _ _ _ _ _ _ _ _ _ _ _ _ _ _ _ _ _ _ _ _ _ _ _ _ _ _ _ _ _ _ _ _ _ _ _ _ _ _ _ _ _ _ _ _ _ _ _ _ _ _ _ _ _ _ _ _ _ _ _ _ _ _ _ _ _ _ _ _ _ _ _ _ _ _ _ _ _ _ _ _ _ _ _ _ _ _ _ _ _ _ _ _ _ _ _ _ _ _ _ _ _ _ _ _ _ _ _ _ _ _ _ _ _ _ _ _ _ _ _ _ _ _ _ _ _ _ _ _ _ _ _ _ _ _ _ _ _ _ _ _ _ _ ?_
              intro _ _ _ _ _ _ _ _ _ _ _ _ _ _ _ _ _ _ _ _ _ _ _ _ _ _ _ _ _ _ _ _ _ _ _ _ _ _ _ _ _ _ _ _ _ _ _ _ _ _ _ _ _ _ _ _ _ _ _ _ _ _ _ _ _ _ _ _ _ _ _ _ _ _ _ _ _ _ _ _ _ _ _ _ _ _ _ _ _ _ _ _ _ _ _ _ _ _ _ _ _ _ _ _ _ _ _ _ _ _ _ _ _ _ _ _ _ _ _ _ _ _ _ _ _ _ _ _ _ _ _ _ _ _ _ _ _ _ _ _ _ _ _ _ _ _ _ _ _ _ _ _ _ _ _ _ _ _ _ _ _ _ _ _ _ _ _ _ _ _ _ _ _ _ _ _ _ _ _ _ _ _ _ _ _ _ _ _ _ _ _ _ _ _ _ _ _ _ _ _ _ wx hc
              dsimp only
              first | refine hJ _ _ ?_ | (refine hK' _ _ (Met.intro ?_); refine hJ _ _ ?_)
              (repeat apply Exists.intro)
              exact ⟨hc, rfl⟩
            by_cases hk1 : j = 1
            · subst hk1
              refine case1 HGB HAB HA HBL hsz _ _ _ _ _ _ _ _ _ _ _ _ _ _ _ _ _ _ _ _ _ _ _ _ _ _ _ _ _ _ _ _ _ _ _ _ _ _ _ _ _ _ _ _ _ _ _ _ _ _ _ _ _ _ _ _ _ _ _ _ _ _ _ _ _ _ _ _ _ _ _ _ _ _ _ _ _ _ _ _ _ _ _ _ _ _ _ _ _ _ _ _ _ _ _ _ _ _ _ _ _ _ _ _ _ _ _ _ _ _ _ _ _ _ _ _ _ _ _ _ _ _ _ _ _ _ _ _ _ _ _ _ _ _ _ _ _ _ _ _ _ _ _ _ _ _ _ _ _ _ _ _ _ _ _ _ _ _ _ _ _ _ _ _ _ _ _ _ _ _ _ _ _ _ _ _ _ _ _ _ _ _ _ _ _ _ _ _ _ _ _ _ _ _ _ _ _ _ _ _ _ _ _ _ _ _ _ _ _ _ _ _ _ _ _ _ _ _ _ _ _ _ _ _ _ _ _ _ _ _ _ _ _ _ _ _ _ _ _ _ _ _ _ _ _ _ _ _ _ _ _ _ _ _ _ _ _ ?_
              intro _ _ _ _ _ _ _ _ _ _ _ _ _ _ _ _ _ _ _ _ _ _ _ _ _ _ _ _ _ _ _ _ _ _ _ _ _ _ _ _ _ _ _ _ _ _ _ _ _ _ _ _ _ _ _ _ _ _ _ _ _ _ _ _ _ _ _ _ _ _ _ _ _ _ _ _ _ _ _ _ _ _ _ _ _ _ _ _ _ _ _ _ _ _ _ _ _ _ _ _ _ _ _ _ _ _ _ _ _ _ _ _ _ _ _ _ _ _ _ _ _ _ _ _ _ _ _ _ _ _ _ _ _ _ _ _ _ _ _ _ _ _ _ _ _ _ _ _ _ _ _ _ _ _ _ _ _ _ _ _ _ _ _ _ _ _ _ _ _ _ _ _ _ _ _ _ _ _ _ _ _ _ _ _ _ _ _ _ _ _ _ _ _ _ _ _ _ _ _ _ _ wx hc
              dsimp only
              first | refine hJ _ _ ?_ | (refine hK' _ _ (Met.intro ?_); refine hJ _ _ ?_)
              (repeat apply Exists.intro)
              exact ⟨hc, rfl⟩
            by_cases hk2 : j = 2
            · subst hk2
              refine case2 HGB HAB HA HBL hsz _ _ _ _ _ _ _ _ _ _ _ _ _ _ _ _ _ _ _ _ _ _ _ _ _ _ _ _ _ _ _ _ _ _ _ _ _ _ _ _ _ _ _ _ _ _ _ _ _ _ _ _ _ _ _ _ _ _ _ _ _ _ _ _ _ _ _ _ _ _ _ _ _ _ _ _ _ _ _ _ _ _ _ _ _ _ _ _ _ _ _ _ _ _ _ _ _ _ _ _ _ _ _ _ _ _ _ _ _ _ _ _ _ _ _ _ _ _ _ _ _ _ _ _ _ _ _ _ _ _ _ _ _ _ _ _ _ _ _ _ _ _ _ _ _ _ _ _ _ _ _ _ _ _ _ _ _ _ _ _ _ _ _ _ _ _ _ _ _ _ _ _ _ _ _ _ _ _ _ _ _ _ _ _ _ _ _ _ _ _ _ _ _ _ _ _ _ _ _ _ _ _ _ _ _ _ _ _ _ _ _ _ _ _ _ _ _ _ _ _ _ _ _ _ _ _ _ _ _ _ _ _ _ _ _ _ _ _ _ _ _ _ _ _ _ _ _ _ _ _ _ _ _ _ _ _ _ ?_
              intro _ _ _ _ _ _ _ _ _ _ _ _ _ _ _ _ _ _ _ _ _ _ _ _ _ _ _ _ _ _ _ _ _ _ _ _ _ _ _ _ _ _ _ _ _ _ _ _ _ _ _ _ _ _ _ _ _ _ _ _ _ _ _ _ _ _ _ _ _ _ _ _ _ _ _ _ _ _ _ _ _ _ _ _ _ _ _ _ _ _ _ _ _ _ _ _ _ _ _ _ _ _ _ _ _ _ _ _ _ _ _ _ _ _ _ _ _ _ _ _ _ _ _ _ _ _ _ _ _ _ _ _ _ _ _ _ _ _ _ _ _ _ _ _ _ _ _ _ _ _ _ _ _ _ _ _ _ _ _ _ _ _ _ _ _ _ _ _ _ _ _ _ _ _ _ _ _ _ _ _ _ _ _ _ _ _ _ _ _ _ _ _ _ _ _ _ _ _ _ _ _ wx hc
              dsimp only
              first | refine hJ _ _ ?_ | (refine hK' _ _ (Met.intro ?_); refine hJ _ _ ?_)
              (repeat apply Exists.intro)
              exact ⟨hc, rfl⟩
            by_cases hk3 : j = 3
            · subst hk3
              refine case3 HGB HAB HA HBL hsz _ _ _ _ _ _ _ _ _ _ _ _ _ _ _ _ _ _ _ _ _ _ _ _ _ _ _ _ _ _ _ _ _ _ _ _ _ _ _ _ _ _ _ _ _ _ _ _ _ _ _ _ _ _ _ _ _ _ _ _ _ _ _ _ _ _ _ _ _ _ _ _ _ _ _ _ _ _ _ _ _ _ _ _ _ _ _ _ _ _ _ _ _ _ _ _ _ _ _ _ _ _ _ _ _ _ _ _ _ _ _ _ _ _ _ _ _ _ _ _ _ _ _ _ _ _ _ _ _ _ _ _ _ _ _ _ _ _ _ _ _ _ _ _ _ _ _ _ _ _ _ _ _ _ _ _ _ _ _ _ _ _ _ _ _ _ _ _ _ _ _ _ _ _ _ _ _ _ _ _ _ _ _ _ _ _ _ _ _ _ _ _ _ _ _ _ _ _ _ _ _ _ _ _ _ _ _ _ _ _ _ _ _ _ _ _ _ _ _ _ _ _ _ _ _ _ _ _ _ _ _ _ _ _ _ _ _ _ _ _ _ _ _ _ _ _ _ _ _ _ _ _ _ _ _ _ _ ?_
              intro _ _ _ _ _ _ _ _ _ _ _ _ _ _ _ _ _ _ _ _ _ _ _ _ _ _ _ _ _ _ _ _ _ _ _ _ _ _ _ _ _ _ _ _ _ _ _ _ _ _ _ _ _ _ _ _ _ _ _ _ _ _ _ _ _ _ _ _ _ _ _ _ _ _ _ _ _ _ _ _ _ _ _ _ _ _ _ _ _ _ _ _ _ _ _ _ _ _ _ _ _ _ _ _ _ _ _ _ _ _ _ _ _ _ _ _ _ _ _ _ _ _ _ _ _ _ _ _ _ _ _ _ _ _ _ _ _ _ _ _ _ _ _ _ _ _ _ _ _ _ _ _ _ _ _ _ _ _ _ _ _ _ _ _ _ _ _ _ _ _ _ _ _ _ _ _ _ _ _ _ _ _ _ _ _ _ _ _ _ _ _ _ _ _ _ _ _ _ _ _ _ wx hc
              dsimp only
              first | refine hJ _ _ ?_ | (refine hK' _ _ (Met.intro ?_); refine hJ _ _ ?_)
              (repeat apply Exists.intro)
              exact ⟨hc, rfl⟩
            by_cases hk4 : j = 4
            · subst hk4
              refine case4 HGB HAB HA HBL hsz _ _ _ _ _ _ _ _ _ _ _ _ _ _ _ _ _ _ _ _ _ _ _ _ _ _ _ _ _ _ _ _ _ _ _ _ _ _ _ _ _ _ _ _ _ _ _ _ _ _ _ _ _ _ _ _ _ _ _ _ _ _ _ _ _ _ _ _ _ _ _ _ _ _ _ _ _ _ _ _ _ _ _ _ _ _ _ _ _ _ _ _ _ _ _ _ _ _ _ _ _ _ _ _ _ _ _ _ _ _ _ _ _ _ _ _ _ _ _ _ _ _ _ _ _ _ _ _ _ _ _ _ _ _ _ _ _ _ _ _ _ _ _ _ _ _ _ _ _ _ _ _ _ _ _ _ _ _ _ _ _ _ _ _ _ _ _ _ _ _ _ _ _ _ _ _ _ _ _ _ _ _ _ _ _ _ _ _ _ _ _ _ _ _ _ _ _ _ _ _ _ _ _ _ _ _ _ _ _ _ _ _ _ _ _ _ _ _ _ _ _ _ _ _ _ _ _ _ _ _ _ _ _ _ _ _ _ _ _ _ _ _ _ _ _ _ _ _ _ _ _ _ _ _ _ _ _ ?_
              intro _ _ _ _ _ _ _ _ _ _ _ _ _ _ _ _ _ _ _ _ _ _ _ _ _ _ _ _ _ _ _ _ _ _ _ _ _ _ _ _ _ _ _ _ _ _ _ _ _ _ _ _ _ _ _ _ _ _ _ _ _ _ _ _ _ _ _ _ _ _ _ _ _ _ _ _ _ _ _ _ _ _ _ _ _ _ _ _ _ _ _ _ _ _ _ _ _ _ _ _ _ _ _ _ _ _ _ _ _ _ _ _ _ _ _ _ _ _ _ _ _ _ _ _ _ _ _ _ _ _ _ _ _ _ _ _ _ _ _ _ _ _ _ _ _ _ _ _ _ _ _ _ _ _ _ _ _ _ _ _ _ _ _ _ _ _ _ _ _ _ _ _ _ _ _ _ _ _ _ _ _ _ _ _ _ _ _ _ _ _ _ _ _ _ _ _ _ _ _ _ _ wx hc
              dsimp only
              first | refine hJ _ _ ?_ | (refine hK' _ _ (Met.intro ?_); refine hJ _ _ ?_)
              (repeat apply Exists.intro)
              exact ⟨hc, rfl⟩
            have e0 : (j == 0) = false := by simpa using hk0
            have e1 : (j == 1) = false := by simpa using hk1
            have e2 : (j == 2) = false := by simpa using hk2
            have e3 : (j == 3) = false := by simpa using hk3
            have e4 : (j == 4) = false := by simpa using hk4
            refine case5 HGB HAB HA HBL hsz e0 hk0 e1 hk1 e2 hk2 e3 hk3 e4 hk4 HX HM _ _ _ _ _ _ _ _ _ _ _ _ _ _ _ _ _ _ _ _ _ _ _ _ _ _ _ _ _ _ _ _ _ _ _ _ _ _ _ _ _ _ _ _ _ _ _ _ _ _ _ _ _ _ _ _ _ _ _ _ _ _ _ _ _ _ _ _ _ _ _ _ _ _ _ _ _ _ _ _ _ _ _ _ _ _ _ _ _ _ _ _ _ _ _ _ _ _ _ _ _ _ _ _ _ _ _ _ _ _ _ _ _ _ _ _ _ _ _ _ _ _ _ _ _ _ _ _ _ _ _ _ _ _ _ _ _ _ _ _ _ _ _ _ _ _ _ _ _ _ _ _ _ _ _ _ _ _ _ _ _ _ _ _ _ _ _ _ _ _ _ _ _ _ _ _ _ _ _ _ _ _ _ _ _ _ _ _ _ _ _ _ _ _ _ _ _ _ _ _ _ _ _ _ _ _ _ _ _ _ _ _ _ _ _ _ _ _ _ _ _ _ _ _ _ _ _ _ _ _ _ _ _ _ _ _ _ _ _ _ _ _ _ _ _ _ _ _ _ _ _ _ _ _ _ _ _ ?_ ?_
            · intro _ _ _ _ _ _ _ _ _ _ _ _ _ _ _ _ _ _ _ _ _ _ _ _ _ _ _ _ _ _ _ _ _ _ _ _ _ _ _ _ _ _ _ _ _ _ _ _ _ _ _ _ _ _ _ _ _ _ _ _ _ _ _ _ _ _ _ _ _ _ _ _ _ _ _ _ _ _ _ _ _ _ _ _ _ _ _ _ _ _ _ _ _ _ _ _ _ _ _ _ _ _ _ _ _ _ _ _ _ _ _ _ _ _ _ _ _ _ _ _ _ _ _ _ _ _ _ _ _ _ _ _ _ _ _ _ _ _ _ _ _ _ _ _ _ _ _ _ _ _ _ _ _ _ _ _ _ _ _ _ _ _ _ _ _ _ _ _ _ _ _ _ _ _ _ _ _ _ _ _ _ _ _ _ _ _ _ _ _ _ _ _ _ _ _ _ _ _ _ _ _ wx hc
              dsimp only
              first | refine hJ _ _ ?_ | (refine hK' _ _ (Met.intro ?_); refine hJ _ _ ?_)
              (repeat apply Exists.intro)
              exact ⟨hc, rfl⟩
            · intro _ _ _ _ _ _ _ _ _ _ _ _ _ _ _ _ _ _ _ _ _ _ _ _ _ _ _ _ _ _ _ _ _ _ _ _ _ _ _ _ _ _ _ _ _ _ _ _ _ _ _ _ _ _ _ _ _ _ _ _ _ _ _ _ _ _ _ _ _ _ _ _ _ _ _ _ _ _ _ _ _ _ _ _ _ _ _ _ _ _ _ _ _ _ _ _ _ _ _ _ _ _ _ _ _ _ _ _ _ _ _ _ _ _ _ _ _ _ _ _ _ _ _ _ _ _ _ _ _ _ _ _ _ _ _ _ _ _ _ _ _ _ _ _ _ _ _ _ _ _ _ _ _ _ _ _ _ _ _ _ _ _ _ _ _ _ _ _ _ _ _ _ _ _ _ _ _ _ _ _ _ _ _ _ _ _ _ _ _ _ _ _ _ _ _ _ _ _ _ _ wx hb
              dsimp only
              change bodyPost Try.prog Try.f4 (fun e w' => e = Ending.returned (Value.bool true) ∧ Below w.heap.size w w') Exit.ret _ wx
              go_ret
              exact ⟨rfl, hb⟩
          case rest =>
            obtain ⟨r, vm', zs, rfl, rfl, hGz⟩ := hcut
            have HGZ := Lib.hid hGz
            have hcB := hGz.mem.cellB
            have hc1 : ∀ q, (convert 29 9 vm').run Try.prog (wc.drewN q) = .ok (.string (strOfNums zs)) (wc.drewN q) := fun q => own_string (P := Try.prog) (src := 29) (dst := 9) Try.underlying29 Try.underlying5 Try.underlying9 (pw_own_below hGz.mem.own (pw_below_drewN (Below.refl _ _) q))
            have hc2 : ∀ q, (convert 29 9 u11).run Try.prog (wc.drewN q) = .ok (.string (strOfNums zs)) (wc.drewN q) := fun q => own_string (P := Try.prog) (src := 29) (dst := 9) Try.underlying29 Try.underlying5 Try.underlying9 (pw_own_below hGz.own (pw_below_drewN (Below.refl _ _) q))
            clear hGz
            go_upto_region 46 with fail
            go_quiet (fail)
            go_wp2
            go_roundw
            case rel => exact ⟨i + 1, _, _, by go_num, by omega, HGZ.out.below (pw_below_drewN (Below.refl _ _) _)⟩
            case measure => simp [intOf]; omega
      · have h12' : (12 : Int) ≤ i := by omega
        clear h12
        go_wp2
        go_ret
        exact ⟨rfl, HG.out.bel⟩
    · have hge : (ns : Int) ≤ i := by omega
      clear hlt
      go_wp2
      go_ret
      exact ⟨rfl, HG.out.bel⟩
end Go.Proofs.Ytlllbgmnheikgaa.St
