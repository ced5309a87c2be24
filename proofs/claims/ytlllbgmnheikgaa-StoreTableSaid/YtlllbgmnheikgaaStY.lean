/-
  The walks of a table's Fill, Set, Init, Copy, Get (store). No condition but that the table's block is one, its values a row of one's own.
-/
import Derived.Test.YtlllbgmnheikgaaStQ
import Derived.Test.YtlllbgmnheikgaaStS
namespace Go.Proofs.Ytlllbgmnheikgaa.St
set_option linter.unusedVariables false
set_option linter.unusedSimpArgs false
open Go.RowKit Go.Proofs.YtlllbgmnheikgaaW.PrintWords Go.Proofs.Ytlllbgmnheikgaa.PStoreNone

theorem cl_set : ∀ (l : List V4) (i : Nat) (v : V4), i < l.length → cl (l.set i v) = (cl l).take (i * 4) ++ vc v ++ (cl l).drop (i * 4 + 4)
  | [], i, v, h => by cases h
  | x :: l, 0, v, _ => by rw [List.set_cons_zero, cl_cons, cl_cons, Nat.zero_mul, List.take_zero, List.nil_append, Nat.zero_add, List.drop_append_of_le_length (by rw [vc_len]; omega), List.drop_of_length_le (by rw [vc_len]; omega), List.nil_append]
  | x :: l, i + 1, v, h => by
    have hl : i < l.length := by simpa using h
    rw [List.set_cons_succ, cl_cons, cl_cons, cl_set l i v hl, List.take_append, vc_len, List.take_of_length_le (l := vc x) (by rw [vc_len]; omega), List.drop_append, vc_len, List.drop_of_length_le (l := vc x) (by rw [vc_len]; omega), List.nil_append, show (i + 1) * 4 - 4 = i * 4 by omega, show (i + 1) * 4 + 4 - 4 = i * 4 + 4 by omega]
    simp [List.append_assoc]
theorem own_set4 {w : World} {base g c : Nat} {l : List V4} (H : w.ownsRow base 26 4 (.slice (some ⟨g, 0, none⟩) l.length c) l.length (cl l)) (i : Nat) (hi : i < l.length) (v : V4) :
    (w.setCells g (i * 4) (vc v)).ownsRow base 26 4 (.slice (some ⟨g, 0, none⟩) l.length c) l.length (cl (l.set i v)) ∧ w.grownBy (w.setCells g (i * 4) (vc v)) (some g) := by
  rcases H.2 with ⟨hv, h0⟩ | ⟨g', cap, cur, hv, hb, hh, hnc, hcm, hcs, htake⟩
  · omega
  · obtain ⟨rfl, rfl⟩ : g = g' ∧ c = cap := by injection hv with h1 _ h3; injection h1 with h1; injection h1 with h1; exact ⟨h1, h3⟩
    obtain ⟨cur', h3, h4, h5⟩ := setCells_row (vc v) (i * 4) w cur hh (by rw [vc_len]; omega)
    obtain ⟨s1, s2, s3, s4⟩ := setCells_same g (vc v) (i * 4) w
    refine ⟨⟨by rw [cl_len, List.length_set], .inr ⟨g, c, cur', rfl, hb, h3, hnc, hcm, by rw [h4, hcs], ?_⟩⟩, ⟨s1, s2, s3, by rw [s4]; exact Nat.le_refl _, fun k _ hk => setCells_far _ _ k (fun e => hk (by rw [e]))⟩⟩
    rw [h5, cl_set l i v hi, vc_len]
    have e1 : cur.toList.take (i * 4) = (cl l).take (i * 4) := by rw [← htake, List.take_take]; congr 1; omega
    have e2 : (cur.toList.drop (i * 4 + 4)).take (l.length * 4 - (i * 4 + 4)) = (cl l).drop (i * 4 + 4) := by rw [← List.drop_take, htake]
    have l1 : (cur.toList.take (i * 4) ++ vc v).length = i * 4 + 4 := by rw [List.length_append, vc_len, List.length_take, Array.length_toList]; omega
    rw [List.take_append, l1, List.take_of_length_le (by rw [l1]; omega), e1, e2]
/-- What Init and Copy say, and what they make. -/
def initV (p f n : Nat) (ys xs : List V4) : List V4 := if inB f n ys.length = true ∧ inB p n xs.length = true then xs.take p ++ ((ys.drop f).take n ++ xs.drop (p + n)) else xs
def tabE (p f n m k : Nat) : Int := if inB f n m = true ∧ inB p n k = true then 0 else 45
theorem initV_len {p f n : Nat} {ys xs : List V4} : (initV p f n ys xs).length = xs.length := by
  unfold initV
  split
  · rename_i h
    simp only [inB, decide_eq_true_eq] at h
    simp only [List.length_append, List.length_take, List.length_drop]
    omega
  · rfl
def fillV (p k : Nat) (v : V4) (xs : List V4) : List V4 := xs.take p ++ (List.replicate k v ++ xs.drop (p + k))
theorem fillV_len {p k : Nat} {v : V4} {xs : List V4} (h : p + k ≤ xs.length) : (fillV p k v xs).length = xs.length := by
  unfold fillV; simp only [List.length_append, List.length_take, List.length_replicate, List.length_drop]; omega
theorem fillV_zero (p : Nat) (v : V4) (xs : List V4) : fillV p 0 v xs = xs := by unfold fillV; simp
theorem fillV_succ {p k : Nat} {v : V4} {xs : List V4} (h : p + k < xs.length) : (fillV p k v xs).set (p + k) v = fillV p (k + 1) v xs := by
  unfold fillV
  have l1 : (xs.take p).length = p := by rw [List.length_take]; omega
  rw [List.set_append_right _ _ (by rw [l1]; omega), l1, List.set_append_right _ _ (by rw [List.length_replicate]; omega), List.length_replicate, show p + k - p - k = 0 by omega]
  rw [List.drop_eq_getElem_cons h, List.set_cons_zero, List.replicate_succ', ← List.append_assoc, List.append_assoc, List.append_assoc]
  simp [Nat.add_assoc]
def fillVF (p n : Nat) (v : V4) (xs : List V4) : List V4 := if inB p n xs.length = true then fillV p n v xs else xs
def fillVE (p n k : Nat) : Int := if inB p n k = true then 0 else 45
structure TabQ (w : World) (base g : Nat) (rf mn mx : Int) (hs : Bool) (v : Value) (l : List V4) (r : Int) (e : Ending) (w' : World) : Prop where mk ::
  (out : e = .returned (.int .i64 r) ∧ TblI w' base g rf mn mx hs v l.length (cl l) ∧ w.grownBy w' v.ownBlock)
theorem TblI.set {w : World} {base g g2 c : Nat} {rf mn mx : Int} {hs : Bool} {l : List V4} (H : TblI w base g rf mn mx hs (.slice (some ⟨g2, 0, none⟩) l.length c) l.length (cl l)) (i : Nat) (hi : i < l.length) (v : V4) :
    TblI (w.setCells g2 (i * 4) (vc v)) base g rf mn mx hs (.slice (some ⟨g2, 0, none⟩) l.length c) l.length (cl (l.set i v)) ∧ w.grownBy (w.setCells g2 (i * 4) (vc v)) (some g2) := by
  have h := own_set4 H.own i hi v
  exact ⟨⟨(h.2.block g (blk_lt H.blk) H.ne).trans H.blk, h.1, cl_one _, H.ge, H.len⟩, h.2⟩
def FillTR (w : World) (base g pv : Nat) (rf mn mx : Int) (hs : Bool) (v : Value) (p n : Nat) (x : V4) (xs : List V4) (i : Value) (wr : World) : Prop :=
  ∃ k : Nat, i = .int .u64 k ∧ k ≤ n ∧ TblI wr base g rf mn mx hs v xs.length (cl (fillV p k x xs)) ∧ w.grownBy wr v.ownBlock ∧ wr.heap[pv]? = some (.cells #[.int .i64 x.1, .int .u64 x.2.1, .int .u64 x.2.2.1, .bool x.2.2.2] 26 (0, 0))
theorem four4 {w : World} {g : Nat} {a b c d : Value} (h : w.heap[g]? = some (.cells #[a, b, c, d] 26 (0, 0))) : w.cell? ⟨g, 0, none⟩ = some a ∧ w.cell? ⟨g, 1, none⟩ = some b ∧ w.cell? ⟨g, 2, none⟩ = some c ∧ w.cell? ⟨g, 3, none⟩ = some d :=
  ⟨(blk_cell h 0).trans rfl, (blk_cell h 1).trans rfl, (blk_cell h 2).trans rfl, (blk_cell h 3).trans rfl⟩
theorem own_four {w : World} {base g c : Nat} {l : List V4} (H : w.ownsRow base 26 4 (.slice (some ⟨g, 0, none⟩) l.length c) l.length (cl l)) (i : Nat) (hi : i < l.length) :
    ∃ y0 y1 y2 y3, w.cell? ⟨g, i * 4, none⟩ = some y0 ∧ w.cell? ⟨g, i * 4 + 1, none⟩ = some y1 ∧ w.cell? ⟨g, i * 4 + 2, none⟩ = some y2 ∧ w.cell? ⟨g, i * 4 + 3, none⟩ = some y3 ∧
      w.frozen? ⟨g, i * 4, none⟩ = false ∧ w.frozen? ⟨g, i * 4 + 1, none⟩ = false ∧ w.frozen? ⟨g, i * 4 + 2, none⟩ = false ∧ w.frozen? ⟨g, i * 4 + 3, none⟩ = false := by
  have hcc := H.cells (g := g) rfl
  have g0 := hcc _ _ (cl_get _ i 0 hi (by decide))
  have g1 := hcc _ _ (cl_get _ i 1 hi (by decide))
  have g2 := hcc _ _ (cl_get _ i 2 hi (by decide))
  have g3 := hcc _ _ (cl_get _ i 3 hi (by decide))
  rw [add_plain] at g0 g1 g2 g3
  rcases H.2 with ⟨hv, h0⟩ | ⟨g', cap, cur, hv, hb, hh, hnc, hcm, hcs, htake⟩
  · omega
  · obtain ⟨rfl, rfl⟩ : g = g' ∧ c = cap := by injection hv with h1 _ h3; injection h1 with h1; injection h1 with h1; exact ⟨h1, h3⟩
    exact ⟨_, _, _, _, g0, g1, g2, g3, blk_frozen hh _, blk_frozen hh _, blk_frozen hh _, blk_frozen hh _⟩
set_option maxRecDepth 100000 in
theorem fillT_ok (w : World) (base g : Nat) (rf mn mx : Int) (hs : Bool) (A : Option Addr) (c : Nat) (xs : List V4) (H : TblI w base g rf mn mx hs (.slice A xs.length c) xs.length (cl xs)) (p n : Nat) (t lo hi : Int) (nu : Bool) (hb : inB p n xs.length = true) (h2 : p + n ≤ xs.length) :
    Calls Try.prog 25 #[.pointer (some ⟨g, 0, none⟩), .int .u64 (p : Int), .agg #[.int .i64 t, .int .u64 lo, .int .u64 hi, .bool nu], .int .u64 (n : Int)] w (TabQ w base g rf mn mx hs (.slice A xs.length c) (fillV p n (t, lo, hi, nu) xs) 0) := by
  obtain ⟨wa, hwa⟩ : ∃ wa, wa = w.alloc (Obj.cells #[.int .i64 t, .int .u64 lo, .int .u64 hi, .bool nu] 26) := ⟨_, rfl⟩
  have hba : Below w.heap.size w wa := by rw [hwa]; exact (Below.refl _ _).alloc (Nat.le_refl _) _
  obtain ⟨pv, hpv⟩ : ∃ pv, pv = w.heap.size := ⟨_, rfl⟩
  have hv0 : wa.heap[pv]? = some (.cells #[.int .i64 t, .int .u64 lo, .int .u64 hi, .bool nu] 26 (0, 0)) := by rw [hwa, hpv]; exact heap_alloc_new w _
  have hT := H.below hba
  have HH := Lib.hid hT
  have H0 := Lib.hid H
  have HB := Lib.hid hb
  have HBA := Lib.hid hba
  have HPV := Lib.hid hpv
  have HV := Lib.hid hv0
  have hcB := hT.cellB
  have hlen := H.len
  have HP := Lib.hid h2
  clear H hb hT hba hv0
  go_enter Try.func25, Try.ntmps25
  go_upto_region 1 with fail
  rw [← hwa, ← hpv]
  clear hwa hpv
  go_wp2_with (go_at_call 32; refine (in_b (p : Int) (n : Int) xs.length _ true HB.out (by omega) (by omega)).mono ?_; rintro e w1 ⟨rfl, hb⟩; have HW := Lib.hid (HBA.out.trans (hb.mono HBA.out.size)); have HV1 := Lib.hid ((hb.block pv (blk_lt HV.out)).trans HV.out); clear hb hcB)
  go_loopw [24] (FillTR w base g pv rf mn mx hs (.slice A xs.length c) p n (t, lo, hi, nu) xs) (fun i _ => n - (intOf i).toNat)
  case atStart => exact ⟨0, rfl, Nat.zero_le _, by rw [fillV_zero]; exact H0.out.below HW.out, grown_of_below HW.out, HV1.out⟩
  case round =>
    obtain ⟨k, rfl, hk, hm, hg, hv⟩ := hrel
    have HM := Lib.hid hm
    have HG := Lib.hid hg
    have HVR := Lib.hid hv
    have hcB := hm.cellB
    clear hm hg
    by_cases hlt2 : k < n
    · have hfl := fillV_len (p := p) (k := k) (v := (t, lo, hi, nu)) (xs := xs) (by omega)
      have hM := HM.out
      rw [← hfl] at hM
      obtain ⟨g2, cap, hv2, hg2, _⟩ := hM.own.form (by rw [hfl]; omega)
      obtain ⟨rfl, _, rfl⟩ : A = some ⟨g2, 0, none⟩ ∧ True ∧ c = cap := by injection hv2 with h1 _ h3; exact ⟨h1, trivial, h3⟩
      have hne : pv ≠ g2 := fun e => by
        have := own_lt H0.out.own g2 rfl
        have := HPV.out
        omega
      obtain ⟨d0, d1, d2, d3⟩ := four4 hv
      obtain ⟨m, hm⟩ : ∃ m, m = p + k := ⟨_, rfl⟩
      have hset := fun v => hM.set (p + k) (by rw [hfl]; omega) v
      obtain ⟨y0, y1, y2, y3, k0, k1, k2, k3, j0, j1, j2, j3⟩ := own_four hM.own (p + k) (by rw [hfl]; omega)
      rw [← hm] at hset k0 k1 k2 k3 j0 j1 j2 j3
      have HSET := Lib.hid hset
      have HMM := Lib.hid hm
      have HNE := Lib.hid hne
      have HFL := Lib.hid hfl
      clear hM hset hm hne hv2 hg2 hfl hv
      have hsum : IntKind.u64.wrap ((p : Int) + (k : Int)) = (m : Int) := by have := HMM.out; have := HP.out; rw [IntKind.wrap_u64]; omega
      have hmlt : (m : Int) < (xs.length : Int) := by have := HMM.out; have := HP.out; omega
      go_upto_region 8 with fail
      go_still_tail 9, (by kernel_rfl)
      change wpList _ _ _ _ _ wr.drew
      go_wp2
      go_roundw
      case rel =>
        have hs := HSET.out (t, lo, hi, nu)
        rw [HMM.out, fillV_succ (by have := HP.out; omega), HFL.out, ← HMM.out] at hs
        have hd : Below (wr.setCells g2 (m * 4) (vc (t, lo, hi, nu))).heap.size (wr.setCells g2 (m * 4) (vc (t, lo, hi, nu))) (wr.setCells g2 (m * 4) (vc (t, lo, hi, nu))).drew := (Below.refl _ _).drew
        refine ⟨k + 1, by go_num, by omega, hs.1.below hd, ?_, ?_⟩
        · exact grown_trans HG.out (grown_trans hs.2 (grown_of_below hd))
        · exact (setCells_far (g := g2) (vc (t, lo, hi, nu)) (m * 4) pv HNE.out).trans HVR.out
      case measure => simp [intOf]; omega
    · have hkn : k = n := by omega
      have hge : (n : Int) ≤ k := by omega
      clear hlt2 hv
      subst hkn
      go_wp2
      go_ret
      exact ⟨rfl, by rw [fillV_len HP.out]; exact HM.out, HG.out⟩
set_option maxRecDepth 100000 in
theorem fillT_bad (w : World) (base g : Nat) (rf mn mx : Int) (hs : Bool) (A : Option Addr) (c : Nat) (xs : List V4) (H : TblI w base g rf mn mx hs (.slice A xs.length c) xs.length (cl xs)) (p n : Nat) (t lo hi : Int) (nu : Bool) (hb : inB p n xs.length = false) :
    Calls Try.prog 25 #[.pointer (some ⟨g, 0, none⟩), .int .u64 (p : Int), .agg #[.int .i64 t, .int .u64 lo, .int .u64 hi, .bool nu], .int .u64 (n : Int)] w (TabQ w base g rf mn mx hs (.slice A xs.length c) xs 45) := by
  obtain ⟨wa, hwa⟩ : ∃ wa, wa = w.alloc (Obj.cells #[.int .i64 t, .int .u64 lo, .int .u64 hi, .bool nu] 26) := ⟨_, rfl⟩
  have hba : Below w.heap.size w wa := by rw [hwa]; exact (Below.refl _ _).alloc (Nat.le_refl _) _
  have hT := H.below hba
  have HH := Lib.hid hT
  have H0 := Lib.hid H
  have HB := Lib.hid hb
  have HBA := Lib.hid hba
  have hcB := hT.cellB
  have hlen := H.len
  clear H hb hT hba
  go_enter Try.func25, Try.ntmps25
  go_upto_region 1 with fail
  rw [← hwa]
  clear hwa
  go_wp2_with (go_at_call 32; refine (in_b (p : Int) (n : Int) xs.length _ false HB.out (by omega) (by omega)).mono ?_; rintro e w1 ⟨rfl, hb⟩; have HW := Lib.hid (HBA.out.trans (hb.mono HBA.out.size)); clear hb hcB)
  go_ret
  exact ⟨rfl, H0.out.below HW.out, grown_of_below HW.out⟩
theorem fillT_c (w : World) (base g : Nat) (rf mn mx : Int) (hs : Bool) (v : Value) (xs : List V4) (H : TblI w base g rf mn mx hs v xs.length (cl xs)) (p n : Nat) (t lo hi : Int) (nu : Bool) :
    Calls Try.prog 25 #[.pointer (some ⟨g, 0, none⟩), .int .u64 (p : Int), .agg #[.int .i64 t, .int .u64 lo, .int .u64 hi, .bool nu], .int .u64 (n : Int)] w (TabQ w base g rf mn mx hs v (fillVF p n (t, lo, hi, nu) xs) (fillVE p n xs.length)) := by
  obtain ⟨A, c, rfl⟩ := own_slice H.own
  unfold fillVF fillVE
  rcases h1 : inB p n xs.length with _ | _
  · rw [if_neg (by simp), if_neg (by simp)]
    exact fillT_bad w base g rf mn mx hs A c xs H p n t lo hi nu h1
  · rw [if_pos rfl, if_pos rfl]
    have q := h1
    simp only [inB, decide_eq_true_eq] at q
    exact fillT_ok w base g rf mn mx hs A c xs H p n t lo hi nu h1 (by omega)
set_option maxRecDepth 100000 in
theorem setT_c (w : World) (base g : Nat) (rf mn mx : Int) (hs : Bool) (v : Value) (xs : List V4) (H : TblI w base g rf mn mx hs v xs.length (cl xs)) (p : Nat) (t lo hi : Int) (nu : Bool) :
    Calls Try.prog 23 #[.pointer (some ⟨g, 0, none⟩), .int .u64 (p : Int), .agg #[.int .i64 t, .int .u64 lo, .int .u64 hi, .bool nu]] w (TabQ w base g rf mn mx hs v (fillVF p 1 (t, lo, hi, nu) xs) (fillVE p 1 xs.length)) := by
  obtain ⟨wa, hwa⟩ : ∃ wa, wa = w.alloc (Obj.cells #[.int .i64 t, .int .u64 lo, .int .u64 hi, .bool nu] 26) := ⟨_, rfl⟩
  have hba : Below w.heap.size w wa := by rw [hwa]; exact (Below.refl _ _).alloc (Nat.le_refl _) _
  have hv0 : wa.heap[w.heap.size]? = some (.cells #[.int .i64 t, .int .u64 lo, .int .u64 hi, .bool nu] 26 (0, 0)) := by rw [hwa]; exact heap_alloc_new w _
  obtain ⟨pv, hpv⟩ : ∃ pv, pv = w.heap.size := ⟨_, rfl⟩
  rw [← hpv] at hv0
  obtain ⟨d0, d1, d2, d3⟩ := four4 hv0
  have HH := Lib.hid (H.below hba)
  have HBA := Lib.hid hba
  clear H hba hv0
  go_enter Try.func23, Try.ntmps23
  go_upto_region 1 with fail
  rw [← hwa, ← hpv]
  clear hwa hpv
  go_wp2_with (go_at_call 25; refine (fillT_c wa base g rf mn mx hs v xs HH.out p 1 t lo hi nu).mono ?_; intro e w1 hq; obtain ⟨he, hm, hg⟩ := hq.out; subst he; have HM := Lib.hid hm; have HG := Lib.hid hg; clear hq hm hg)
  go_ret
  exact ⟨rfl, HM.out, grown_below HBA.out HG.out⟩
theorem cut38u (A : Option Addr) (n c p : Nat) (hp : p ≤ n) : ∀ W : World, (Instr.slice 38 (.slice A n c) (some (.int .u64 (p : Int))) none none).run Try.prog W = .ok (.slice (if c = p then A else A.map (·.add (p * 4))) (n - p) (c - p)) W := by
  intro W
  obtain ⟨i, hi, hz⟩ := Option.map_eq_some_iff.1 size26
  have ht := Try.underlying38
  have hel : Try.prog.elem 38 = 26 := by simp [Program.elem, ht]
  have hu : Try.prog.underlying 38 = some (.slice (Try.prog.elem 38)) := by rw [hel]; exact ht
  rw [run_slice_l W 38 A n c hu .u64 (p : Int) (Int.natCast_nonneg _) (by omega), hel]
  simp [sizeOf, typeInfo, hi, hz, sliced, Result.andThen]
theorem take38u (A : Option Addr) (n c p : Nat) (hp : p ≤ c) : ∀ W : World, (Instr.slice 38 (.slice A n c) none (some (.int .u64 (p : Int))) none).run Try.prog W = .ok (.slice A p c) W := by
  intro W
  obtain ⟨i, hi, hz⟩ := Option.map_eq_some_iff.1 size26
  have ht := Try.underlying38
  have hel : Try.prog.elem 38 = 26 := by simp [Program.elem, ht]
  have hu : Try.prog.underlying 38 = some (.slice (Try.prog.elem 38)) := by rw [hel]; exact ht
  rw [run_slice_h W 38 A n c hu .u64 (p : Int) (Int.natCast_nonneg _) (by omega), hel]
  simp [sizeOf, typeInfo, hi, hz, sliced, Result.andThen]
  intro h; cases A <;> simp [Addr.add]
theorem mid38 (A : Option Addr) (n c f k : Nat) (hc : n ≤ c) (hp : f + k ≤ n) : ∀ W : World, (Instr.slice 38 (.slice A n c) (some (.int .u64 (f : Int))) (some (.int .u64 ((f : Int) + (k : Int)))) none).run Try.prog W = .ok (.slice (if c = f then A else A.map (·.add (f * 4))) k (c - f)) W := by
  intro W
  obtain ⟨i, hi, hz⟩ := Option.map_eq_some_iff.1 size26
  have ht := Try.underlying38
  have hel : Try.prog.elem 38 = 26 := by simp [Program.elem, ht]
  have hu : Try.prog.underlying 38 = some (.slice (Try.prog.elem 38)) := by rw [hel]; exact ht
  rw [run_slice_lh W 38 A n c hu .u64 .u64 (f : Int) ((f : Int) + (k : Int)) (Int.natCast_nonneg _) (by omega) (by omega), hel]
  have e : ((f : Int) + (k : Int)).toNat = f + k := by omega
  simp [sizeOf, typeInfo, hi, hz, sliced, Result.andThen, e]
/-- A cut of a row that is read. -/
theorem reads4_cut {w : World} {A : Option Addr} {c f k : Nat} {l : List V4} (h : Reads4 w A l.length (cl l)) (hc : l.length ≤ c) (hp : f + k ≤ l.length) : Reads4 w (if c = f then A else A.map (·.add (f * 4))) k (cl ((l.drop f).take k)) := by
  refine ⟨by rw [cl_len, List.length_take, List.length_drop]; omega, cl_one _, fun h0 => ?_⟩
  obtain ⟨ad, rfl, hcell⟩ := h.at_ (by omega)
  rw [if_neg (by omega)]
  refine ⟨ad.add (f * 4), rfl, fun j u hj => ?_⟩
  rw [Go.Proofs.YtlllbgmnheikgaaW.PrintWords.add_add]
  refine hcell _ u ?_
  rw [← hj, ← cl_take, ← cl_drop]
  have hjl : j < ((l.drop f).take k).length * 4 := by
    rcases Nat.lt_or_ge j (((l.drop f).take k).length * 4) with h | h
    · exact h
    · rw [List.getElem?_eq_none (by rw [cl_len]; exact h)] at hj; cases hj
  rw [List.length_take, List.length_drop] at hjl
  rw [List.getElem?_take, if_pos (by omega), List.getElem?_drop]
theorem own_le4 {w : World} {base c : Nat} {A : Option Addr} {n : Nat} {xs : List Value} (H : w.ownsRow base 26 4 (.slice A n c) n xs) : n ≤ c := by
  rcases H.2 with ⟨hv, h0⟩ | ⟨g', cap, cur, hv, _, _, hnc, _⟩
  · omega
  · injection hv with _ _ h3; omega
set_option maxRecDepth 100000 in
theorem initT_ok (w : World) (base g : Nat) (rf mn mx : Int) (hs : Bool) (A : Option Addr) (c : Nat) (xs : List V4) (H : TblI w base g rf mn mx hs (.slice A xs.length c) xs.length (cl xs)) (p f n : Nat) (A2 : Option Addr) (c2 : Nat) (ys : List V4)
    (hr : Reads4 w A2 ys.length (cl ys)) (hc2 : ys.length ≤ c2) (hy : ys.length ≤ 140737488351232) (h1 : f + n ≤ ys.length) (h2 : p + n ≤ xs.length) (hb1 : inB f n ys.length = true) (hb2 : inB p n xs.length = true) :
    Calls Try.prog 27 #[.pointer (some ⟨g, 0, none⟩), .int .u64 (p : Int), .int .u64 (f : Int), .int .u64 (n : Int), .slice A2 ys.length c2] w (TabQ w base g rf mn mx hs (.slice A xs.length c) (xs.take p ++ ((ys.drop f).take n ++ xs.drop (p + n))) 0) := by
  have hcB := H.cellB
  have HH := Lib.hid H
  have hcut := cut38u A xs.length c p (by omega)
  have hmid := mid38 A2 ys.length c2 f n hc2 h1
  have HRC := Lib.hid (reads4_cut hr hc2 h1)
  obtain ⟨D, hD⟩ : ∃ D, D = (if c = p then A else A.map (·.add (p * 4))) := ⟨_, rfl⟩
  obtain ⟨D2, hD2⟩ : ∃ D2, D2 = (if c2 = f then A2 else A2.map (·.add (f * 4))) := ⟨_, rfl⟩
  rw [← hD] at hcut
  rw [← hD2] at hmid HRC
  have HD := Lib.hid hD
  have HB1 := Lib.hid hb1
  have HB2 := Lib.hid hb2
  have hlen := H.len
  clear H hr hD hD2 hb1 hb2
  go_enter Try.func27, Try.ntmps27
  go_wp2_with (first | (go_at_call 32; ((with_reducible refine (in_b (f : Int) (n : Int) ys.length _ true HB1.out (by omega) (by omega)).mono ?_)); rintro e w1 ⟨rfl, hb⟩; clear hcB; have hcB := (HH.out.below hb).cellB; have HW1 := Lib.hid hb; clear hb) | (go_at_call 32; ((with_reducible refine (in_b (p : Int) (n : Int) xs.length _ true HB2.out (by omega) (by omega)).mono ?_)); rintro e w2 ⟨rfl, hb⟩; clear hcB; have HW2 := Lib.hid (HW1.out.trans (hb.mono HW1.out.size)); have hcB := (HH.out.below HW2.out).cellB; clear hb))
  have hsum : IntKind.u64.wrap ((f : Int) + (n : Int)) = (f : Int) + (n : Int) := by rw [IntKind.wrap_u64]; omega
  go_still_tail 12, (by kernel_rfl)
  change wpList _ _ _ _ _ w2.drew
  have HW3 := Lib.hid HW2.out.drew
  generalize w2.drew = w3 at HW3 ⊢
  obtain ⟨w4, hcp, hown, hgr⟩ := copy_at4 w3 base xs.length c p n (c2 - f) A D2 (cl xs) (cl ((ys.drop f).take n)) 3 (by omega) (HH.out.below HW3.out).own (reads4_below HRC.out HW3.out)
  have hl2 : ((ys.drop f).take n).length = n := by rw [List.length_take, List.length_drop]; omega
  rw [← HD.out, show min n (xs.length - p) = n by omega] at hcp
  rw [show min n (xs.length - p) = n by omega, cl_take, cl_take, cl_drop, ← cl_app, ← cl_app, List.take_of_length_le (l := (ys.drop f).take n) (by omega)] at hown
  refine step_copy rfl (.tmp 37) (.tmp 43) 38 38 rfl _ _ _ w4 rfl rfl hcp ?_
  go_wp2_with fail
  go_ret
  have e : (xs.take p ++ ((ys.drop f).take n ++ xs.drop (p + n))).length = xs.length := by simp only [List.length_append, List.length_take, List.length_drop]; omega
  refine ⟨rfl, ⟨(hgr.block g (by have := blk_lt (HH.out.below HW3.out).blk; exact this) (HH.out.ne)).trans (HH.out.below HW3.out).blk, by rw [e]; exact hown, cl_one _, HH.out.ge, by rw [e]; exact HH.out.len⟩, grown_below HW3.out hgr⟩
set_option maxRecDepth 100000 in
theorem initT_bad1 (w : World) (base g : Nat) (rf mn mx : Int) (hs : Bool) (v : Value) (xs : List V4) (H : TblI w base g rf mn mx hs v xs.length (cl xs)) (p f n : Nat) (A2 : Option Addr) (c2 : Nat) (ys : List V4)
    (hy : ys.length ≤ 140737488351232) (hb1 : inB f n ys.length = false) :
    Calls Try.prog 27 #[.pointer (some ⟨g, 0, none⟩), .int .u64 (p : Int), .int .u64 (f : Int), .int .u64 (n : Int), .slice A2 ys.length c2] w (TabQ w base g rf mn mx hs v xs 45) := by
  have HH := Lib.hid H
  have HB1 := Lib.hid hb1
  clear H hb1
  go_enter Try.func27, Try.ntmps27
  go_wp2_with (go_at_call 32; refine (in_b (f : Int) (n : Int) ys.length _ false HB1.out (by omega) (by omega)).mono ?_; rintro e w1 ⟨rfl, hb⟩; have HW1 := Lib.hid hb; clear hb)
  go_ret
  exact ⟨rfl, HH.out.below HW1.out, grown_of_below HW1.out⟩
set_option maxRecDepth 100000 in
theorem initT_bad2 (w : World) (base g : Nat) (rf mn mx : Int) (hs : Bool) (A : Option Addr) (c : Nat) (xs : List V4) (H : TblI w base g rf mn mx hs (.slice A xs.length c) xs.length (cl xs)) (p f n : Nat) (A2 : Option Addr) (c2 : Nat) (ys : List V4)
    (hy : ys.length ≤ 140737488351232) (hb1 : inB f n ys.length = true) (hb2 : inB p n xs.length = false) :
    Calls Try.prog 27 #[.pointer (some ⟨g, 0, none⟩), .int .u64 (p : Int), .int .u64 (f : Int), .int .u64 (n : Int), .slice A2 ys.length c2] w (TabQ w base g rf mn mx hs (.slice A xs.length c) xs 45) := by
  have HH := Lib.hid H
  have HB1 := Lib.hid hb1
  have HB2 := Lib.hid hb2
  have hcB := H.cellB
  have hlen := H.len
  clear H hb1 hb2
  go_enter Try.func27, Try.ntmps27
  go_wp2_with (first | (go_at_call 32; ((with_reducible refine (in_b (f : Int) (n : Int) ys.length _ true HB1.out (by omega) (by omega)).mono ?_)); rintro e w1 ⟨rfl, hb⟩; clear hcB; have hcB := (HH.out.below hb).cellB; have HW1 := Lib.hid hb; clear hb) | (go_at_call 32; ((with_reducible refine (in_b (p : Int) (n : Int) xs.length _ false HB2.out (by omega) (by omega)).mono ?_)); rintro e w2 ⟨rfl, hb⟩; clear hcB; have HW2 := Lib.hid (HW1.out.trans (hb.mono HW1.out.size)); clear hb))
  go_ret
  exact ⟨rfl, HH.out.below HW2.out, grown_of_below HW2.out⟩
theorem initT_c (w : World) (base g : Nat) (rf mn mx : Int) (hs : Bool) (v : Value) (xs : List V4) (H : TblI w base g rf mn mx hs v xs.length (cl xs)) (p f n : Nat) (A2 : Option Addr) (c2 : Nat) (ys : List V4)
    (hr : Reads4 w A2 ys.length (cl ys)) (hc2 : ys.length ≤ c2) (hy : ys.length ≤ 140737488351232) :
    Calls Try.prog 27 #[.pointer (some ⟨g, 0, none⟩), .int .u64 (p : Int), .int .u64 (f : Int), .int .u64 (n : Int), .slice A2 ys.length c2] w (TabQ w base g rf mn mx hs v (initV p f n ys xs) (tabE p f n ys.length xs.length)) := by
  obtain ⟨A, c, rfl⟩ := own_slice H.own
  unfold initV tabE
  rcases h1 : inB f n ys.length with _ | _
  · rw [if_neg (by simp), if_neg (by simp)]
    exact initT_bad1 w base g rf mn mx hs _ xs H p f n A2 c2 ys hy h1
  · rcases h2 : inB p n xs.length with _ | _
    · rw [if_neg (by simp), if_neg (by simp)]
      exact initT_bad2 w base g rf mn mx hs A c xs H p f n A2 c2 ys hy h1 h2
    · rw [if_pos ⟨rfl, rfl⟩, if_pos ⟨rfl, rfl⟩]
      have q1 := h1
      have q2 := h2
      simp only [inB, decide_eq_true_eq] at q1 q2
      exact initT_ok w base g rf mn mx hs A c xs H p f n A2 c2 ys hr hc2 hy (by omega) (by omega) h1 h2
/-- Copy, from a table that may be itself. -/
theorem copyT_c (w : World) (base g : Nat) (rf mn mx : Int) (hs : Bool) (v : Value) (xs : List V4) (H : TblI w base g rf mn mx hs v xs.length (cl xs)) (p f n : Nat) (b2 g2 : Nat) (rf2 mn2 mx2 : Int) (hs2 : Bool) (v2 : Value) (ys : List V4) (H2 : TblI w b2 g2 rf2 mn2 mx2 hs2 v2 ys.length (cl ys)) :
    Calls Try.prog 26 #[.pointer (some ⟨g, 0, none⟩), .int .u64 (p : Int), .int .u64 (f : Int), .int .u64 (n : Int), .pointer (some ⟨g2, 0, none⟩)] w (TabQ w base g rf mn mx hs v (initV p f n ys xs) (tabE p f n ys.length xs.length)) := by
  obtain ⟨A2, c2, rfl⟩ := own_slice H2.own
  have HH := Lib.hid H
  have HH2 := Lib.hid H2
  have hcB := H2.cellB
  have hlen := H2.len
  clear H H2
  go_enter Try.func26, Try.ntmps26
  go_wp2_with (go_at_call 27; refine (initT_c w base g rf mn mx hs v xs HH.out p f n A2 c2 ys (own_reads4 HH2.out.own (cl_one _)).1 (own_le4 HH2.out.own) (by omega)).mono ?_; intro e w1 hq; obtain ⟨he, hm, hgr⟩ := hq.out; subst he; have HM := Lib.hid hm; have HG := Lib.hid hgr; clear hq hm hgr)
  go_ret
  exact ⟨rfl, HM.out, HG.out⟩
set_option maxRecDepth 100000 in
theorem get_bad (w : World) (base g : Nat) (rf mn mx : Int) (hs : Bool) (v : Value) (xs : List V4) (H : TblI w base g rf mn mx hs v xs.length (cl xs)) (i : Nat) (hi : xs.length ≤ i) :
    Calls Try.prog 28 #[.pointer (some ⟨g, 0, none⟩), .int .u64 (i : Int)] w fun e w' => e = .returned (.tuple #[.agg #[.int .i64 0, .int .u64 0, .int .u64 0, .bool false], .int .i64 45]) ∧ Below w.heap.size w w' := by
  obtain ⟨A, c, rfl⟩ := own_slice H.own
  have hin : inB i ((1 : Nat) : Int) xs.length = false := by unfold inB; rw [decide_eq_false_iff_not]; omega
  have HIN := Lib.hid hin
  obtain ⟨wa, hwa⟩ : ∃ wa, wa = w.alloc (Obj.cells #[.int .i64 0, .int .u64 0, .int .u64 0, .bool false] 26) := ⟨_, rfl⟩
  have hba : Below w.heap.size w wa := by rw [hwa]; exact (Below.refl _ _).alloc (Nat.le_refl _) _
  have hv1 : wa.heap[w.heap.size]? = some (.cells #[.int .i64 0, .int .u64 0, .int .u64 0, .bool false] 26 (0, 0)) := by rw [hwa]; exact heap_alloc_new w _
  obtain ⟨pv, hpv⟩ : ∃ pv, pv = w.heap.size := ⟨_, rfl⟩
  rw [← hpv] at hv1
  have hT := H.below hba
  have hcB := hT.cellB
  have hlen := H.len
  have HBA := Lib.hid hba
  have HV := Lib.hid hv1
  have HPV := Lib.hid hpv
  clear H hT hba hv1 hin
  go_enter Try.func28, Try.ntmps28
  go_upto_region 1 with fail
  rw [← hwa, ← hpv]
  clear hwa hpv
  go_wp2_with (go_at_call 32; refine (in_b (i : Int) 1 xs.length _ false HIN.out (by omega) (by omega)).mono ?_; rintro e w1 ⟨rfl, hb⟩; have HW := Lib.hid (HBA.out.trans (hb.mono HBA.out.size)); have hv1 := (hb.block pv (blk_lt HV.out)).trans HV.out; have HV1 := Lib.hid hv1; have f0 := blk_frozen hv1 0; have f1 := blk_frozen hv1 1; have f2 := blk_frozen hv1 2; have f3 := blk_frozen hv1 3; have e0 := (blk_cell hv1 0).trans (show _ = some (Value.int .i64 0) from rfl); have e1 := (blk_cell hv1 1).trans (show _ = some (Value.int .u64 0) from rfl); have e2 := (blk_cell hv1 2).trans (show _ = some (Value.int .u64 0) from rfl); have e3 := (blk_cell hv1 3).trans (show _ = some (Value.bool false) from rfl); clear hb hcB hv1)
  have hfin : ((((w1.setCell ⟨pv, 0, none⟩ (.int .i64 0)).setCell ⟨pv, 1, none⟩ (.int .u64 0)).setCell ⟨pv, 2, none⟩ (.int .u64 0)).setCell ⟨pv, 3, none⟩ (.bool false)).heap[pv]? = some (.cells #[.int .i64 0, .int .u64 0, .int .u64 0, .bool false] 26 (0, 0)) := by
    have h4 := blk_set (blk_set (blk_set (blk_set HV1.out 0 (.int .i64 0)) 1 (.int .u64 0)) 2 (.int .u64 0)) 3 (.bool false)
    simpa using h4
  have hp : w.heap.size ≤ pv := by rw [HPV.out]; exact Nat.le_refl _
  refine bodyPost_ret (results_ct rfl _ _ pv 26 _ (0, 0) _ rfl hfin Try.underlying26 rfl size26) rfl ⟨rfl, ?_⟩
  exact (((HW.out.setCell (p := ⟨pv, 0, none⟩) hp _).setCell (p := ⟨pv, 1, none⟩) hp _).setCell (p := ⟨pv, 2, none⟩) hp _).setCell (p := ⟨pv, 3, none⟩) hp _
end Go.Proofs.Ytlllbgmnheikgaa.St
