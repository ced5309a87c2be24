/-
  The walk of the law StoreBack, the good case. No condition but that of every slice that is read: it takes no more than 2^47 bytes.
-/
import Derived.Test.YtlllbgmnheikgaaStL
import Derived.Deep.QuietTactic
import Derived.OpenShut
namespace Go.Proofs.Ytlllbgmnheikgaa.St
set_option linter.unusedVariables false
set_option linter.unusedSimpArgs false
open Go.ChangeShapes Go.WideShapes Go.RowKit Go.Proofs.YtlllbgmnheikgaaW.PrintWords Go.Proofs.Ytlllbgmnheikgaa.PStoreNone

theorem bytesOf_str (xs : List Int) (h : ∀ x ∈ xs, 0 ≤ x ∧ x ≤ 255) : bytesOf (strOfNums xs) = xs := by
  unfold bytesOf
  rw [strOfNums_data, List.map_map]
  conv => rhs; rw [← List.map_id xs]
  refine List.map_congr_left fun x hx => ?_
  obtain ⟨a, b⟩ := h x hx
  simp only [Function.comp, id]
  rw [UInt8.toNat_ofNat']
  omega
theorem ext_str (xs : List Int) (f n : Nat) : (strOfNums xs).extract f (f + n) = strOfNums ((xs.drop f).take n) := by
  unfold strOfNums
  rw [ByteArray.extract_mk, Nat.add_sub_cancel_left, List.map_take, List.map_drop]
theorem cut_str (xs : List Int) (f n : Nat) (h : f + n ≤ xs.length) : ∀ W, (Instr.slice 9 (.string (strOfNums xs)) (some (.int .u64 (f : Int))) (some (.int .u64 ((f : Int) + (n : Int)))) none).run Try.prog W = .ok (.string (strOfNums ((xs.drop f).take n))) W := by
  intro W
  have e : ((f : Int) + (n : Int)).toNat = f + n := by omega
  rw [run_slice_string W 9 (strOfNums xs) .u64 .u64 (f : Int) ((f : Int) + (n : Int)) Try.underlying9 (by omega) (by omega) (by rw [strOfNums_size]; omega), Int.toNat_natCast, e, ext_str]
set_option maxHeartbeats 1000000 in
set_option maxRecDepth 100000 in
theorem back_good (A : Option Addr) (c : Nat) (xs : List Int) (p f n : Nat) (w : World) (hl : (xs.length : Int) ≤ 2000) (hr : ReadsInt w .u8 A xs.length xs) (hwf : ∀ x ∈ xs, 0 ≤ x ∧ x ≤ 255) (hc : xs.length ≤ c) (h1 : inB f n xs.length = true) (h2 : inB p n xs.length = true) (hf : f + n ≤ xs.length) (hp : p + n ≤ xs.length) :
    Calls Try.prog 5 #[.slice A xs.length c, .int .u64 (p : Int), .int .u64 (f : Int), .int .u64 (n : Int)] w fun e w' => e = .returned (.bool true) ∧ Below w.heap.size w w' := by
  obtain ⟨ys, hys⟩ : ∃ ys, ys = xs.take p ++ ((xs.drop f).take n ++ xs.drop (p + n)) := ⟨_, rfl⟩
  have hx : initF p f n xs xs = ys := by unfold initF; rw [if_pos ⟨h1, h2⟩, hys]
  have he : initE p f n xs.length xs.length = 0 := by unfold initE; rw [if_pos ⟨h1, h2⟩]
  have HX := Lib.hid hx
  have HE := Lib.hid he
  have HR := Lib.hid hr
  have HLN : Hid ((([] : List Int).length + xs.length) * 1 ≤ 140737488355328) := Lib.hid (by simp; omega)
  clear hx he hr
  go_enter Try.func5, Try.ntmps5
  go_upto_region 8 with (first | (go_at_call 8; refine (awake_c _).mono ?_; rintro e w1 ⟨rfl, hb⟩; have HB := Lib.hid hb; have HR1 := Lib.hid (HR.out.below hb); clear hb) | (at_builtin; refine print_append_row (w0 := w) w.heap.size rfl (.tmp 21) (.tmp 22) 29 5 .u8 1 rfl Try.underlying29 info5 (by decide) (.slice none 0 0) [] xs A xs.length c rfl rfl (own_nil _ _ _ _) HR1.out HB.out HB.out.size HLN.out ?_; intro v1 w2 hown hbl hg hat; obtain ⟨A2, c2, rfl⟩ := own_slice hown; have HO := Lib.hid hown; have HB2 := Lib.hid hbl; clear hown hbl hg hat))
  have HM : Hid (MemI (w2.alloc (.cells #[.int .i64 0, .int .i64 0, .bool false, .slice A2 xs.length c2] 31)) w.heap.size w2.heap.size 0 0 false (.slice A2 xs.length c2) xs) := Lib.hid
    ⟨heap_alloc_new _ _, own_alloc (by simpa using HO.out) _, HB2.out.size, by omega⟩
  have HB3 := Lib.hid (HB2.out.alloc HB2.out.size (.cells #[.int .i64 0, .int .i64 0, .bool false, .slice A2 xs.length c2] 31))
  have hcv := string_of_reads (P := Try.prog) (src := 29) (dst := 9) (c := c) Try.underlying29 Try.underlying5 Try.underlying9 (HR.out.below HB3.out)
  go_upto_region 10 with fail
  generalize w2.alloc (.cells #[.int .i64 0, .int .i64 0, .bool false, .slice A2 xs.length c2] 31) = w3 at HM HB3 hcv ⊢
  clear hcv
  go_wp2_with (go_at_call 19; have hcp := copy_c w3 w.heap.size w2.heap.size 0 0 false (.slice A2 xs.length c2) xs HM.out p f n; rw [HX.out, HE.out] at hcp; refine hcp.mono ?_; intro e w4 hq; obtain ⟨he, hm, hg⟩ := hq.out; subst he; have hcB := hm.cellB; have HM4 := Lib.hid hm; have HB4 := Lib.hid (HB3.out.grown hg HB3.out.size (own_base HM.out.own)); clear hq hm hg hcp)
  have hyl : ys.length = xs.length := by
    rw [hys]; simp only [List.length_append, List.length_take, List.length_drop]; omega
  have hm5 : MemI w4 w.heap.size w2.heap.size 0 0 false (.slice A2 ys.length c2) ys := by rw [hyl]; exact HM4.out
  have hrd := hm5.reads
  rw [hyl] at hrd
  have hmid := mid29 A2 xs.length c2 p n hrd.2 hp
  obtain ⟨D2, hD2⟩ : ∃ D2, D2 = (if c2 = p then A2 else A2.map (·.add p)) := ⟨_, rfl⟩
  rw [← hD2] at hmid
  obtain ⟨zs, hzs⟩ : ∃ zs, zs = (xs.drop f).take n := ⟨_, rfl⟩
  have hzy : (ys.drop p).take n = zs := by
    have l1 : (xs.take p).length = p := by rw [List.length_take]; omega
    have l2 : zs.length = n := by rw [hzs, List.length_take, List.length_drop]; omega
    rw [hys, ← hzs, List.drop_append_of_le_length (by omega), List.drop_of_length_le (by omega), List.nil_append, List.take_append_of_le_length (by omega), List.take_of_length_le (by omega)]
  have hcv : ∀ k, (convert 29 9 (.slice D2 n (c2 - p))).run Try.prog (w4.drewN k) = .ok (.string (strOfNums zs)) (w4.drewN k) := fun k => by
    have := ((hrd.1.drop_ (c := c2) p (by omega) hrd.2).take_ n (by omega)).below (pw_below_drewN (Below.refl _ _) k)
    rw [hzy, ← hD2] at this
    exact string_of_reads (P := Try.prog) Try.underlying29 Try.underlying5 Try.underlying9 this
  have hst := cut_str xs f n hf
  have hst2 := cut_str xs p n hp
  rw [← hzs] at hst
  obtain ⟨us, hus⟩ : ∃ us, us = (xs.drop p).take n := ⟨_, rfl⟩
  rw [← hus] at hst2
  have hs1 : IntKind.u64.wrap ((f : Int) + (n : Int)) = (f : Int) + (n : Int) := by rw [IntKind.wrap_u64]; omega
  have hs2 : IntKind.u64.wrap ((p : Int) + (n : Int)) = (p : Int) + (n : Int) := by rw [IntKind.wrap_u64]; omega
  have HYS := Lib.hid hys
  have HZS := Lib.hid hzs
  have HUS := Lib.hid hus
  have HYL := Lib.hid hyl
  have HD2 := Lib.hid hD2
  have HF := Lib.hid hf
  have HP := Lib.hid hp
  clear hys hzs hyl hD2 hm5 hrd hzy hus
  go_quiet (fail)
  by_cases ho : (p : Int) < (f : Int) + (n : Int) ∧ (f : Int) < (p : Int) + (n : Int)
  · obtain ⟨o1, o2⟩ := ho
    clear hcv hst hst2 hmid hcB
    go_wp2
    go_ret
    exact ⟨rfl, pw_below_drewN HB4.out _⟩
  · have HO := Lib.hid ho
    clear ho
    have hsz : (strOfNums us).size = us.length := strOfNums_size us
    have hbo : bytesOf (strOfNums us) = us := bytesOf_str us (fun x hx => by rw [HUS.out] at hx; exact hwf x (List.mem_of_mem_drop (List.mem_of_mem_take hx)))
    have hul : us.length = n := by rw [HUS.out, List.length_take, List.length_drop]; have := HP.out; omega
    have kb := fun W => print_bytes (P := Try.prog) 9 29 5 Try.underlying9 Try.underlying29 Try.underlying5 (strOfNums us) W
    rw [hsz] at kb
    obtain ⟨S, hS⟩ : ∃ S, S = strOfNums us := ⟨_, rfl⟩
    rw [← hS] at kb hst2 hbo hsz
    have HS := Lib.hid hS
    have HSZ := Lib.hid hsz
    have HBO := Lib.hid hbo
    have HUL := Lib.hid hul
    have HWQ : Hid (∀ q, True ∧ Below w.heap.size w (Lib.bytesWorld (w4.drewN q) 5 S) ∧ Calls Try.prog 15 #[.pointer (some ⟨w2.heap.size, 0, none⟩), .int .u64 (p : Int), .slice (some ⟨w4.heap.size, 0, none⟩) us.length (grownCap (w4.drewN q) us.length 0 5)] (Lib.bytesWorld (w4.drewN q) 5 S) (InitQ (Lib.bytesWorld (w4.drewN q) 5 S) w.heap.size w2.heap.size 0 0 false (.slice A2 xs.length c2) xs 0)) := Lib.hid fun q => by
      have b0 : Below w4.heap.size w4 (Lib.bytesWorld (w4.drewN q) 5 S) := bytes_below (pw_below_drewN (Below.refl _ _) q) (Nat.le_refl _) 5 S
      have hr := bytes_reads (w4.drewN q) 5 S (by rw [hsz]; omega)
      rw [hbo, hsz] at hr
      have h := write_c _ w.heap.size w2.heap.size 0 0 false (.slice A2 xs.length c2) ys (HM4.out.below b0) p (some ⟨w4.heap.size, 0, none⟩) (grownCap (w4.drewN q) us.length 0 5) us hr (grownCap_ge _ _ _ _) (by omega)
      have q1 : inB ((0 : Nat) : Int) (us.length : Int) us.length = true := by unfold inB; rw [decide_eq_true_eq]; omega
      have q2 : inB (p : Int) (us.length : Int) ys.length = true := by rw [HYL.out, hul]; exact h2
      have e1 : initE p 0 us.length us.length ys.length = 0 := by unfold initE; exact if_pos ⟨q1, q2⟩
      have e2 : initF p 0 us.length us ys = xs := by
        unfold initF
        rw [if_pos ⟨q1, q2⟩, List.drop_zero, List.take_of_length_le (Nat.le_refl _), hul, HUS.out, HYS.out]
        exact back_plain xs p f n HP.out HF.out
      rw [e1, e2] at h
      exact ⟨trivial, HB4.out.trans (b0.mono HB4.out.size), h⟩
    clear hcv hst hmid hcB hS hsz hbo hul
    by_cases o1 : (p : Int) < (f : Int) + (n : Int)
    all_goals
      first
      | (have o2 : (p : Int) + (n : Int) ≤ (f : Int) := by have := HO.out; omega
         go_wp2_with (go_at_call 15; refine (HWQ.out _).2.2.mono ?_; intro e w6 hq; obtain ⟨he, hm, hg⟩ := hq.out; subst he; have hcB := hm.cellB; have hcv := own_string (P := Try.prog) (src := 29) (dst := 9) Try.underlying29 Try.underlying5 Try.underlying9 hm.own; have HB6 := Lib.hid ((HWQ.out _).2.1.grown hg (HWQ.out _).2.1.size (own_base hm.own)); clear hq hm hg)
         go_ret
         exact ⟨rfl, HB6.out⟩)
      | (have o2 : (f : Int) + (n : Int) ≤ (p : Int) := by omega
         clear o1
         go_wp2_with (go_at_call 15; refine (HWQ.out _).2.2.mono ?_; intro e w6 hq; obtain ⟨he, hm, hg⟩ := hq.out; subst he; have hcB := hm.cellB; have hcv := own_string (P := Try.prog) (src := 29) (dst := 9) Try.underlying29 Try.underlying5 Try.underlying9 hm.own; have HB6 := Lib.hid ((HWQ.out _).2.1.grown hg (HWQ.out _).2.1.size (own_base hm.own)); clear hq hm hg)
         go_ret
         exact ⟨rfl, HB6.out⟩)
theorem back_walk (a0 : Option Addr) (len0 cap0 : Nat) (z0 : List Int) (a1 a2 a3 : Int) (w : World) (w0 : (a0 = none ∧ len0 = 0 ∧ cap0 = 0 ∧ z0 = []) ∨ ∃ x, a0 = some x ∧ len0 ≤ cap0 ∧ cap0 ≤ maxLen ∧ z0.length = cap0 ∧ (∀ i, i < z0.length → w.cell? (x.add i) = some (.int .u8 (z0.getD i 0))) ∧ ∀ n ∈ z0, (Lit.int .u8 n).wf = true) (y0 : len0 * 1 ≤ 140737488351232) (w1 : (Lit.int .u64 a1).wf = true) (w2 : (Lit.int .u64 a2).wf = true) (w3 : (Lit.int .u64 a3).wf = true) :
    Calls Try.prog 5 #[.slice a0 len0 cap0, .int .u64 a1, .int .u64 a2, .int .u64 a3] w fun e w' => e = .returned (.bool true) ∧ Below w.heap.size w w' := by
  obtain ⟨l0, rfl, hr0, hm0, hw0, hc0⟩ := ReadsInt.ofRowC w0
  obtain ⟨q1, _⟩ := bounds_u64 w1
  obtain ⟨p, rfl⟩ := Int.eq_ofNat_of_zero_le q1
  obtain ⟨q2, _⟩ := bounds_u64 w2
  obtain ⟨f, rfl⟩ := Int.eq_ofNat_of_zero_le q2
  obtain ⟨q3, _⟩ := bounds_u64 w3
  obtain ⟨n, rfl⟩ := Int.eq_ofNat_of_zero_le q3
  by_cases h : (l0.length : Int) > 2000
  · exact back_big a0 cap0 l0.length _ _ _ w h
  · by_cases hi : inB f n l0.length = true ∧ inB p n l0.length = true
    · obtain ⟨h1, h2⟩ := hi
      have e1 := h1
      have e2 := h2
      unfold inB at e1 e2
      rw [decide_eq_true_eq] at e1 e2
      exact back_good a0 cap0 l0 p f n w (by omega) hr0 (fun x hx => by have := bounds_u8 (hw0 x hx); omega) hc0 h1 h2 (by omega) (by omega)
    · exact back_trap a0 cap0 l0 p f n w (by omega) hr0 hc0 (by unfold initE; exact if_neg hi)
end Go.Proofs.Ytlllbgmnheikgaa.St
