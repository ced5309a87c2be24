/-
  The walk of slices.Repeat over values (store). No condition but that the row is one value.
-/
import Derived.Test.YtlllbgmnheikgaaStF
import Derived.Laws.BitsLemmas
import Derived.Deep.RegionWith
namespace Go.Proofs.Ytlllbgmnheikgaa.St
set_option linter.unusedVariables false
set_option linter.unusedSimpArgs false
open Go.RowKit Go.Proofs.YtlllbgmnheikgaaW.PrintWords Go.Proofs.Ytlllbgmnheikgaa.PStoreNone

theorem and32 (x : Int) (h0 : 0 ≤ x) (h1 : x < 18446744073709551616) : Go.bits .and .u64 x 4294967295 = x % 4294967296 := by
  have p64 : (2 : Int) ^ 64 = 18446744073709551616 := by decide
  have h := Go.bits_mask .u64 64 (by decide) (fun n a b => by rw [p64] at b; rw [IntKind.wrap_u64]; omega) 32 (by decide) x h0 (by rw [p64]; exact h1)
  have p32 : (2 : Int) ^ 32 = 4294967296 := by decide
  rw [p32] at h
  exact h
theorem mul_one (n : Nat) (hn : n < 4294967296) : bits_Mul.f 1 (n : Int) = some (0, (n : Int)) := by
  have e1 : Go.bits .and .u64 (1 : Int) 4294967295 = 1 := by rw [and32 _ (by omega) (by omega)]; rfl
  have e2 : Go.bits .and .u64 (n : Int) 4294967295 = (n : Int) := by rw [and32 _ (by omega) (by omega)]; omega
  have e3 : (1 : Int) / 4294967296 = 0 := by decide
  have e4 : (n : Int) / 4294967296 = 0 := by omega
  have e5 : IntKind.u64.wrap (n : Int) = (n : Int) := by rw [IntKind.wrap_u64]; omega
  have e6 : IntKind.u64.wrap 0 = 0 := by decide
  have e7 : Go.bits .and .u64 (0 : Int) 4294967295 = 0 := by rw [and32 _ (by omega) (by omega)]; rfl
  unfold bits_Mul.f bits_Mul64.f
  simp only [e1, e2, e3, e4, Int.one_mul, Int.zero_mul, Int.mul_zero, e5, e6, Int.zero_add, e7]
  simp [e4, e6, e7]
theorem mul_c (n : Nat) (hn : n < 4294967296) (w : World) : Calls Try.prog 34 #[.int .u64 1, .int .u64 (n : Int)] w fun e w' => e = .returned (.tuple #[.int .u64 0, .int .u64 (n : Int)]) ∧ Below w.heap.size w w' :=
  (bits_Mul.calls 1 (n : Int) 0 (n : Int) w (mul_one n hn)).mono fun _ _ h => ⟨h.1, h.2.below⟩

/-- One value so many times. -/
def repC (n : Nat) (x : List Value) : List Value := (List.replicate n x).flatten
theorem repC_len {n : Nat} {x : List Value} (h : x.length = 4) : (repC n x).length = n * 4 := by
  unfold repC; simp [h]
theorem repC_add (a b : Nat) (x : List Value) : repC (a + b) x = repC a x ++ repC b x := by
  unfold repC; rw [← List.replicate_append_replicate, List.flatten_append]
theorem repC_take {n k : Nat} {x : List Value} (h : x.length = 4) (hk : k ≤ n) : (repC n x).take (k * 4) = repC k x := by
  have : n = k + (n - k) := by omega
  rw [this, repC_add, List.take_append_of_le_length (by rw [repC_len h]; omega), List.take_of_length_le (by rw [repC_len h]; omega)]
theorem repC_one {n : Nat} {x : List Value} (h : ∀ u ∈ x, u.oneCell' = true) : ∀ u ∈ repC n x, u.oneCell' = true := by
  intro u hu
  unfold repC at hu
  obtain ⟨y, hy, hu⟩ := List.mem_flatten.1 hu
  rw [List.mem_replicate] at hy
  rw [hy.2] at hu
  exact h u hu
def z4 : List Value := [.int .i64 0, .int .u64 0, .int .u64 0, .bool false]
/-- The row while it is filled. -/
def partC (n m : Nat) (x : List Value) : List Value := repC m x ++ repC (n - m) z4
theorem partC_step {n m : Nat} {x : List Value} (h : x.length = 4) (hm : m ≤ n) :
    (partC n m x).take (m * 4) ++ ((repC m x).take (min m (n - m) * 4) ++ (partC n m x).drop ((m + min m (n - m)) * 4)) = partC n (m + min m (n - m)) x := by
  have hz : z4.length = 4 := rfl
  obtain ⟨k, hk⟩ : ∃ k, k = min m (n - m) := ⟨_, rfl⟩
  rw [← hk]
  unfold partC
  rw [List.take_append_of_le_length (by rw [repC_len h]; omega), List.take_of_length_le (by rw [repC_len h]; omega), repC_take h (by omega), repC_add, List.append_assoc]
  congr 2
  rw [List.drop_append, repC_len h, List.drop_of_length_le (by rw [repC_len h]; omega), List.nil_append, show (m + k) * 4 - m * 4 = k * 4 by omega]
  have : n - m = k + (n - (m + k)) := by omega
  rw [this, repC_add, List.drop_append_of_le_length (by rw [repC_len hz]; omega), List.drop_of_length_le (by rw [repC_len hz]; omega), List.nil_append]
theorem partC_take {n k : Nat} {x : List Value} (h : x.length = 4) : (partC n k x).take (k * 4) = repC k x := by
  unfold partC
  rw [List.take_append_of_le_length (by rw [repC_len h]; omega), List.take_of_length_le (by rw [repC_len h]; omega)]
theorem partC_one {n k : Nat} {x : List Value} (h : ∀ u ∈ x, u.oneCell' = true) : ∀ u ∈ partC n k x, u.oneCell' = true := by
  intro u hu
  rcases List.mem_append.1 hu with q | q
  · exact repC_one h u q
  · exact repC_one (by decide) u q
theorem made_cells : ∀ n : Nat, (madeCells zero4.cells (n * 4)).toList = repC n z4
  | 0 => by simp [madeCells, repC]
  | n + 1 => by
    have h := made_cells n
    have hs : zero4.cells.size = 4 := rfl
    rw [repC_add, ← h]
    unfold madeCells
    simp only [hs, Array.toList_map, Array.toList_range]
    rw [show (n + 1) * 4 = n * 4 + 1 + 1 + 1 + 1 by omega]
    simp only [List.range_succ, List.map_append, List.map_cons, List.map_nil, List.append_assoc]
    congr 1
    rw [show n * 4 % 4 = 0 by omega, show (n * 4 + 1) % 4 = 1 by omega, show (n * 4 + 1 + 1) % 4 = 2 by omega, show (n * 4 + 1 + 1 + 1) % 4 = 3 by omega]
    rfl
theorem made_own (W : World) (base n : Nat) (x : List Value) (hb : base ≤ W.heap.size) (hn : n ≤ 9223372036854775807) :
    (W.alloc (.cells (madeCells zero4.cells (n * 4)) 26)).ownsRow base 26 4 (.slice (some ⟨W.heap.size, 0, none⟩) n n) n (partC n 0 x) := by
  have e : partC n 0 x = repC n z4 := by unfold partC; simp [repC]
  rw [e, ← made_cells]
  have hs : (madeCells zero4.cells (n * 4)).size = n * 4 := size_madeCells _ _
  exact ⟨by rw [Array.length_toList, hs], .inr ⟨W.heap.size, n, _, rfl, hb, heap_alloc_new W _, Nat.le_refl _, by simp [maxLen]; omega, hs, List.take_of_length_le (by rw [Array.length_toList, hs]; exact Nat.le_refl _)⟩⟩
theorem make4 (n : Nat) (hn : n ≤ 1000000) : ∀ W : World, (Instr.makeSlice 38 (.int .i64 (n : Int)) (.int .i64 (n : Int))).run Try.prog W = .ok (.slice (some ⟨W.heap.size, 0, none⟩) n n) (W.alloc (.cells (madeCells zero4.cells (n * 4)) 26)) := by
  intro W
  obtain ⟨i, hi, hz⟩ := Option.map_eq_some_iff.1 info26
  simp only [Prod.mk.injEq] at hz
  obtain ⟨hz0, hz1, hz2⟩ := hz
  have h := run_make (P := Try.prog) W 38 26 i zero4 Try.underlying38 hi hz0 .i64 .i64 (n : Int) (n : Int) (by omega) (Int.le_refl _) (by rw [hz2]; omega) (by omega)
  rw [Int.toNat_natCast, hz1] at h
  exact h

theorem cut38 (A : Option Addr) (n c p : Nat) (hp : p ≤ n) : ∀ W : World, (Instr.slice 38 (.slice A n c) (some (.int .i64 (p : Int))) none none).run Try.prog W = .ok (.slice (if c = p then A else A.map (·.add (p * 4))) (n - p) (c - p)) W := by
  intro W
  obtain ⟨i, hi, hz⟩ := Option.map_eq_some_iff.1 size26
  have ht := Try.underlying38
  have hel : Try.prog.elem 38 = 26 := by simp [Program.elem, ht]
  have hu : Try.prog.underlying 38 = some (.slice (Try.prog.elem 38)) := by rw [hel]; exact ht
  rw [run_slice_l W 38 A n c hu .i64 (p : Int) (Int.natCast_nonneg _) (by omega), hel]
  simp [sizeOf, typeInfo, hi, hz, sliced, Result.andThen]
theorem take38 (A : Option Addr) (n c p : Nat) (hp : p ≤ c) : ∀ W : World, (Instr.slice 38 (.slice A n c) none (some (.int .i64 (p : Int))) none).run Try.prog W = .ok (.slice A p c) W := by
  intro W
  obtain ⟨i, hi, hz⟩ := Option.map_eq_some_iff.1 size26
  have ht := Try.underlying38
  have hel : Try.prog.elem 38 = 26 := by simp [Program.elem, ht]
  have hu : Try.prog.underlying 38 = some (.slice (Try.prog.elem 38)) := by rw [hel]; exact ht
  rw [run_slice_h W 38 A n c hu .i64 (p : Int) (Int.natCast_nonneg _) (by omega), hel]
  simp [sizeOf, typeInfo, hi, hz, sliced, Result.andThen]
  intro h; cases A <;> simp [Addr.add]
theorem partC_first {n : Nat} {x : List Value} (h : x.length = 4) : (partC n 0 x).take (0 * 4) ++ (x.take (min 1 (n - 0) * 4) ++ (partC n 0 x).drop ((0 + min 1 (n - 0)) * 4)) = partC n (min 1 n) x := by
  have hz : z4.length = 4 := rfl
  have e : partC n 0 x = repC n z4 := by unfold partC; simp [repC]
  rw [e]
  rcases Nat.eq_zero_or_pos n with rfl | hn
  · simp [partC, repC]
  · have hm : min 1 n = 1 := by omega
    rw [Nat.sub_zero, hm, Nat.zero_mul, List.take_zero, List.nil_append, List.take_of_length_le (by omega)]
    unfold partC
    have e1 : repC 1 x = x := by simp [repC]
    have e2 : n = 1 + (n - 1) := by omega
    rw [e1]
    congr 1
    conv => lhs; rw [e2, repC_add]
    rw [List.drop_append_of_le_length (by rw [repC_len hz]; omega), List.drop_of_length_le (by rw [repC_len hz]; omega), List.nil_append]
theorem add0 (A : Option Addr) : A.map (·.add (0 * 4)) = A := by cases A <;> simp [Addr.add]
theorem copy_at4_0 (W : World) (base n c m c2 : Nat) (A A2 : Option Addr) (xs ys : List Value) (ty : TypeId)
    (HO : W.ownsRow base 26 4 (.slice A n c) n xs) (HR : Reads4 W A2 m ys) :
    ∃ w1, (Builtin.copy_ #[38, 38] ty #[.slice A n c, .slice A2 m c2]).run Try.prog W = .ok (goInt ((min m (n - 0) : Nat) : Int)) w1 ∧
      w1.ownsRow base 26 4 (.slice A n c) n (xs.take (0 * 4) ++ (ys.take (min m (n - 0) * 4) ++ xs.drop ((0 + min m (n - 0)) * 4))) ∧ W.grownBy w1 (Value.slice A n c).ownBlock := by
  have h := copy_at4 W base n c 0 m c2 A A2 xs ys ty (Nat.zero_le _) HO HR
  rw [add0, ite_self, Nat.sub_zero, Nat.sub_zero] at h
  exact h
theorem reads4_below {w w' : World} {A : Option Addr} {m : Nat} {ys : List Value} (h : Reads4 w A m ys) (hb : Below w.heap.size w w') : Reads4 w' A m ys :=
  ⟨h.len, h.one, fun hp => by
    obtain ⟨ad, e, hc⟩ := h.at_ hp
    refine ⟨ad, e, fun j u hj => ?_⟩
    have hh := hc j u hj
    have hlt := World.block_lt_of_cell? w _ hh
    rw [World.cell?_of_block (w := w) (hb.block _ hlt)]
    exact hh⟩
def RepRel (w : World) (n : Nat) (x : List Value) (v : Value) (m : Value) (wr : World) : Prop :=
  ∃ k : Nat, m = .int .i64 k ∧ (k = 0 → n = 0) ∧ k ≤ n ∧ wr.ownsRow w.heap.size 26 4 v n (partC n k x) ∧ Below w.heap.size w wr
structure RowV (w : World) (n : Nat) (xs : List Value) (e : Ending) (w' : World) : Prop where mk ::
  (out : ∃ b, e = .returned (.slice (some ⟨b, 0, none⟩) n n) ∧ w'.ownsRow w.heap.size 26 4 (.slice (some ⟨b, 0, none⟩) n n) n xs ∧ Below w.heap.size w w')
set_option maxHeartbeats 1000000 in
set_option maxRecDepth 100000 in
theorem repeat_c (A : Option Addr) (c n : Nat) (x : List Value) (w : World) (hx : x.length = 4) (h1 : ∀ u ∈ x, u.oneCell' = true) (HR : Reads4 w A 1 x) (hn : n ≤ 1000000) :
    Calls Try.prog 31 #[.slice A 1 c, .int .i64 (n : Int)] w (RowV w n (repC n x)) := by
  have HX := Lib.hid hx
  have HO1 := Lib.hid h1
  have HRR := Lib.hid HR
  have hmk := make4 n hn
  have hown0 := fun W h => made_own W w.heap.size n x h (by omega)
  obtain ⟨Mc, hMc⟩ : ∃ Mc, Mc = madeCells zero4.cells (n * 4) := ⟨_, rfl⟩
  rw [← hMc] at hmk hown0
  have HOWN := Lib.hid hown0
  clear hx h1 HR hMc hown0
  go_enter Try.func31, Try.ntmps31
  obtain ⟨k0, hk0⟩ : ∃ k0, k0 = min 1 n := ⟨_, rfl⟩
  have HK0 := Lib.hid hk0
  clear hk0
  go_wp2_with (go_at_call 34; refine (mul_c n (by omega) _).mono ?_; rintro e w1 ⟨rfl, hb⟩; have HB := Lib.hid hb; obtain ⟨w2, hcp, hown, hgr⟩ := copy_at4_0 (w1.alloc (.cells Mc 26)) w.heap.size n n 1 c (some ⟨w1.heap.size, 0, none⟩) A (partC n 0 x) x 3 (HOWN.out w1 hb.size) (reads4_below HRR.out (hb.trans ((Below.refl _ _).alloc (Nat.le_refl _) _ |>.mono hb.size))); rw [partC_first HX.out, ← HK0.out] at hown; rw [Nat.sub_zero, ← HK0.out] at hcp; have HOW := Lib.hid hown; have HGR := Lib.hid hgr; clear hb hown hgr)
  have HB2 : Hid (Below w.heap.size w w2) := Lib.hid (by
    have h1 := HB.out.trans (((Below.refl _ _).alloc (Nat.le_refl _) (.cells Mc 26)).mono HB.out.size)
    exact h1.grown HGR.out h1.size (fun k hk => by have := HB.out.size; simp [Value.ownBlock] at hk; omega))
  clear HGR hcp
  go_loopw [8] (RepRel w n x (.slice (some ⟨w1.heap.size, 0, none⟩) n n)) (fun i _ => n - (intOf i).toNat)
  case atStart => exact ⟨k0, rfl, by have := HK0.out; omega, by have := HK0.out; omega, HOW.out, HB2.out⟩
  case round =>
    obtain ⟨k, rfl, hk0, hkn, hown, hbl⟩ := hrel
    have HOR := Lib.hid hown
    have HBR := Lib.hid hbl
    have HK := Lib.hid hk0
    clear hown hbl hk0
    by_cases hlt : k < n
    · have hcut := cut38 (some ⟨w1.heap.size, 0, none⟩) n n k hkn
      have htk := take38 (some ⟨w1.heap.size, 0, none⟩) n n k hkn
      obtain ⟨D, hD⟩ : ∃ D, D = (if n = k then (some ⟨w1.heap.size, 0, none⟩ : Option Addr) else (some (⟨w1.heap.size, 0, none⟩ : Addr)).map (·.add (k * 4))) := ⟨_, rfl⟩
      rw [← hD] at hcut
      have HD := Lib.hid hD
      clear hD
      have HBD : Hid (Below wr.heap.size wr wr.drew) := Lib.hid (Below.refl _ _).drew
      have HO3 := Lib.hid (pw_own_below HOR.out HBD.out)
      have HB3 := Lib.hid (HBR.out.trans (HBD.out.mono HBR.out.size))
      have HRD3 := Lib.hid (reads4_take (own_reads4 HO3.out (partC_one HO1.out)).1 hkn)
      obtain ⟨w4, hcp, hown, hgr⟩ := copy_at4 wr.drew w.heap.size n n k k n (some ⟨w1.heap.size, 0, none⟩) (some ⟨w1.heap.size, 0, none⟩) (partC n k x) ((partC n k x).take (k * 4)) 3 hkn HO3.out HRD3.out
      rw [partC_take HX.out] at hown
      have hst := partC_step (n := n) (m := k) HX.out hkn
      rw [partC_take HX.out] at hst
      rw [hst] at hown
      rw [← HD.out] at hcp
      obtain ⟨d, hd⟩ : ∃ d, d = min k (n - k) := ⟨_, rfl⟩
      rw [← hd] at hcp hown
      have HHD := Lib.hid hd
      have HO4 := Lib.hid hown
      have HB4 : Hid (Below w.heap.size w w4) := Lib.hid (HB3.out.grown hgr HB3.out.size (fun q hq => by have := HB.out.size; simp [Value.ownBlock] at hq; omega))
      have hdn : (d : Int) ≤ 1000000 := by omega
      have hcp : (Builtin.copy_ #[38, 38] 3 #[.slice D (n - k) (n - k), .slice (some ⟨w1.heap.size, 0, none⟩) k n]).run Try.prog wr.drew = .ok (.int .i64 (d : Int)) w4 := hcp
      clear hown hgr hst hd HOR HBD HO3 HB3 HRD3
      go_wp2
      have hsum : IntKind.i64.wrap ((k : Int) + (d : Int)) = ((k + d : Nat) : Int) := by rw [IntKind.wrap_i64]; omega
      go_region_with (fail)
      all_goals
        go_simp
        go_wp2_with fail
        go_roundw
        case rel => exact ⟨k + d, rfl, by have := HK.out; have := HHD.out; omega, by have := HHD.out; omega, HO4.out, HB4.out⟩
        case measure => simp [intOf]; have := HHD.out; have := HK.out; omega
    · have hkn2 : k = n := by omega
      have hge : (n : Int) ≤ k := by omega
      clear hlt
      subst hkn2
      go_wp2
      go_ret
      have e : partC k k x = repC k x := by unfold partC; simp [repC]
      exact ⟨_, rfl, by rw [← e]; exact HOR.out, HBR.out⟩
end Go.Proofs.Ytlllbgmnheikgaa.St
