/-
  The walks of a memory's Init and Write (store). No condition but that the memory's block is one, its bytes a row of one's own.
-/
import Derived.Test.YtlllbgmnheikgaaPStoreNonex1
import Derived.StillTailTactics
import Derived.BigQuiet
namespace Go.Proofs.Ytlllbgmnheikgaa.St
set_option linter.unusedVariables false
set_option linter.unusedSimpArgs false
open Go.RowKit Go.Proofs.YtlllbgmnheikgaaW.PrintWords Go.Proofs.Ytlllbgmnheikgaa.PStoreNone

/-- What is hid from the walk. -/
structure Hid (p : Prop) : Prop where mk ::
  (out : p)
theorem Lib.hid {p : Prop} (h : p) : Hid p := ⟨h⟩

theorem info5 : (Try.prog.info? 5).map (fun i => (i.zero, i.size, i.bytes)) = some (some (.int .u8 0), 1, 1) := by kernel_rfl
theorem size5 : (Try.prog.info? 5).map (·.size) = some 1 := by kernel_rfl
/-- Is there room for n from a place on, in so many? -/
def inB (at_ n : Int) (k : Nat) : Bool := decide (at_ ≤ k ∧ n ≤ k - at_)
theorem in_c (a n : Int) (k : Nat) (w : World) (ha : 0 ≤ a) (hk : k ≤ 140737488355328) :
    Calls Try.prog 32 #[.int .u64 a, .int .u64 n, .int .i64 (k : Int)] w fun e w' => e = .returned (.bool (inB a n k)) ∧ Drawn0 w w' := by
  refine store_in.calls a n (k : Int) _ w ?_
  unfold store_in.f inB
  rw [IntKind.wrap_u64]
  by_cases h : a ≤ (k : Int)
  · rw [if_pos (by omega), IntKind.wrap_u64]
    congr 1
    by_cases h2 : n ≤ (k : Int) - a
    · rw [decide_eq_true (by omega), decide_eq_true ⟨h, h2⟩]
    · rw [decide_eq_false (by omega), decide_eq_false (fun q => h2 q.2)]
  · rw [if_neg (by omega), decide_eq_false (fun q => h q.1)]

/-- A memory: its block, its limits, its bytes, a row of one's own. -/
structure MemI (w : World) (base g : Nat) (mn mx : Int) (hs : Bool) (v : Value) (xs : List Int) : Prop where
  blk : w.heap[g]? = some (.cells #[.int .i64 mn, .int .i64 mx, .bool hs, v] 31 (0, 0))
  own : w.ownsRow base 5 1 v xs.length (nums .u8 xs)
  ge : base ≤ g
  len : xs.length ≤ 140737488351232
theorem MemI.ne {w : World} {base g : Nat} {mn mx : Int} {hs : Bool} {v : Value} {xs : List Int} (H : MemI w base g mn mx hs v xs) : some g ≠ v.ownBlock := own_ne H.own H.blk (by decide)
theorem MemI.cellB {w : World} {base g : Nat} {mn mx : Int} {hs : Bool} {v : Value} {xs : List Int} (H : MemI w base g mn mx hs v xs) : w.cell? ⟨g, 3, none⟩ = some v := (blk_cell H.blk 3).trans rfl
theorem MemI.cell0 {w : World} {base g : Nat} {mn mx : Int} {hs : Bool} {v : Value} {xs : List Int} (H : MemI w base g mn mx hs v xs) : w.cell? ⟨g, 0, none⟩ = some (.int .i64 mn) := (blk_cell H.blk 0).trans rfl
theorem MemI.cell1 {w : World} {base g : Nat} {mn mx : Int} {hs : Bool} {v : Value} {xs : List Int} (H : MemI w base g mn mx hs v xs) : w.cell? ⟨g, 1, none⟩ = some (.int .i64 mx) := (blk_cell H.blk 1).trans rfl
theorem MemI.cell2 {w : World} {base g : Nat} {mn mx : Int} {hs : Bool} {v : Value} {xs : List Int} (H : MemI w base g mn mx hs v xs) : w.cell? ⟨g, 2, none⟩ = some (.bool hs) := (blk_cell H.blk 2).trans rfl
theorem MemI.below {w w' : World} {base g : Nat} {mn mx : Int} {hs : Bool} {v : Value} {xs : List Int} (H : MemI w base g mn mx hs v xs) (h : Below w.heap.size w w') : MemI w' base g mn mx hs v xs :=
  ⟨(h.block g (blk_lt H.blk)).trans H.blk, pw_own_below H.own h, H.ge, H.len⟩
theorem grown_below {w w1 w' : World} {r : Option Nat} (h : Below w.heap.size w w1) (k : w1.grownBy w' r) : w.grownBy w' r :=
  ⟨k.os.trans h.os, k.tape.trans h.tape, k.output.trans h.output, Nat.le_trans h.size k.size, fun i hi hne => (k.block i (Nat.lt_of_lt_of_le hi h.size) hne).trans (h.block i hi)⟩
theorem grown_trans {w w1 w' : World} {r : Option Nat} (h : w.grownBy w1 r) (k : w1.grownBy w' r) : w.grownBy w' r :=
  ⟨k.os.trans h.os, k.tape.trans h.tape, k.output.trans h.output, Nat.le_trans h.size k.size, fun i hi hne => (k.block i (Nat.lt_of_lt_of_le hi h.size) hne).trans (h.block i hi hne)⟩
theorem grown_of_below {w w' : World} {r : Option Nat} (h : Below w.heap.size w w') : w.grownBy w' r := ⟨h.os, h.tape, h.output, h.size, fun i hi _ => h.block i hi⟩

/-- copy(v[p:], ys), v a row of one's own. -/
theorem copy_at (W : World) (base n c p m c2 : Nat) (A A2 : Option Addr) (xs ys : List Int) (ty : TypeId) (hpn : p ≤ n)
    (HO : W.ownsRow base 5 1 (.slice A n c) n (nums .u8 xs)) (HR : ReadsInt W .u8 A2 m ys) :
    ∃ w1, (Builtin.copy_ #[29, 29] ty #[.slice (if c = p then A else A.map (·.add p)) (n - p) (c - p), .slice A2 m c2]).run Try.prog W = .ok (goInt ((min m (n - p) : Nat) : Int)) w1 ∧
      w1.ownsRow base 5 1 (.slice A n c) n (nums .u8 (xs.take p ++ (ys.take (min m (n - p)) ++ xs.drop (p + min m (n - p))))) ∧ W.grownBy w1 (Value.slice A n c).ownBlock := by
  have hm : ys.length = m := HR.1
  have hxl : xs.length = n := by have := HO.1; simp [nums] at this; exact this
  rcases Nat.eq_zero_or_pos (min m (n - p)) with h0 | hp
  · refine ⟨W, ?_, ?_, World.grownBy.refl W _⟩
    · rw [h0]; exact run_copy_none W 29 29 ty 5 _ _ _ _ _ _ Try.underlying29 size5 h0
    · rw [h0, List.take_zero, List.nil_append, Nat.add_zero, List.take_append_drop]; exact HO
  · obtain ⟨ad, rfl, hc⟩ := HR.2.2 (by omega)
    rcases HO.2 with ⟨_, hx0⟩ | ⟨g, cap, cur, hv, hb, hh, hnc, hcm, hcs, htake⟩
    · omega
    obtain ⟨rfl, rfl⟩ : A = some ⟨g, 0, none⟩ ∧ c = cap := by injection hv with h1 _ h3; exact ⟨h1, h3⟩
    have hcs1 : cur.size = c := by omega
    obtain ⟨k, hk⟩ : ∃ k, k = min m (n - p) := ⟨_, rfl⟩
    rw [← hk] at hp ⊢
    have hkl : (nums .u8 (ys.take k)).length = k := by simp [nums, List.length_take]; omega
    have hD : (if c = p then (some ⟨g, 0, none⟩ : Option Addr) else (some (⟨g, 0, none⟩ : Addr)).map (·.add p)) = some ⟨g, p, none⟩ := by
      rw [if_neg (by omega)]; simp [Addr.add]; intro h; omega
    have hsrc : ∀ j u, (nums .u8 (ys.take k))[j]? = some u → W.cell? (ad.add j) = some u := by
      intro j u hu
      have hj : j < k := by
        rcases Nat.lt_or_ge j k with h | h
        · exact h
        · rw [List.getElem?_eq_none (by rw [hkl]; exact h)] at hu; cases hu
      rw [hc j (by omega), ← hu]
      simp [nums, List.getD_eq_getElem?_getD, hj, List.getElem?_eq_getElem (show j < ys.length by omega)]
    have hr := run_copy_cells (P := Try.prog) W 29 29 ty 5 g p (n - p) (c - p) ad m c2 (nums .u8 (ys.take k)) Try.underlying29 size5 (by rw [hkl]; exact hk) hsrc
      (fun j hj => by rw [cell_of_row W g _ cur 5 (0, 0) hh]; simp; omega) (fun j _ => blk_frozen hh _) (by intro u hu; simp only [nums, List.mem_map] at hu; obtain ⟨q, _, rfl⟩ := hu; rfl)
    obtain ⟨cur', h3, h4, h5⟩ := setCells_row (nums .u8 (ys.take k)) p W cur hh (by rw [hkl]; omega)
    obtain ⟨s1, s2, s3, s4⟩ := setCells_same g (nums .u8 (ys.take k)) p W
    refine ⟨_, by rw [hD, hr, hkl], ?_, ⟨s1, s2, s3, by rw [s4]; exact Nat.le_refl _, fun i _ hi => setCells_far _ _ i (fun he => hi (by rw [he]; simp [Value.ownBlock]))⟩⟩
    have hln : (xs.take p ++ (ys.take k ++ xs.drop (p + k))).length = n := by
      simp only [List.length_append, List.length_take, List.length_drop]; omega
    refine ⟨by simp only [nums, List.length_map]; rw [hln, Nat.mul_one], .inr ⟨g, c, cur', rfl, hb, h3, hnc, hcm, by rw [h4, hcs], ?_⟩⟩
    rw [h5, hkl, Nat.mul_one]
    have htk : cur.toList.take n = nums .u8 xs := by rw [← htake, Nat.mul_one]
    have e1 : cur.toList.take p = nums .u8 (xs.take p) := by
      have : (cur.toList.take n).take p = cur.toList.take p := by rw [List.take_take]; congr 1; omega
      rw [← this, htk]; simp [nums, List.map_take]
    have e2 : (cur.toList.drop (p + k)).take (n - (p + k)) = nums .u8 (xs.drop (p + k)) := by
      rw [← List.drop_take, htk]; simp [nums, List.map_drop]
    have hgen : ∀ L1 L2 L3 : List Value, L1.length = p → L2.length = k → (L1 ++ L2 ++ L3).take n = L1 ++ (L2 ++ L3.take (n - (p + k))) := fun L1 L2 L3 a b => by
      rw [List.append_assoc, List.take_append, List.take_append, a, b, List.take_of_length_le (l := L1) (by omega), List.take_of_length_le (l := L2) (by omega), Nat.sub_sub]
    rw [hgen _ _ _ (by rw [e1]; simp [nums, List.length_take]; omega) hkl, e1, e2]
    simp [nums]
end Go.Proofs.Ytlllbgmnheikgaa.St
