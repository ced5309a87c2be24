/-
  The walk of lex.Quote. Condition: the text is no longer than 1000000 bytes.
-/
import Derived.Test.YtjecdciabpjgcaaDoorLxU
namespace Go.Proofs.YtjecdciabpjgcaaDoor.Lx
set_option linter.unusedVariables false
set_option linter.unusedSimpArgs false
open Go.RowKit Go.Proofs.YtjecdciabpjgcaaDoorW.PrintWords Go.Proofs.YtjecdciabpjgcaaDoorW.PrintLast Go.Proofs.YtjecdciabpjgcaaDoor.PLx Go.Proofs.YtjecdciabpjgcaaDoor.Lb

/-- A row of bytes that is read. -/
structure Bs (g : Nat) (s : ByteArray) (w : World) : Prop where mk ::
  (lt : g < w.heap.size) (out : ∀ (j : Nat) (h : j < s.size), w.cell? ⟨g, j, none⟩ = some (.int .u8 ((s[j]).toNat : Int)))
theorem Bs.grown {g : Nat} {s : ByteArray} {w w1 : World} {row : Option Nat} (h : Bs g s w) (hg : w.grownBy w1 row) (hne : some g ≠ row) : Bs g s w1 :=
  ⟨Nat.lt_of_lt_of_le h.lt hg.size, fun j hj => (World.cell?_of_block (hg.block g h.lt hne)).trans (h.out j hj)⟩
theorem Bs.below {g : Nat} {s : ByteArray} {w w1 : World} (h : Bs g s w) (hb : Below w.heap.size w w1) : Bs g s w1 := h.grown (grown_of_below hb none) (by simp)
theorem bw_below (w : World) (e : TypeId) (s : ByteArray) : Below w.heap.size w (Lib.bytesWorld w e s) :=
  ⟨rfl, rfl, rfl, by rw [Lib.bytesWorld_size]; omega, fun k hk => Lib.bytesWorld_at_old w e s k hk⟩
theorem Bs.new (w : World) (s : ByteArray) : Bs w.heap.size s (Lib.bytesWorld w 5 s) :=
  ⟨by rw [Lib.bytesWorld_size]; omega, fun j hj => by
    rw [Lib.bytesWorld_cell w 5 s j hj]
    have h' : j < s.data.toList.length := by rw [len_data]; exact hj
    simp only [List.getD_eq_getElem?_getD, List.getElem?_eq_getElem h', Option.getD_some]
    rfl⟩
theorem and15_all : ((List.range 256).all fun c => bits BinOp.and IntKind.u8 (c : Int) 15 == ((c % 16 : Nat) : Int)) = true := by kernel_rfl
theorem and15 (c : Nat) (h : c < 256) : bits BinOp.and IntKind.u8 (c : Int) 15 = ((c % 16 : Nat) : Int) := by
  have := List.all_eq_true.1 and15_all c (List.mem_range.2 h)
  simpa using this
theorem dig_at_all : ((List.range 16).all fun d => (([48, 49, 50, 51, 52, 53, 54, 55, 56, 57, 97, 98, 99, 100, 101, 102] : List UInt8).getD d 0) == hexc d) = true := by kernel_rfl
theorem dig_at (d : Nat) (h : d < 16) : ((⟨#[48, 49, 50, 51, 52, 53, 54, 55, 56, 57, 97, 98, 99, 100, 101, 102]⟩ : ByteArray)[d]'h) = hexc d := by
  have := List.all_eq_true.1 dig_at_all d (List.mem_range.2 h)
  simp only [beq_iff_eq] at this
  rw [← this, List.getD_eq_getElem?_getD, List.getElem?_eq_getElem (by simpa using h)]
  rfl
structure QuoQ (w : World) (l : List UInt8) (e : Ending) (w' : World) : Prop where mk ::
  (out : e = .returned (.string ⟨(quo l).toArray⟩) ∧ Below w.heap.size w w')
theorem append_b (W : World) (base : Nat) (v : Value) (out bs : List UInt8) (hb : base ≤ W.heap.size) (hl : out.length + bs.length ≤ 100000000) (HO : W.ownsRow base 5 1 v (nb out).length (nums .u8 (nb out))) :
    ∃ v1 w1, (Builtin.append_ #[63, 63] 63 #[v, .slice (some ⟨W.heap.size, 0, none⟩) bs.length bs.length]).run Tryd.prog (W.alloc (.cells (nums .u8 (nb bs)).toArray 5)) = .ok v1 w1 ∧ w1.ownsRow base 5 1 v1 (nb (out ++ bs)).length (nums .u8 (nb (out ++ bs))) ∧ W.grownBy w1 v.ownBlock ∧
      (v1.ownBlock = v.ownBlock ∨ ∃ b, v1.ownBlock = some b ∧ W.heap.size ≤ b) := by
  obtain ⟨i, hi, hz⟩ := Option.map_eq_some_iff.1 info5
  simp only [Prod.mk.injEq] at hz
  obtain ⟨hz0, hz1, hz2⟩ := hz
  have hb1 : Below W.heap.size W (W.alloc (Obj.cells (nums .u8 (nb bs)).toArray 5)) := (Below.refl _ _).alloc (Nat.le_refl _) _
  have hn := heap_alloc_new W (Obj.cells (nums .u8 (nb bs)).toArray 5)
  have hln : (nums .u8 (nb bs)).length = bs.length * 1 := by simp [nums, nb]
  obtain ⟨v1, w1, hrun, h2, h3, _, h5⟩ := run_append_own_at (P := Tryd.prog) _ base 63 63 5 i _ 1 1 Tryd.underlying63 hi hz0 hz1 hz2 rfl (by decide) v (nb out).length (nums .u8 (nb out)) (pw_own_below HO hb1)
    ⟨W.heap.size, 0, none⟩ bs.length bs.length (nums .u8 (nb bs)) hln (fun j u hu => by
      have hc := blk_cell hn j
      have ha : (⟨W.heap.size, 0, none⟩ : Addr).add j = ⟨W.heap.size, j, none⟩ := by unfold Addr.add; simp; intro h; exact h.symm
      rw [ha, hc]
      simpa using hu) (by
      intro u hu
      simp only [nums, List.mem_map] at hu
      obtain ⟨x, _, rfl⟩ := hu
      rfl) (by simp only [maxLen, nb_len]; omega) (by rw [nb_len]; omega) (Nat.le_trans hb hb1.size)
  have hg : W.grownBy w1 v.ownBlock := ⟨h3.os, h3.tape, h3.output, Nat.le_trans hb1.size h3.size, fun k hk hne => (h3.block k (Nat.lt_of_lt_of_le hk hb1.size) hne).trans (hb1.block k hk)⟩
  refine ⟨v1, w1, hrun, ?_, hg, ?_⟩
  · have e1 : (nb (out ++ bs)).length = (nb out).length + bs.length := by rw [nb_len, nb_len, List.length_append]
    have e2 : nums .u8 (nb (out ++ bs)) = nums .u8 (nb out) ++ nums .u8 (nb bs) := by rw [nb_app]; simp [nums]
    rw [e1, e2]
    exact h2
  · rcases h5 with h5 | h5
    · exact .inl h5
    · exact .inr ⟨_, h5, hb1.size⟩
def QuR (w : World) (g : Nat) (s : ByteArray) (R : List UInt8) (v3 v10 : Value) (wr : World) : Prop :=
  ∃ (n : Nat) (out : List UInt8), v10 = .int .i64 (n : Int) ∧ n ≤ s.size ∧ Below w.heap.size w wr ∧ wr.ownsRow w.heap.size 5 1 v3 (nb out).length (nums .u8 (nb out)) ∧ some g ≠ v3.ownBlock ∧ Bs g s wr ∧ out.length ≤ 4 * n + 1 ∧ out ++ (s.data.toList.drop n).flatMap quo1 = R
set_option maxRecDepth 1000000 in
set_option maxHeartbeats 4000000 in
theorem quote_c (s : ByteArray) (hs : s.size ≤ 1000000) (w : World) : Calls Tryd.prog 16 #[.string s] w (QuoQ w s.data.toList) := by
  have kb := fun W => print_bytes (P := Tryd.prog) 9 63 5 Tryd.underlying9 Tryd.underlying63 Tryd.underlying5 s W
  have HA : Hid (QuR w (w.heap.size + 1) s ([34] ++ s.data.toList.flatMap quo1) (.slice (some ⟨w.heap.size, 0, none⟩) 1 1) (.int .i64 0) (Lib.bytesWorld (w.alloc (Obj.cells #[.int .u8 34] 5)) 5 s)) := Lib.hid
    ⟨0, [34], rfl, Nat.zero_le _, by
      have h1 := (Below.refl w.heap.size w).alloc (Nat.le_refl _) (Obj.cells #[.int .u8 34] 5)
      exact below_step h1 (bw_below _ _ _), pw_own_below (own_lit w w.heap.size 5 .u8 [34] (Nat.le_refl _) (by simp)) (bw_below _ _ _), fun h => by
      have : w.heap.size + 1 = w.heap.size := Option.some.inj h
      omega, by have := Bs.new (w.alloc (Obj.cells #[.int .u8 34] 5)) s; simpa using this, by simp, by rw [List.drop_zero]⟩
  go_enter Tryd.func16, Tryd.ntmps16
  go_wp2
  go_loopw [3, 10] (QuR w (w.heap.size + 1) s ([34] ++ s.data.toList.flatMap quo1)) (fun _ v10 wr => s.size - numOf v10)
  case atStart => exact HA.out
  case round =>
    obtain ⟨n, out, rfl, hn, hb, ho, hne, hbs, hol, hc⟩ := hrel
    have HB := Lib.hid hb
    have HO := Lib.hid ho
    have HNE := Lib.hid hne
    have HBS := Lib.hid hbs
    clear hb ho hne HA kb
    by_cases hlt : n < s.size
    · have c0 := hbs.out n hlt
      have hi1 : (n : Int) < (s.size : Int) := by omega
      have hi2 : (0 : Int) ≤ (n : Int) := by omega
      have hx := UInt8.toNat_lt s[n]
      have hdr := drop_at s n hlt
      rw [hdr, List.flatMap_cons] at hc
      have HC := Lib.hid hc
      clear hc hdr hbs
      have u32 : ∀ c : UInt8, c < 32 ↔ c.toNat < 32 := fun c => UInt8.lt_iff_toNat_lt
      have u126 : ∀ c : UInt8, 126 < c ↔ 126 < c.toNat := fun c => UInt8.lt_iff_toNat_lt
      by_cases h1 : s[n] < 32
      · have hb1 : (s[n].toNat : Int) < 32 := by have := (u32 _).1 h1; omega
        obtain ⟨q, hq⟩ : ∃ q, q = s[n].toNat / 16 := ⟨_, rfl⟩
        obtain ⟨r, hr⟩ : ∃ r, r = s[n].toNat % 16 := ⟨_, rfl⟩
        have hq16 : q < 16 := by omega
        have hr16 : r < 16 := by omega
        have hqq : quo1 s[n] = [92, hexc q, hexc r] := by unfold quo1; rw [if_pos (.inl h1), hq, hr]
        have hdiv : (s[n].toNat : Int) / 16 = (q : Int) := by rw [hq]; omega
        have hand : bits BinOp.and IntKind.u8 (s[n].toNat : Int) 15 = (r : Int) := by rw [hr]; exact and15 _ hx
        have hq1 : ((q : Int) < 16) = True := eq_true (by omega)
        have hr1 : ((r : Int) < 16) = True := eq_true (by omega)
        have hdig := dig_at
        clear hq hr
        clear h1 u32 u126
        obtain ⟨W1, hW1⟩ : ∃ W1, W1 = wr.drew := ⟨_, rfl⟩
        have hbw : Below wr.heap.size wr W1 := by rw [hW1]; exact below_drew (Below.refl _ _)
        obtain ⟨v1, W2, hrun, ho2, hg2, hat⟩ := append_b W1 w.heap.size u3 out [92, hexc q, hexc r] (Nat.le_trans HB.out.size hbw.size) (by simp; omega) (pw_own_below HO.out hbw)
        have HRUN := Lib.hid hrun
        have HR1 : Hid (QuR w (w.heap.size + 1) s ([34] ++ s.data.toList.flatMap quo1) v1 (.int .i64 ((n : Int) + 1)) W2) := Lib.hid ⟨n + 1, out ++ [92, hexc q, hexc r], by push_cast; rfl, by omega, (below_step HB.out hbw).grown hg2 (Nat.le_trans HB.out.size hbw.size) (own_base HO.out), ho2, fun h => by
          rcases hat with hat | ⟨b, hb, hle⟩
          · exact HNE.out (by rw [h, hat])
          · rw [hb] at h
            have e := Option.some.inj h
            have := HBS.out.lt
            have := hbw.size
            omega, (HBS.out.below hbw).grown hg2 HNE.out, by simp; omega, by
          have := HC.out
          rw [hqq] at this
          simpa using this⟩
        clear hrun ho2 hg2 hat hqq
        go_upto_block 6 with fail
        refine start_ (n := 10) (ds := []) (S := fun _ => True) #[false, false, false, false, false, false, false, false, false, false] (by kernel_rfl) rfl rfl trivial ?_
        intro hHeld
        rw [← hW1]
        clear hW1
        refine pure_ (i := 0) (N := (some 28)) (v := ?_) (a' := ?_) #[true, false, false, false, false, false, false, false, false, false] rfl rfl (by kernel_rfl) (fun _ _ _ h => h) (Or.inl ⟨by rfl, ?_⟩) ?_ ?_
        rotate_left
        · intro w'
          go_simp
          with_reducible rfl
        rotate_left
        · simp only [Act.put, List.setIfInBounds_toArray, List.set_cons_zero, List.set_cons_succ, i64_w, i32_w]
          rfl
        refine pure_ (i := 1) (N := (some 29)) (v := ?_) (a' := ?_) #[true, true, false, false, false, false, false, false, false, false] rfl rfl (by kernel_rfl) (fun _ _ _ h => h) (Or.inl ⟨by rfl, ?_⟩) ?_ ?_
        rotate_left
        · intro w'
          go_simp
          with_reducible rfl
        rotate_left
        · simp only [Act.put, List.setIfInBounds_toArray, List.set_cons_zero, List.set_cons_succ, i64_w, i32_w]
          rfl
        refine pure_ (i := 2) (N := (some 30)) (v := ?_) (a' := ?_) #[true, true, true, false, false, false, false, false, false, false] rfl rfl (by kernel_rfl) (fun _ _ _ h => h) (Or.inl ⟨by rfl, ?_⟩) ?_ ?_
        rotate_left
        · intro w'
          go_simp
          with_reducible rfl
        rotate_left
        · simp only [Act.put, List.setIfInBounds_toArray, List.set_cons_zero, List.set_cons_succ, i64_w, i32_w]
          rfl
        refine pure_ (i := 3) (N := (some 31)) (v := ?_) (a' := ?_) #[true, true, true, true, false, false, false, false, false, false] rfl rfl (by kernel_rfl) (fun _ _ _ h => h) (Or.inl ⟨by rfl, ?_⟩) ?_ ?_
        rotate_left
        · intro w'
          go_simp
          with_reducible rfl
        rotate_left
        · simp only [Act.put, List.setIfInBounds_toArray, List.set_cons_zero, List.set_cons_succ, i64_w, i32_w]
          rfl
        refine pure_ (i := 4) (N := (some 32)) (v := ?_) (a' := ?_) #[true, true, true, true, true, false, false, false, false, false] rfl rfl (by kernel_rfl) (fun _ _ _ h => h) (Or.inl ⟨by rfl, ?_⟩) ?_ ?_
        rotate_left
        · intro w'
          go_simp
          with_reducible rfl
        rotate_left
        · simp only [Act.put, List.setIfInBounds_toArray, List.set_cons_zero, List.set_cons_succ, i64_w, i32_w]
          rfl
        refine pure_ (i := 5) (N := (some 33)) (v := ?_) (a' := ?_) #[true, true, true, true, true, true, false, false, false, false] rfl rfl (by kernel_rfl) (fun _ _ _ h => h) (Or.inl ⟨by rfl, ?_⟩) ?_ ?_
        rotate_left
        · intro w'
          go_simp
          with_reducible rfl
        rotate_left
        · simp only [Act.put, List.setIfInBounds_toArray, List.set_cons_zero, List.set_cons_succ, i64_w, i32_w]
          rfl
        refine pure_ (i := 6) (N := (some 34)) (v := ?_) (a' := ?_) #[true, true, true, true, true, true, true, false, false, false] rfl rfl (by kernel_rfl) (fun _ _ _ h => h) (Or.inl ⟨by rfl, ?_⟩) ?_ ?_
        rotate_left
        · intro w'
          go_simp
          with_reducible rfl
        rotate_left
        · simp only [Act.put, List.setIfInBounds_toArray, List.set_cons_zero, List.set_cons_succ, i64_w, i32_w]
          rfl
        refine one_ (i := 7) (N := some 35) #[true, true, true, true, true, true, true, true, false, false] rfl rfl (by kernel_rfl) (by decide) (fun K hK => ?_)
        refine value_ (w1 := ?_) (v := ?_) (by rfl) rfl ?_ ?_
        rotate_left 2
        · go_simp
          constructor
          · rfl
          · rfl
        refine hK.out _ _ trivial (fun hHeld => ?_)
        clear hK K
        refine norm_ (a' := ?_) ?_ ?_
        rotate_left
        · show Act.put _ (some 35) _ = _
          simp only [Act.put, List.setIfInBounds_toArray, List.set_cons_zero, List.set_cons_succ, i64_w, i32_w]
          rfl
        refine one_ (i := 8) (N := some 36) #[true, true, true, true, true, true, true, true, true, false] rfl rfl (by kernel_rfl) (by decide) (fun K hK => ?_)
        refine rstep_append (by rfl) (.tmp 28) (.tmp 35) 63 63 rfl u3 (.slice (some ⟨W1.heap.size, 0, none⟩) 3 3) v1 W2 (by rfl) (by rfl) HRUN.out ?_
        refine hK.out _ _ trivial (fun hHeld => ?_)
        clear hK K
        refine norm_ (a' := ?_) ?_ ?_
        rotate_left
        · show Act.put _ (some 36) _ = _
          simp only [Act.put, List.setIfInBounds_toArray, List.set_cons_zero, List.set_cons_succ, i64_w, i32_w]
          rfl
        refine pure_ (i := 9) (N := (some 3)) (v := ?_) (a' := ?_) #[true, true, true, true, true, true, true, true, true, true] rfl rfl (by kernel_rfl) (fun _ _ _ h => h) (Or.inl ⟨by rfl, ?_⟩) ?_ ?_
        rotate_left
        · intro w'
          go_simp
          with_reducible rfl
        rotate_left
        · simp only [Act.put, List.setIfInBounds_toArray, List.set_cons_zero, List.set_cons_succ, i64_w, i32_w]
          rfl
        refine done_ (by kernel_rfl) ?_
        clear hdig hdiv hand hq1 hr1 hHeld
        go_wp2
        go_roundw
        case rel => exact HR1.out
        case measure => simp only [numOf]; omega
      · have hb1 : 32 ≤ (s[n].toNat : Int) := by have := mt (u32 _).2 h1; omega
        by_cases h2 : 126 < s[n]
        · have hb2 : 126 < (s[n].toNat : Int) := by have := (u126 _).1 h2; omega
          obtain ⟨q, hq⟩ : ∃ q, q = s[n].toNat / 16 := ⟨_, rfl⟩
          obtain ⟨r, hr⟩ : ∃ r, r = s[n].toNat % 16 := ⟨_, rfl⟩
          have hq16 : q < 16 := by omega
          have hr16 : r < 16 := by omega
          have hqq : quo1 s[n] = [92, hexc q, hexc r] := by unfold quo1; rw [if_pos (.inr (.inl h2)), hq, hr]
          have hdiv : (s[n].toNat : Int) / 16 = (q : Int) := by rw [hq]; omega
          have hand : bits BinOp.and IntKind.u8 (s[n].toNat : Int) 15 = (r : Int) := by rw [hr]; exact and15 _ hx
          have hq1 : ((q : Int) < 16) = True := eq_true (by omega)
          have hr1 : ((r : Int) < 16) = True := eq_true (by omega)
          have hdig := dig_at
          clear hq hr
          clear h1 h2 u32 u126
          obtain ⟨W1, hW1⟩ : ∃ W1, W1 = wr.drew := ⟨_, rfl⟩
          have hbw : Below wr.heap.size wr W1 := by rw [hW1]; exact below_drew (Below.refl _ _)
          obtain ⟨v1, W2, hrun, ho2, hg2, hat⟩ := append_b W1 w.heap.size u3 out [92, hexc q, hexc r] (Nat.le_trans HB.out.size hbw.size) (by simp; omega) (pw_own_below HO.out hbw)
          have HRUN := Lib.hid hrun
          have HR1 : Hid (QuR w (w.heap.size + 1) s ([34] ++ s.data.toList.flatMap quo1) v1 (.int .i64 ((n : Int) + 1)) W2) := Lib.hid ⟨n + 1, out ++ [92, hexc q, hexc r], by push_cast; rfl, by omega, (below_step HB.out hbw).grown hg2 (Nat.le_trans HB.out.size hbw.size) (own_base HO.out), ho2, fun h => by
            rcases hat with hat | ⟨b, hb, hle⟩
            · exact HNE.out (by rw [h, hat])
            · rw [hb] at h
              have e := Option.some.inj h
              have := HBS.out.lt
              have := hbw.size
              omega, (HBS.out.below hbw).grown hg2 HNE.out, by simp; omega, by
            have := HC.out
            rw [hqq] at this
            simpa using this⟩
          clear hrun ho2 hg2 hat hqq
          go_upto_block 6 with fail
          refine start_ (n := 10) (ds := []) (S := fun _ => True) #[false, false, false, false, false, false, false, false, false, false] (by kernel_rfl) rfl rfl trivial ?_
          intro hHeld
          rw [← hW1]
          clear hW1
          refine pure_ (i := 0) (N := (some 28)) (v := ?_) (a' := ?_) #[true, false, false, false, false, false, false, false, false, false] rfl rfl (by kernel_rfl) (fun _ _ _ h => h) (Or.inl ⟨by rfl, ?_⟩) ?_ ?_
          rotate_left
          · intro w'
            go_simp
            with_reducible rfl
          rotate_left
          · simp only [Act.put, List.setIfInBounds_toArray, List.set_cons_zero, List.set_cons_succ, i64_w, i32_w]
            rfl
          refine pure_ (i := 1) (N := (some 29)) (v := ?_) (a' := ?_) #[true, true, false, false, false, false, false, false, false, false] rfl rfl (by kernel_rfl) (fun _ _ _ h => h) (Or.inl ⟨by rfl, ?_⟩) ?_ ?_
          rotate_left
          · intro w'
            go_simp
            with_reducible rfl
          rotate_left
          · simp only [Act.put, List.setIfInBounds_toArray, List.set_cons_zero, List.set_cons_succ, i64_w, i32_w]
            rfl
          refine pure_ (i := 2) (N := (some 30)) (v := ?_) (a' := ?_) #[true, true, true, false, false, false, false, false, false, false] rfl rfl (by kernel_rfl) (fun _ _ _ h => h) (Or.inl ⟨by rfl, ?_⟩) ?_ ?_
          rotate_left
          · intro w'
            go_simp
            with_reducible rfl
          rotate_left
          · simp only [Act.put, List.setIfInBounds_toArray, List.set_cons_zero, List.set_cons_succ, i64_w, i32_w]
            rfl
          refine pure_ (i := 3) (N := (some 31)) (v := ?_) (a' := ?_) #[true, true, true, true, false, false, false, false, false, false] rfl rfl (by kernel_rfl) (fun _ _ _ h => h) (Or.inl ⟨by rfl, ?_⟩) ?_ ?_
          rotate_left
          · intro w'
            go_simp
            with_reducible rfl
          rotate_left
          · simp only [Act.put, List.setIfInBounds_toArray, List.set_cons_zero, List.set_cons_succ, i64_w, i32_w]
            rfl
          refine pure_ (i := 4) (N := (some 32)) (v := ?_) (a' := ?_) #[true, true, true, true, true, false, false, false, false, false] rfl rfl (by kernel_rfl) (fun _ _ _ h => h) (Or.inl ⟨by rfl, ?_⟩) ?_ ?_
          rotate_left
          · intro w'
            go_simp
            with_reducible rfl
          rotate_left
          · simp only [Act.put, List.setIfInBounds_toArray, List.set_cons_zero, List.set_cons_succ, i64_w, i32_w]
            rfl
          refine pure_ (i := 5) (N := (some 33)) (v := ?_) (a' := ?_) #[true, true, true, true, true, true, false, false, false, false] rfl rfl (by kernel_rfl) (fun _ _ _ h => h) (Or.inl ⟨by rfl, ?_⟩) ?_ ?_
          rotate_left
          · intro w'
            go_simp
            with_reducible rfl
          rotate_left
          · simp only [Act.put, List.setIfInBounds_toArray, List.set_cons_zero, List.set_cons_succ, i64_w, i32_w]
            rfl
          refine pure_ (i := 6) (N := (some 34)) (v := ?_) (a' := ?_) #[true, true, true, true, true, true, true, false, false, false] rfl rfl (by kernel_rfl) (fun _ _ _ h => h) (Or.inl ⟨by rfl, ?_⟩) ?_ ?_
          rotate_left
          · intro w'
            go_simp
            with_reducible rfl
          rotate_left
          · simp only [Act.put, List.setIfInBounds_toArray, List.set_cons_zero, List.set_cons_succ, i64_w, i32_w]
            rfl
          refine one_ (i := 7) (N := some 35) #[true, true, true, true, true, true, true, true, false, false] rfl rfl (by kernel_rfl) (by decide) (fun K hK => ?_)
          refine value_ (w1 := ?_) (v := ?_) (by rfl) rfl ?_ ?_
          rotate_left 2
          · go_simp
            constructor
            · rfl
            · rfl
          refine hK.out _ _ trivial (fun hHeld => ?_)
          clear hK K
          refine norm_ (a' := ?_) ?_ ?_
          rotate_left
          · show Act.put _ (some 35) _ = _
            simp only [Act.put, List.setIfInBounds_toArray, List.set_cons_zero, List.set_cons_succ, i64_w, i32_w]
            rfl
          refine one_ (i := 8) (N := some 36) #[true, true, true, true, true, true, true, true, true, false] rfl rfl (by kernel_rfl) (by decide) (fun K hK => ?_)
          refine rstep_append (by rfl) (.tmp 28) (.tmp 35) 63 63 rfl u3 (.slice (some ⟨W1.heap.size, 0, none⟩) 3 3) v1 W2 (by rfl) (by rfl) HRUN.out ?_
          refine hK.out _ _ trivial (fun hHeld => ?_)
          clear hK K
          refine norm_ (a' := ?_) ?_ ?_
          rotate_left
          · show Act.put _ (some 36) _ = _
            simp only [Act.put, List.setIfInBounds_toArray, List.set_cons_zero, List.set_cons_succ, i64_w, i32_w]
            rfl
          refine pure_ (i := 9) (N := (some 3)) (v := ?_) (a' := ?_) #[true, true, true, true, true, true, true, true, true, true] rfl rfl (by kernel_rfl) (fun _ _ _ h => h) (Or.inl ⟨by rfl, ?_⟩) ?_ ?_
          rotate_left
          · intro w'
            go_simp
            with_reducible rfl
          rotate_left
          · simp only [Act.put, List.setIfInBounds_toArray, List.set_cons_zero, List.set_cons_succ, i64_w, i32_w]
            rfl
          refine done_ (by kernel_rfl) ?_
          clear hdig hdiv hand hq1 hr1 hHeld
          go_wp2
          go_roundw
          case rel => exact HR1.out
          case measure => simp only [numOf]; omega
        · have hb2 : (s[n].toNat : Int) ≤ 126 := by have := mt (u126 _).2 h2; omega
          by_cases h3 : s[n] = 34
          · have hb3 : ((s[n].toNat : Int) == 34) = true := by rw [h3]; decide
            obtain ⟨q, hq⟩ : ∃ q, q = s[n].toNat / 16 := ⟨_, rfl⟩
            obtain ⟨r, hr⟩ : ∃ r, r = s[n].toNat % 16 := ⟨_, rfl⟩
            have hq16 : q < 16 := by omega
            have hr16 : r < 16 := by omega
            have hqq : quo1 s[n] = [92, hexc q, hexc r] := by unfold quo1; rw [if_pos (.inr (.inr (.inl h3))), hq, hr]
            have hdiv : (s[n].toNat : Int) / 16 = (q : Int) := by rw [hq]; omega
            have hand : bits BinOp.and IntKind.u8 (s[n].toNat : Int) 15 = (r : Int) := by rw [hr]; exact and15 _ hx
            have hq1 : ((q : Int) < 16) = True := eq_true (by omega)
            have hr1 : ((r : Int) < 16) = True := eq_true (by omega)
            have hdig := dig_at
            clear hq hr
            clear h1 h2 h3 u32 u126
            obtain ⟨W1, hW1⟩ : ∃ W1, W1 = wr.drew := ⟨_, rfl⟩
            have hbw : Below wr.heap.size wr W1 := by rw [hW1]; exact below_drew (Below.refl _ _)
            obtain ⟨v1, W2, hrun, ho2, hg2, hat⟩ := append_b W1 w.heap.size u3 out [92, hexc q, hexc r] (Nat.le_trans HB.out.size hbw.size) (by simp; omega) (pw_own_below HO.out hbw)
            have HRUN := Lib.hid hrun
            have HR1 : Hid (QuR w (w.heap.size + 1) s ([34] ++ s.data.toList.flatMap quo1) v1 (.int .i64 ((n : Int) + 1)) W2) := Lib.hid ⟨n + 1, out ++ [92, hexc q, hexc r], by push_cast; rfl, by omega, (below_step HB.out hbw).grown hg2 (Nat.le_trans HB.out.size hbw.size) (own_base HO.out), ho2, fun h => by
              rcases hat with hat | ⟨b, hb, hle⟩
              · exact HNE.out (by rw [h, hat])
              · rw [hb] at h
                have e := Option.some.inj h
                have := HBS.out.lt
                have := hbw.size
                omega, (HBS.out.below hbw).grown hg2 HNE.out, by simp; omega, by
              have := HC.out
              rw [hqq] at this
              simpa using this⟩
            clear hrun ho2 hg2 hat hqq
            go_upto_block 6 with fail
            refine start_ (n := 10) (ds := []) (S := fun _ => True) #[false, false, false, false, false, false, false, false, false, false] (by kernel_rfl) rfl rfl trivial ?_
            intro hHeld
            rw [← hW1]
            clear hW1
            refine pure_ (i := 0) (N := (some 28)) (v := ?_) (a' := ?_) #[true, false, false, false, false, false, false, false, false, false] rfl rfl (by kernel_rfl) (fun _ _ _ h => h) (Or.inl ⟨by rfl, ?_⟩) ?_ ?_
            rotate_left
            · intro w'
              go_simp
              with_reducible rfl
            rotate_left
            · simp only [Act.put, List.setIfInBounds_toArray, List.set_cons_zero, List.set_cons_succ, i64_w, i32_w]
              rfl
            refine pure_ (i := 1) (N := (some 29)) (v := ?_) (a' := ?_) #[true, true, false, false, false, false, false, false, false, false] rfl rfl (by kernel_rfl) (fun _ _ _ h => h) (Or.inl ⟨by rfl, ?_⟩) ?_ ?_
            rotate_left
            · intro w'
              go_simp
              with_reducible rfl
            rotate_left
            · simp only [Act.put, List.setIfInBounds_toArray, List.set_cons_zero, List.set_cons_succ, i64_w, i32_w]
              rfl
            refine pure_ (i := 2) (N := (some 30)) (v := ?_) (a' := ?_) #[true, true, true, false, false, false, false, false, false, false] rfl rfl (by kernel_rfl) (fun _ _ _ h => h) (Or.inl ⟨by rfl, ?_⟩) ?_ ?_
            rotate_left
            · intro w'
              go_simp
              with_reducible rfl
            rotate_left
            · simp only [Act.put, List.setIfInBounds_toArray, List.set_cons_zero, List.set_cons_succ, i64_w, i32_w]
              rfl
            refine pure_ (i := 3) (N := (some 31)) (v := ?_) (a' := ?_) #[true, true, true, true, false, false, false, false, false, false] rfl rfl (by kernel_rfl) (fun _ _ _ h => h) (Or.inl ⟨by rfl, ?_⟩) ?_ ?_
            rotate_left
            · intro w'
              go_simp
              with_reducible rfl
            rotate_left
            · simp only [Act.put, List.setIfInBounds_toArray, List.set_cons_zero, List.set_cons_succ, i64_w, i32_w]
              rfl
            refine pure_ (i := 4) (N := (some 32)) (v := ?_) (a' := ?_) #[true, true, true, true, true, false, false, false, false, false] rfl rfl (by kernel_rfl) (fun _ _ _ h => h) (Or.inl ⟨by rfl, ?_⟩) ?_ ?_
            rotate_left
            · intro w'
              go_simp
              with_reducible rfl
            rotate_left
            · simp only [Act.put, List.setIfInBounds_toArray, List.set_cons_zero, List.set_cons_succ, i64_w, i32_w]
              rfl
            refine pure_ (i := 5) (N := (some 33)) (v := ?_) (a' := ?_) #[true, true, true, true, true, true, false, false, false, false] rfl rfl (by kernel_rfl) (fun _ _ _ h => h) (Or.inl ⟨by rfl, ?_⟩) ?_ ?_
            rotate_left
            · intro w'
              go_simp
              with_reducible rfl
            rotate_left
            · simp only [Act.put, List.setIfInBounds_toArray, List.set_cons_zero, List.set_cons_succ, i64_w, i32_w]
              rfl
            refine pure_ (i := 6) (N := (some 34)) (v := ?_) (a' := ?_) #[true, true, true, true, true, true, true, false, false, false] rfl rfl (by kernel_rfl) (fun _ _ _ h => h) (Or.inl ⟨by rfl, ?_⟩) ?_ ?_
            rotate_left
            · intro w'
              go_simp
              with_reducible rfl
            rotate_left
            · simp only [Act.put, List.setIfInBounds_toArray, List.set_cons_zero, List.set_cons_succ, i64_w, i32_w]
              rfl
            refine one_ (i := 7) (N := some 35) #[true, true, true, true, true, true, true, true, false, false] rfl rfl (by kernel_rfl) (by decide) (fun K hK => ?_)
            refine value_ (w1 := ?_) (v := ?_) (by rfl) rfl ?_ ?_
            rotate_left 2
            · go_simp
              constructor
              · rfl
              · rfl
            refine hK.out _ _ trivial (fun hHeld => ?_)
            clear hK K
            refine norm_ (a' := ?_) ?_ ?_
            rotate_left
            · show Act.put _ (some 35) _ = _
              simp only [Act.put, List.setIfInBounds_toArray, List.set_cons_zero, List.set_cons_succ, i64_w, i32_w]
              rfl
            refine one_ (i := 8) (N := some 36) #[true, true, true, true, true, true, true, true, true, false] rfl rfl (by kernel_rfl) (by decide) (fun K hK => ?_)
            refine rstep_append (by rfl) (.tmp 28) (.tmp 35) 63 63 rfl u3 (.slice (some ⟨W1.heap.size, 0, none⟩) 3 3) v1 W2 (by rfl) (by rfl) HRUN.out ?_
            refine hK.out _ _ trivial (fun hHeld => ?_)
            clear hK K
            refine norm_ (a' := ?_) ?_ ?_
            rotate_left
            · show Act.put _ (some 36) _ = _
              simp only [Act.put, List.setIfInBounds_toArray, List.set_cons_zero, List.set_cons_succ, i64_w, i32_w]
              rfl
            refine pure_ (i := 9) (N := (some 3)) (v := ?_) (a' := ?_) #[true, true, true, true, true, true, true, true, true, true] rfl rfl (by kernel_rfl) (fun _ _ _ h => h) (Or.inl ⟨by rfl, ?_⟩) ?_ ?_
            rotate_left
            · intro w'
              go_simp
              with_reducible rfl
            rotate_left
            · simp only [Act.put, List.setIfInBounds_toArray, List.set_cons_zero, List.set_cons_succ, i64_w, i32_w]
              rfl
            refine done_ (by kernel_rfl) ?_
            clear hdig hdiv hand hq1 hr1 hHeld
            go_wp2
            go_roundw
            case rel => exact HR1.out
            case measure => simp only [numOf]; omega
          · have hb3 : ((s[n].toNat : Int) == 34) = false := by
              simp only [beq_eq_false_iff_ne, ne_eq]
              intro h
              exact h3 (UInt8.toNat_inj.1 (by have e : (34 : UInt8).toNat = 34 := rfl; omega))
            by_cases h4 : s[n] = 92
            · have hb4 : ((s[n].toNat : Int) == 92) = true := by rw [h4]; decide
              obtain ⟨q, hq⟩ : ∃ q, q = s[n].toNat / 16 := ⟨_, rfl⟩
              obtain ⟨r, hr⟩ : ∃ r, r = s[n].toNat % 16 := ⟨_, rfl⟩
              have hq16 : q < 16 := by omega
              have hr16 : r < 16 := by omega
              have hqq : quo1 s[n] = [92, hexc q, hexc r] := by unfold quo1; rw [if_pos (.inr (.inr (.inr h4))), hq, hr]
              have hdiv : (s[n].toNat : Int) / 16 = (q : Int) := by rw [hq]; omega
              have hand : bits BinOp.and IntKind.u8 (s[n].toNat : Int) 15 = (r : Int) := by rw [hr]; exact and15 _ hx
              have hq1 : ((q : Int) < 16) = True := eq_true (by omega)
              have hr1 : ((r : Int) < 16) = True := eq_true (by omega)
              have hdig := dig_at
              clear hq hr
              clear h1 h2 h3 h4 u32 u126
              obtain ⟨W1, hW1⟩ : ∃ W1, W1 = wr.drew := ⟨_, rfl⟩
              have hbw : Below wr.heap.size wr W1 := by rw [hW1]; exact below_drew (Below.refl _ _)
              obtain ⟨v1, W2, hrun, ho2, hg2, hat⟩ := append_b W1 w.heap.size u3 out [92, hexc q, hexc r] (Nat.le_trans HB.out.size hbw.size) (by simp; omega) (pw_own_below HO.out hbw)
              have HRUN := Lib.hid hrun
              have HR1 : Hid (QuR w (w.heap.size + 1) s ([34] ++ s.data.toList.flatMap quo1) v1 (.int .i64 ((n : Int) + 1)) W2) := Lib.hid ⟨n + 1, out ++ [92, hexc q, hexc r], by push_cast; rfl, by omega, (below_step HB.out hbw).grown hg2 (Nat.le_trans HB.out.size hbw.size) (own_base HO.out), ho2, fun h => by
                rcases hat with hat | ⟨b, hb, hle⟩
                · exact HNE.out (by rw [h, hat])
                · rw [hb] at h
                  have e := Option.some.inj h
                  have := HBS.out.lt
                  have := hbw.size
                  omega, (HBS.out.below hbw).grown hg2 HNE.out, by simp; omega, by
                have := HC.out
                rw [hqq] at this
                simpa using this⟩
              clear hrun ho2 hg2 hat hqq
              go_upto_block 6 with fail
              refine start_ (n := 10) (ds := []) (S := fun _ => True) #[false, false, false, false, false, false, false, false, false, false] (by kernel_rfl) rfl rfl trivial ?_
              intro hHeld
              rw [← hW1]
              clear hW1
              refine pure_ (i := 0) (N := (some 28)) (v := ?_) (a' := ?_) #[true, false, false, false, false, false, false, false, false, false] rfl rfl (by kernel_rfl) (fun _ _ _ h => h) (Or.inl ⟨by rfl, ?_⟩) ?_ ?_
              rotate_left
              · intro w'
                go_simp
                with_reducible rfl
              rotate_left
              · simp only [Act.put, List.setIfInBounds_toArray, List.set_cons_zero, List.set_cons_succ, i64_w, i32_w]
                rfl
              refine pure_ (i := 1) (N := (some 29)) (v := ?_) (a' := ?_) #[true, true, false, false, false, false, false, false, false, false] rfl rfl (by kernel_rfl) (fun _ _ _ h => h) (Or.inl ⟨by rfl, ?_⟩) ?_ ?_
              rotate_left
              · intro w'
                go_simp
                with_reducible rfl
              rotate_left
              · simp only [Act.put, List.setIfInBounds_toArray, List.set_cons_zero, List.set_cons_succ, i64_w, i32_w]
                rfl
              refine pure_ (i := 2) (N := (some 30)) (v := ?_) (a' := ?_) #[true, true, true, false, false, false, false, false, false, false] rfl rfl (by kernel_rfl) (fun _ _ _ h => h) (Or.inl ⟨by rfl, ?_⟩) ?_ ?_
              rotate_left
              · intro w'
                go_simp
                with_reducible rfl
              rotate_left
              · simp only [Act.put, List.setIfInBounds_toArray, List.set_cons_zero, List.set_cons_succ, i64_w, i32_w]
                rfl
              refine pure_ (i := 3) (N := (some 31)) (v := ?_) (a' := ?_) #[true, true, true, true, false, false, false, false, false, false] rfl rfl (by kernel_rfl) (fun _ _ _ h => h) (Or.inl ⟨by rfl, ?_⟩) ?_ ?_
              rotate_left
              · intro w'
                go_simp
                with_reducible rfl
              rotate_left
              · simp only [Act.put, List.setIfInBounds_toArray, List.set_cons_zero, List.set_cons_succ, i64_w, i32_w]
                rfl
              refine pure_ (i := 4) (N := (some 32)) (v := ?_) (a' := ?_) #[true, true, true, true, true, false, false, false, false, false] rfl rfl (by kernel_rfl) (fun _ _ _ h => h) (Or.inl ⟨by rfl, ?_⟩) ?_ ?_
              rotate_left
              · intro w'
                go_simp
                with_reducible rfl
              rotate_left
              · simp only [Act.put, List.setIfInBounds_toArray, List.set_cons_zero, List.set_cons_succ, i64_w, i32_w]
                rfl
              refine pure_ (i := 5) (N := (some 33)) (v := ?_) (a' := ?_) #[true, true, true, true, true, true, false, false, false, false] rfl rfl (by kernel_rfl) (fun _ _ _ h => h) (Or.inl ⟨by rfl, ?_⟩) ?_ ?_
              rotate_left
              · intro w'
                go_simp
                with_reducible rfl
              rotate_left
              · simp only [Act.put, List.setIfInBounds_toArray, List.set_cons_zero, List.set_cons_succ, i64_w, i32_w]
                rfl
              refine pure_ (i := 6) (N := (some 34)) (v := ?_) (a' := ?_) #[true, true, true, true, true, true, true, false, false, false] rfl rfl (by kernel_rfl) (fun _ _ _ h => h) (Or.inl ⟨by rfl, ?_⟩) ?_ ?_
              rotate_left
              · intro w'
                go_simp
                with_reducible rfl
              rotate_left
              · simp only [Act.put, List.setIfInBounds_toArray, List.set_cons_zero, List.set_cons_succ, i64_w, i32_w]
                rfl
              refine one_ (i := 7) (N := some 35) #[true, true, true, true, true, true, true, true, false, false] rfl rfl (by kernel_rfl) (by decide) (fun K hK => ?_)
              refine value_ (w1 := ?_) (v := ?_) (by rfl) rfl ?_ ?_
              rotate_left 2
              · go_simp
                constructor
                · rfl
                · rfl
              refine hK.out _ _ trivial (fun hHeld => ?_)
              clear hK K
              refine norm_ (a' := ?_) ?_ ?_
              rotate_left
              · show Act.put _ (some 35) _ = _
                simp only [Act.put, List.setIfInBounds_toArray, List.set_cons_zero, List.set_cons_succ, i64_w, i32_w]
                rfl
              refine one_ (i := 8) (N := some 36) #[true, true, true, true, true, true, true, true, true, false] rfl rfl (by kernel_rfl) (by decide) (fun K hK => ?_)
              refine rstep_append (by rfl) (.tmp 28) (.tmp 35) 63 63 rfl u3 (.slice (some ⟨W1.heap.size, 0, none⟩) 3 3) v1 W2 (by rfl) (by rfl) HRUN.out ?_
              refine hK.out _ _ trivial (fun hHeld => ?_)
              clear hK K
              refine norm_ (a' := ?_) ?_ ?_
              rotate_left
              · show Act.put _ (some 36) _ = _
                simp only [Act.put, List.setIfInBounds_toArray, List.set_cons_zero, List.set_cons_succ, i64_w, i32_w]
                rfl
              refine pure_ (i := 9) (N := (some 3)) (v := ?_) (a' := ?_) #[true, true, true, true, true, true, true, true, true, true] rfl rfl (by kernel_rfl) (fun _ _ _ h => h) (Or.inl ⟨by rfl, ?_⟩) ?_ ?_
              rotate_left
              · intro w'
                go_simp
                with_reducible rfl
              rotate_left
              · simp only [Act.put, List.setIfInBounds_toArray, List.set_cons_zero, List.set_cons_succ, i64_w, i32_w]
                rfl
              refine done_ (by kernel_rfl) ?_
              clear hdig hdiv hand hq1 hr1 hHeld
              go_wp2
              go_roundw
              case rel => exact HR1.out
              case measure => simp only [numOf]; omega
            · have hb4 : ((s[n].toNat : Int) == 92) = false := by
                simp only [beq_eq_false_iff_ne, ne_eq]
                intro h
                exact h4 (UInt8.toNat_inj.1 (by have e : (92 : UInt8).toNat = 92 := rfl; omega))
              have hqq : quo1 s[n] = [s[n]] := by
                unfold quo1
                rw [if_neg (fun h => by rcases h with h | h | h | h; exact h1 h; exact h2 h; exact h3 h; exact h4 h)]
              clear h1 h2 h3 h4 u32 u126
              obtain ⟨v1, W2, hrun, ho2, hg2, hat⟩ := append_b wr w.heap.size u3 out [s[n]] HB.out.size (by simp; omega) HO.out
              have HRUN := Lib.hid hrun
              have HR1 : Hid (QuR w (w.heap.size + 1) s ([34] ++ s.data.toList.flatMap quo1) v1 (.int .i64 ((n : Int) + 1)) W2) := Lib.hid ⟨n + 1, out ++ [s[n]], by push_cast; rfl, by omega, HB.out.grown hg2 HB.out.size (own_base HO.out), ho2, fun h => by
                rcases hat with hat | ⟨b, hb, hle⟩
                · exact HNE.out (by rw [h, hat])
                · rw [hb] at h
                  have e := Option.some.inj h
                  have := HBS.out.lt
                  omega, HBS.out.grown hg2 HNE.out, by simp; omega, by
                have := HC.out
                rw [hqq] at this
                simpa using this⟩
              clear hrun ho2 hg2 hat hqq
              go_wp2_with (at_builtin; go_loud (refine step_append rfl (.tmp 37) (.tmp 39) 63 63 rfl u3 (.slice (some ⟨wr.heap.size, 0, none⟩) 1 1) v1 W2 (by first | (go_simp; done) | (go_simp; rfl) | rfl) (by first | (go_simp; done) | (go_simp; rfl) | rfl) HRUN.out ?_))
              go_roundw
              case rel => exact HR1.out
              case measure => simp only [numOf]; omega
    · have hfin : out = [34] ++ s.data.toList.flatMap quo1 := by
        rw [drop_end s n (by omega)] at hc
        simpa using hc
      obtain ⟨v1, W2, hrun, ho2, hg2, hat⟩ := append_b wr w.heap.size u3 out [34] HB.out.size (by simp; omega) HO.out
      have HRUN := Lib.hid hrun
      have HB2 := Lib.hid (HB.out.grown hg2 HB.out.size (own_base HO.out))
      have hcv : (convert 63 9 v1).run Tryd.prog W2 = .ok (.string ⟨(quo s.data.toList).toArray⟩) W2 := by
        have := own_string (P := Tryd.prog) (src := 63) (dst := 9) Tryd.underlying63 Tryd.underlying5 Tryd.underlying9 ho2
        rw [str_nb, hfin] at this
        exact this
      clear hrun ho2 hg2 hat hc hbs hfin
      go_wp2_with (at_builtin; go_loud (refine step_append rfl (.tmp 42) (.tmp 43) 63 63 rfl u3 (.slice (some ⟨wr.heap.size, 0, none⟩) 1 1) v1 W2 (by first | (go_simp; done) | (go_simp; rfl) | rfl) (by first | (go_simp; done) | (go_simp; rfl) | rfl) HRUN.out ?_))
      go_ret
      exact ⟨rfl, HB2.out⟩
end Go.Proofs.YtjecdciabpjgcaaDoor.Lx
