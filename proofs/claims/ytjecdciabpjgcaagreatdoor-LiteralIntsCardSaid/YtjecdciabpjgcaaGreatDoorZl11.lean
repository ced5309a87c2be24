/-
  The walks of the reference's row, number and Int of chapter 8. Condition: the text is no longer than 1000000 bytes.
-/
import Derived.Maps.AppendAt
import Derived.Deep.RegionWith
import Derived.Test.YtjecdciabpjgcaaGreatDoorZl0
import Derived.Test.YtjecdciabpjgcaaGreatDoorZl1
import Derived.Test.YtjecdciabpjgcaaGreatDoorZl2
import Derived.Test.YtjecdciabpjgcaaGreatDoorZl3
import Derived.Test.YtjecdciabpjgcaaGreatDoorZl4
import Derived.Test.YtjecdciabpjgcaaGreatDoorZl5
import Derived.Test.YtjecdciabpjgcaaGreatDoorZl6
import Derived.Test.YtjecdciabpjgcaaGreatDoorZl7
import Derived.Test.YtjecdciabpjgcaaGreatDoorZl8
import Derived.Test.YtjecdciabpjgcaaGreatDoorZl9
import Derived.Test.YtjecdciabpjgcaaGreatDoorZl10
namespace Go.Proofs.YtjecdciabpjgcaaGreatDoor.Lz
set_option linter.unusedVariables false
set_option linter.unusedSimpArgs false
open Go.RowKit Go.Proofs.YtjecdciabpjgcaaGreatDoorW.PrintWords Go.Proofs.YtjecdciabpjgcaaGreatDoor.Lx Go.Proofs.YtjecdciabpjgcaaGreatDoor.PLz
/-- Bytes as numbers. -/
def nb (l : List UInt8) : List Int := l.map fun c => (c.toNat : Int)
theorem nb_len (l : List UInt8) : (nb l).length = l.length := by simp [nb]
theorem nb_app (a b : List UInt8) : nb (a ++ b) = nb a ++ nb b := by simp [nb]
theorem str_nb (l : List UInt8) : strOfNums (nb l) = ⟨l.toArray⟩ := by
  have e : (nb l).map (fun n : Int => n.toNat.toUInt8) = l := by
    unfold nb
    rw [List.map_map]
    conv => rhs; rw [← List.map_id l]
    apply List.map_congr_left
    intro c _
    simp
  have h : strOfNums (nb l) = ⟨((nb l).map (fun n : Int => n.toNat.toUInt8)).toArray⟩ := rfl
  rw [h, e]
theorem info5 : (Tryz.prog.info? 5).map (fun i => (i.zero, i.size, i.bytes)) = some (some (.int .u8 0), 1, 1) := by kernel_rfl
theorem append_b (W : World) (base : Nat) (v : Value) (out bs : List UInt8) (hb : base ≤ W.heap.size) (hl : out.length + bs.length ≤ 100000000) (HO : W.ownsRow base 5 1 v (nb out).length (nums .u8 (nb out))) :
    ∃ v1 w1, (Builtin.append_ #[49, 49] 49 #[v, .slice (some ⟨W.heap.size, 0, none⟩) bs.length bs.length]).run Tryz.prog (W.alloc (.cells (nums .u8 (nb bs)).toArray 5)) = .ok v1 w1 ∧ w1.ownsRow base 5 1 v1 (nb (out ++ bs)).length (nums .u8 (nb (out ++ bs))) ∧ W.grownBy w1 v.ownBlock ∧
      (v1.ownBlock = v.ownBlock ∨ ∃ b, v1.ownBlock = some b ∧ W.heap.size ≤ b) := by
  obtain ⟨i, hi, hz⟩ := Option.map_eq_some_iff.1 info5
  simp only [Prod.mk.injEq] at hz
  obtain ⟨hz0, hz1, hz2⟩ := hz
  have hb1 : Below W.heap.size W (W.alloc (Obj.cells (nums .u8 (nb bs)).toArray 5)) := (Below.refl _ _).alloc (Nat.le_refl _) _
  have hn := heap_alloc_new W (Obj.cells (nums .u8 (nb bs)).toArray 5)
  have hln : (nums .u8 (nb bs)).length = bs.length * 1 := by simp [nums, nb]
  obtain ⟨v1, w1, hrun, h2, h3, _, h5⟩ := run_append_own_at (P := Tryz.prog) _ base 49 49 5 i _ 1 1 Tryz.underlying49 hi hz0 hz1 hz2 rfl (by decide) v (nb out).length (nums .u8 (nb out)) (pw_own_below HO hb1)
    ⟨W.heap.size, 0, none⟩ bs.length bs.length (nums .u8 (nb bs)) hln (fun j u hu => by
      have hc := blk_cell hn j
      have ha : (⟨W.heap.size, 0, none⟩ : Addr).add j = ⟨W.heap.size, j, none⟩ := by unfold Addr.add; simp; intro h; exact h.symm
      rw [ha, hc]
      simpa using hu) (by
      intro u hu
      simp only [nums, List.mem_map] at hu
      obtain ⟨x, _, rfl⟩ := hu
      rfl) (by simp only [maxLen, nb_len]; omega) (by rw [nb_len]; omega) (Nat.le_trans hb hb1.size)
  have hg : W.grownBy w1 v.ownBlock := ⟨h3.os, h3.tape, h3.output, Nat.le_trans hb1.size h3.size, fun k hk hne => (h3.block k (Nat.lt_of_lt_of_le hk hb1.size) hne).trans (hb1.block k hk)⟩
  refine ⟨v1, w1, hrun, ?_, hg, ?_⟩
  · have e1 : (nb (out ++ bs)).length = (nb out).length + bs.length := by rw [nb_len, nb_len, List.length_append]
    have e2 : nums .u8 (nb (out ++ bs)) = nums .u8 (nb out) ++ nums .u8 (nb bs) := by rw [nb_app]; simp [nums]
    rw [e1, e2]
    exact h2
  · rcases h5 with h5 | h5
    · exact .inl h5
    · exact .inr ⟨_, h5, hb1.size⟩
/-- A digit's value as the reference tells it. -/
def digV (hex : Bool) (c : UInt8) : Int := if isdig hex c = true then (dval c : Int) else -1
theorem dig_f2 : ∀ hex : Bool, ((List.range 256).all fun c => decide (bodkinref08_digit.f 2 (c : Int) hex = some (digV hex c.toUInt8))) = true := by decide +kernel
theorem dig_f (k : Nat) (hk : 2 ≤ k) (c : UInt8) (hex : Bool) : bodkinref08_digit.f k (c.toNat : Int) hex = some (digV hex c) := by
  induction k with
  | zero => omega
  | succ k ih =>
    rcases Nat.lt_or_ge k 2 with h | h
    · have hk2 : k + 1 = 2 := by omega
      rw [hk2]
      have := List.all_eq_true.1 (dig_f2 hex) c.toNat (List.mem_range.2 c.toNat_lt)
      simpa using this
    · exact bodkinref08_digit.mono _ _ k _ (ih h)
theorem dig_c (c : UInt8) (hex : Bool) (r : Int) (h : digV hex c = r) (w : World) : Calls Tryz.prog 62 #[.int .u8 (c.toNat : Int), .bool hex] w fun e w' => e = .returned (.int .i64 r) ∧ Drawn0 w w' :=
  bodkinref08_digit.calls 2 _ hex r w (by rw [dig_f 2 (Nat.le_refl _) c hex, h])
def goAt (s : ByteArray) (i : Nat) : Bool := decide (0 < i) && (s.data.toList.getD (i - 1) 0 != 95)
theorem goAt_succ (s : ByteArray) (i : Nat) (h : i < s.size) : goAt s (i + 1) = (s[i] != 95) := by
  unfold goAt
  rw [Nat.add_sub_cancel, decide_eq_true (by omega), Bool.true_and, List.getD_eq_getElem?_getD, List.getElem?_eq_getElem (by rw [len_data]; exact h)]
  rfl
structure RrQ (w : World) (r : List UInt8 × List UInt8) (e : Ending) (w' : World) : Prop where mk ::
  (out : e = .returned (.tuple #[.string ⟨r.1.toArray⟩, .string ⟨r.2.toArray⟩, .bool (!r.1.isEmpty)]) ∧ Below w.heap.size w w')
def RwR (w : World) (s : ByteArray) (hex : Bool) (R : List UInt8 × List UInt8) (v7 v8 : Value) (wr : World) : Prop :=
  ∃ (i : Nat) (out : List UInt8), v8 = .int .i64 (i : Int) ∧ i ≤ s.size ∧ out.length ≤ i ∧ Below w.heap.size w wr ∧ wr.ownsRow w.heap.size 5 1 v7 (nb out).length (nums .u8 (nb out)) ∧
    out ++ (rrow hex (goAt s i) (s.data.toList.drop i)).1 = R.1 ∧ (rrow hex (goAt s i) (s.data.toList.drop i)).2 = R.2
def posV : Value → Nat
  | .int _ n => n.toNat
  | _ => 0
theorem step_append {P : Program} {ops : Array Oper} {rest : List Oper} {o : Oper} {a : Act} {Q : Exit → Act → World → Prop} {W : World} (hgd : o.guard = none) (s x : Operand) (t t' : TypeId)
    (ho : o.op = .call { callee := .builtin .append, args := #[s, x], argTypes := #[t, t'] }) (vs vx r : Value) (w1 : World) (hs : a.eval s = vs) (hx : a.eval x = vx) (hr : (Builtin.append_ #[t, t'] o.type #[vs, vx]).run P W = .ok r w1)
    (h : wpList P ops Q rest (a.put o.dst r) w1) : wpList P ops Q (o :: rest) a W := by
  refine wpList_plain hgd fun K hK => ?_
  unfold Oper.wp execOp
  simp only [ho, resolve, invoke, builtin, Sem.run_bind, Sem.run_pure, Result.andThen_ok, List.map_toArray, List.map_cons, List.map_nil, hs, hx, hr]
  exact hK _ _ h
theorem RrQ.fin {w w' : World} {out : List UInt8} {s : ByteArray} {i : Nat} {R : List UInt8 × List UInt8} (h : (out, s.data.toList.drop i) = R) (hb : Below w.heap.size w w') : RrQ w R (.returned (.tuple #[.string ⟨out.toArray⟩, .string (s.extract i s.size), .bool (decide (0 < out.length))])) w' := by
  subst h
  refine ⟨?_, hb⟩
  have e1 : s.extract i s.size = ⟨(s.data.toList.drop i).toArray⟩ := by
    rw [Lib.extract_eq, List.take_of_length_le (by rw [List.length_drop, len_data]; omega)]
  have e2 : (decide (0 < out.length)) = !out.isEmpty := by cases out <;> simp
  rw [e1, e2]
theorem RrQ.fin0 {w w' : World} {out : List UInt8} {s : ByteArray} {R : List UInt8 × List UInt8} (h : (out, s.data.toList.drop 0) = R) (hb : Below w.heap.size w w') : RrQ w R (.returned (.tuple #[.string ⟨out.toArray⟩, .string s, .bool (decide (0 < out.length))])) w' := by
  have := RrQ.fin h hb
  rwa [Lib.extract_eq, List.drop_zero, Nat.sub_zero, List.take_of_length_le (by rw [len_data]; omega), Lib.mk_data] at this
theorem rrow_stop (hex go : Bool) (c : UInt8) (t : List UInt8) (h : ¬ (c = 95 ∧ go = true ∧ nextDig hex t = true)) (hd : isdig hex c = false) : rrow hex go (c :: t) = ([], c :: t) := by
  unfold rrow
  rw [if_neg h, if_neg (by rw [hd]; exact Bool.false_ne_true)]
theorem rrow_skip (hex go : Bool) (c : UInt8) (t : List UInt8) (h : c = 95 ∧ go = true ∧ nextDig hex t = true) : rrow hex go (c :: t) = rrow hex false t := by
  conv => lhs; unfold rrow
  rw [if_pos h]
theorem rrow_dig (hex go : Bool) (c : UInt8) (t : List UInt8) (hd : isdig hex c = true) : rrow hex go (c :: t) = (c :: (rrow hex true t).1, (rrow hex true t).2) := by
  conv => lhs; unfold rrow
  rw [if_neg (fun h => dig_ne hex c hd h.1), if_pos hd]
theorem byte_ne (a b : UInt8) (h : a ≠ b) : ((a.toNat : Int) == (b.toNat : Int)) = false := by
  simp only [beq_eq_false_iff_ne, ne_eq]
  intro e
  exact h (UInt8.toNat_inj.1 (by omega))
theorem byte_eq (a b : UInt8) (h : a = b) : ((a.toNat : Int) == (b.toNat : Int)) = true := by rw [h]; simp
theorem digV_neg {hex : Bool} {c : UInt8} (h : isdig hex c = false) : digV hex c = -1 := by unfold digV; rw [if_neg (by rw [h]; exact Bool.false_ne_true)]
theorem digV_pos {hex : Bool} {c : UInt8} (h : isdig hex c = true) : digV hex c = (dval c : Int) := by unfold digV; rw [if_pos h]
set_option maxRecDepth 1000000 in
set_option maxHeartbeats 8000000 in
theorem rrow_c (s : ByteArray) (hex : Bool) (hs : s.size ≤ 1000000) (w : World) (R : List UInt8 × List UInt8) (hR : rrow hex false s.data.toList = R) : Calls Tryz.prog 29 #[.string s, .bool hex] w (RrQ w R) := by
  have HA : Hid (RwR w s hex R (.slice none 0 0) (.int .i64 0) w) := Lib.hid ⟨0, [], rfl, Nat.zero_le _, by simp, Below.refl _ _, own_nil _ _ _ _, by rw [List.drop_zero]; exact congrArg Prod.fst hR, by rw [List.drop_zero]; exact congrArg Prod.snd hR⟩
  clear hR
  go_enter Tryz.func29, Tryz.ntmps29
  go_wp2
  go_loopw [7, 8] (RwR w s hex R) (fun _ v8 _ => s.size - posV v8)
  case atStart => exact HA.out
  case round =>
    obtain ⟨i, out, rfl, hi, hol, hb, ho, hr1, hr2⟩ := hrel
    clear HA
    rename World => W
    have HB := Lib.hid hb
    have HO := Lib.hid ho
    have hcv := Lib.hid (fun (v : Value) (W' : World) (h : W'.ownsRow w.heap.size 5 1 v (nb out).length (nums .u8 (nb out))) => own_string (P := Tryz.prog) (src := 49) (dst := 9) Tryz.underlying49 Tryz.underlying5 Tryz.underlying9 h)
    rw [str_nb] at hcv
    have hnl := nb_len out
    rw [hnl] at hcv HO ho
    clear hb ho
    by_cases hlt : i < s.size
    · have hi1 : (i : Int) < (s.size : Int) := by omega
      have hi2 : (0 : Int) ≤ (i : Int) := by omega
      have hi3 : i ≤ s.size := hi
      have hdr := drop_at s i hlt
      by_cases h95 : s[i] = 95
      · have hnd : isdig hex s[i] = false := by rw [h95]; exact dig_95 hex
        have HX := Lib.hid (fun w => dig_c s[i] hex (-1) (digV_neg hnd) w)
        have q95 := byte_eq s[i] 95 h95
        rw [show (((95 : UInt8).toNat : Nat) : Int) = 95 from rfl] at q95
        cases i with
        | zero =>
          have HE : Hid ((out, s.data.toList.drop 0) = R) := Lib.hid (by
            rw [hdr, rrow_stop hex _ _ _ (fun h => by have := h.2.1; simp [goAt] at this) hnd] at hr1 hr2
            rw [hdr]
            exact Prod.ext (by simpa using hr1) hr2)
          clear hr1 hr2 hdr h95 hnd
          rw [show ((0 : Nat) : Int) = 0 from rfl] at *
          obtain ⟨A7, c7, hv7⟩ := own_slice HO.out
          subst hv7
          go_wp2_with (first | (go_at_call 62; ((with_reducible refine (HX.out _).mono ?_)); rintro e w1 ⟨rfl, hd⟩; have HB1 := Lib.hid (below_step HB.out hd.below); have HO1 := Lib.hid (pw_own_below HO.out hd.below); clear hd))
          have hcvx := hcv.out _ _ (pw_own_below HO1.out (below_drew (Below.refl _ _)))
          go_region_with fail
          all_goals
            go_simp
            go_wp2
            go_ret3
            first | exact RrQ.fin HE.out (below_step HB1.out (below_drew (Below.refl _ _))) | exact RrQ.fin0 HE.out (below_step HB1.out (below_drew (Below.refl _ _)))
        | succ j =>
          have hj1 : (j : Int) < (s.size : Int) := by omega
          have hj2 : (0 : Int) ≤ (j : Int) := by omega
          have hj3 : ((j : Int) + 1 > 0) = True := eq_true (by omega)
          have hgo := goAt_succ s j (by omega)
          push_cast at hi1 hi2
          by_cases p95 : s[j] = 95
          · have q2 : ((s[j].toNat : Int) != 95) = false := by rw [p95]; rfl
            have HE : Hid ((out, s.data.toList.drop (j + 1)) = R) := Lib.hid (by
              rw [hdr, rrow_stop hex _ _ _ (fun h => by have := h.2.1; rw [hgo, p95] at this; simp at this) hnd] at hr1 hr2
              rw [hdr]
              exact Prod.ext (by simpa using hr1) hr2)
            clear hr1 hr2 hdr h95 hnd hgo p95
            obtain ⟨A7, c7, hv7⟩ := own_slice HO.out
            subst hv7
            go_wp2_with (first | (go_at_call 62; ((with_reducible refine (HX.out _).mono ?_)); rintro e w1 ⟨rfl, hd⟩; have HB1 := Lib.hid (below_step HB.out hd.below); have HO1 := Lib.hid (pw_own_below HO.out hd.below); clear hd))
            have hcvx := hcv.out _ _ (pw_own_below HO1.out (below_drew (Below.refl _ _)))
            go_region_with fail
            all_goals
              go_simp
              go_wp2
              go_ret3
              first | exact RrQ.fin HE.out (below_step HB1.out (below_drew (Below.refl _ _))) | exact RrQ.fin0 HE.out (below_step HB1.out (below_drew (Below.refl _ _)))
          · have q2 : ((s[j].toNat : Int) != 95) = true := by have := byte_ne s[j] 95 p95; simpa using this
            have hg : goAt s (j + 1) = true := by rw [hgo]; simpa using p95
            by_cases hl2 : j + 1 + 1 < s.size
            · have hl3 : (j : Int) + 1 + 1 < (s.size : Int) := by omega
              have hl4 : (0 : Int) ≤ (j : Int) + 1 + 1 := by omega
              have hdr2 := drop_at s (j + 1 + 1) hl2
              by_cases hd2 : isdig hex s[j + 1 + 1] = true
              · have HY := Lib.hid (fun w => dig_c s[j + 1 + 1] hex _ (digV_pos hd2) w)
                have hy0 : (0 : Int) ≤ (dval s[j + 1 + 1] : Int) := by omega
                have HN : Hid (out ++ (rrow hex (goAt s (j + 1 + 1)) (s.data.toList.drop (j + 1 + 1))).1 = R.1 ∧ (rrow hex (goAt s (j + 1 + 1)) (s.data.toList.drop (j + 1 + 1))).2 = R.2) := Lib.hid (by
                  have e2 : goAt s (j + 1 + 1) = false := by rw [goAt_succ s (j + 1) hlt, h95]; rfl
                  rw [hdr, rrow_skip hex _ _ _ ⟨h95, hg, by rw [hdr2]; exact hd2⟩] at hr1 hr2
                  rw [e2]
                  exact ⟨hr1, hr2⟩)
                generalize dval s[j + 1 + 1] = y at *
                clear hr1 hr2 hdr hdr2 h95 hnd hgo hg hd2 p95
                go_wp2_with (first | (go_at_call 62; ((with_reducible refine (HY.out _).mono ?_)); rintro e w1 ⟨rfl, hd⟩; have HB1 := Lib.hid (below_step HB.out hd.below); have HO1 := Lib.hid (pw_own_below HO.out hd.below); clear hd))
                go_roundw
                case rel => exact ⟨j + 1 + 1, out, by push_cast; rfl, by omega, by omega, HB1.out, by rw [hnl]; exact HO1.out, HN.out.1, HN.out.2⟩
                case measure => simp only [posV]; omega
              · have hd2 : isdig hex s[j + 1 + 1] = false := by simpa using hd2
                have HY := Lib.hid (fun w => dig_c s[j + 1 + 1] hex (-1) (digV_neg hd2) w)
                have HE : Hid ((out, s.data.toList.drop (j + 1)) = R) := Lib.hid (by
                  rw [hdr, rrow_stop hex _ _ _ (fun h => by have := h.2.2; rw [hdr2] at this; exact absurd (hd2.symm.trans this) Bool.false_ne_true) hnd] at hr1 hr2
                  rw [hdr]
                  exact Prod.ext (by simpa using hr1) hr2)
                clear hr1 hr2 hdr hdr2 h95 hnd hgo hg hd2 p95
                obtain ⟨A7, c7, hv7⟩ := own_slice HO.out
                subst hv7
                go_wp2_with (first | (go_at_call 62; ((with_reducible refine (HY.out _).mono ?_)); rintro e w1 ⟨rfl, hd⟩; have HB1 := Lib.hid (below_step HB.out hd.below); have HO1 := Lib.hid (pw_own_below HO.out hd.below); clear hd) | (go_at_call 62; ((with_reducible refine (HX.out _).mono ?_)); rintro e w2 ⟨rfl, hd⟩; have HB2 := Lib.hid (below_step HB1.out hd.below); have HO2 := Lib.hid (pw_own_below HO1.out hd.below); clear hd))
                have hcvx := hcv.out _ _ (pw_own_below HO2.out (below_drew (Below.refl _ _)))
                go_region_with fail
                all_goals
                  go_simp
                  go_wp2
                  go_ret3
                  first | exact RrQ.fin HE.out (below_step HB2.out (below_drew (Below.refl _ _))) | exact RrQ.fin0 HE.out (below_step HB2.out (below_drew (Below.refl _ _)))
            · have hl3 : (s.size : Int) ≤ (j : Int) + 1 + 1 := by omega
              have HE : Hid ((out, s.data.toList.drop (j + 1)) = R) := Lib.hid (by
                rw [hdr, rrow_stop hex _ _ _ (fun h => by have := h.2.2; rw [Lx.drop_end s _ (by omega)] at this; cases this) hnd] at hr1 hr2
                rw [hdr]
                exact Prod.ext (by simpa using hr1) hr2)
              clear hr1 hr2 hdr h95 hnd hgo hg p95
              obtain ⟨A7, c7, hv7⟩ := own_slice HO.out
              subst hv7
              go_wp2_with (first | (go_at_call 62; ((with_reducible refine (HX.out _).mono ?_)); rintro e w1 ⟨rfl, hd⟩; have HB1 := Lib.hid (below_step HB.out hd.below); have HO1 := Lib.hid (pw_own_below HO.out hd.below); clear hd))
              have hcvx := hcv.out _ _ (pw_own_below HO1.out (below_drew (Below.refl _ _)))
              go_region_with fail
              all_goals
                go_simp
                go_wp2
                go_ret3
                first | exact RrQ.fin HE.out (below_step HB1.out (below_drew (Below.refl _ _))) | exact RrQ.fin0 HE.out (below_step HB1.out (below_drew (Below.refl _ _)))
      · have q95 := byte_ne s[i] 95 h95
        rw [show (((95 : UInt8).toNat : Nat) : Int) = 95 from rfl] at q95
        by_cases hd : isdig hex s[i] = true
        · have HX := Lib.hid (fun w => dig_c s[i] hex _ (digV_pos hd) w)
          have hy0 : (0 : Int) ≤ (dval s[i] : Int) := by omega
          have e2 : goAt s (i + 1) = true := by rw [goAt_succ s i hlt]; simpa using h95
          rw [hdr, rrow_dig hex _ _ _ hd] at hr1 hr2
          have HN1 : Hid (out ++ [s[i]] ++ (rrow hex (goAt s (i + 1)) (s.data.toList.drop (i + 1))).1 = R.1) := Lib.hid (by rw [e2, List.append_assoc]; exact hr1)
          have HN2 : Hid ((rrow hex (goAt s (i + 1)) (s.data.toList.drop (i + 1))).2 = R.2) := Lib.hid (by rw [e2]; exact hr2)
          generalize dval s[i] = y at *
          clear hr1 hr2 hdr h95 hd e2
          go_wp2_with (first | (go_at_call 62; ((with_reducible refine (HX.out _).mono ?_)); rintro e w1 ⟨rfl, hd⟩; have HB1 := Lib.hid (below_step HB.out hd.below); have HO1 := Lib.hid (pw_own_below HO.out hd.below); clear hd; obtain ⟨v1, W2, hrun, ho2, hg2, hat⟩ := append_b w1 w.heap.size u7 out [s[i]] HB1.out.size (by simp; omega) (by rw [hnl]; exact HO1.out); have HRUN := Lib.hid hrun; have HR1 : Hid (RwR w s hex R v1 (.int .i64 ((i : Int) + 1)) W2) := Lib.hid ⟨i + 1, out ++ [s[i]], by push_cast; rfl, by omega, by simp; omega, HB1.out.grown hg2 HB1.out.size (own_base HO1.out), ho2, HN1.out, HN2.out⟩; clear hrun ho2 hg2 hat) | (at_builtin; go_loud (refine step_append rfl (.tmp 52) (.tmp 56) 49 49 rfl u7 (.slice (some ⟨w1.heap.size, 0, none⟩) 1 1) v1 W2 (by first | (go_simp; done) | (go_simp; rfl) | rfl) (by first | (go_simp; done) | (go_simp; rfl) | rfl) HRUN.out ?_)))
          go_roundw
          case rel => exact HR1.out
          case measure => simp only [posV]; omega
        · have hnd : isdig hex s[i] = false := by simpa using hd
          have HX := Lib.hid (fun w => dig_c s[i] hex (-1) (digV_neg hnd) w)
          have HE : Hid ((out, s.data.toList.drop i) = R) := Lib.hid (by
            rw [hdr, rrow_stop hex _ _ _ (fun h => h95 h.1) hnd] at hr1 hr2
            rw [hdr]
            exact Prod.ext (by simpa using hr1) hr2)
          clear hr1 hr2 hdr h95 hnd hd
          obtain ⟨A7, c7, hv7⟩ := own_slice HO.out
          subst hv7
          go_wp2_with (first | (go_at_call 62; ((with_reducible refine (HX.out _).mono ?_)); rintro e w1 ⟨rfl, hd⟩; have HB1 := Lib.hid (below_step HB.out hd.below); have HO1 := Lib.hid (pw_own_below HO.out hd.below); clear hd))
          have hcvx := hcv.out _ _ (pw_own_below HO1.out (below_drew (Below.refl _ _)))
          go_region_with fail
          all_goals
            go_simp
            go_wp2
            go_ret3
            first | exact RrQ.fin HE.out (below_step HB1.out (below_drew (Below.refl _ _))) | exact RrQ.fin0 HE.out (below_step HB1.out (below_drew (Below.refl _ _)))
    · skip
      have HE : Hid ((out, s.data.toList.drop i) = R) := Lib.hid (by
        rw [Lx.drop_end s i (by omega)] at hr1 hr2 ⊢
        exact Prod.ext (by simpa [rrow] using hr1) (by simpa [rrow] using hr2))
      have hge : (s.size : Int) ≤ (i : Int) := by omega
      have hi3 : i ≤ s.size := hi
      have hi2 : (0 : Int) ≤ (i : Int) := by omega
      have hile : (i : Int) ≤ (s.size : Int) := by omega
      clear hr1 hr2
      obtain ⟨A7, c7, hv7⟩ := own_slice HO.out
      subst hv7
      go_wp2_with fail
      have hcvx := hcv.out _ _ (pw_own_below HO.out (below_drew (Below.refl _ _)))
      go_region_with fail
      all_goals
        go_simp
        go_wp2
        go_ret3
        first | exact RrQ.fin HE.out (below_step HB.out (below_drew (Below.refl _ _))) | exact RrQ.fin0 HE.out (below_step HB.out (below_drew (Below.refl _ _)))
end Go.Proofs.YtjecdciabpjgcaaGreatDoor.Lz
