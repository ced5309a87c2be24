/-
  The walks of a memory's Init, Write, Copy (store). No condition but that the memory's block is one, its bytes a row of one's own.
-/
import Derived.Test.YtlllbgmnheikgaaStA
namespace Go.Proofs.Ytlllbgmnheikgaa.St
set_option linter.unusedVariables false
set_option linter.unusedSimpArgs false
open Go.RowKit Go.Proofs.YtlllbgmnheikgaaW.PrintWords Go.Proofs.Ytlllbgmnheikgaa.PStoreNone

theorem step_copy {P : Program} {ops : Array Oper} {rest : List Oper} {o : Oper} {a : Act} {Q : Exit → Act → World → Prop} {W : World} (hgd : o.guard = none) (s x : Operand) (t t' : TypeId)
    (ho : o.op = .call { callee := .builtin .copy, args := #[s, x], argTypes := #[t, t'] }) (vs vx r : Value) (w1 : World) (hs : a.eval s = vs) (hx : a.eval x = vx) (hr : (Builtin.copy_ #[t, t'] o.type #[vs, vx]).run P W = .ok r w1)
    (h : wpList P ops Q rest (a.put o.dst r) w1) : wpList P ops Q (o :: rest) a W := by
  refine wpList_plain hgd fun K hK => ?_
  unfold Oper.wp execOp
  simp only [ho, resolve, invoke, builtin, Sem.run_bind, Sem.run_pure, Result.andThen_ok, List.map_toArray, List.map_cons, List.map_nil, hs, hx, hr]
  exact hK _ _ h

theorem cut29 (A : Option Addr) (n c p : Nat) (hp : p ≤ n) : ∀ W : World, (Instr.slice 29 (.slice A n c) (some (.int .u64 (p : Int))) none none).run Try.prog W = .ok (.slice (if c = p then A else A.map (·.add p)) (n - p) (c - p)) W := by
  intro W
  obtain ⟨i0, hi, hz0, hz1, hz2⟩ := info_parts info5
  have ht := Try.underlying29
  have hel : Try.prog.elem 29 = 5 := by simp [Program.elem, ht]
  have hu : Try.prog.underlying 29 = some (.slice (Try.prog.elem 29)) := by rw [hel]; exact ht
  rw [run_slice_l W 29 A n c hu .u64 (p : Int) (Int.natCast_nonneg _) (by omega), hel]
  simp [sizeOf, typeInfo, hi, hz1, sliced, Result.andThen]
theorem mid29 (A : Option Addr) (n c f k : Nat) (hc : n ≤ c) (hp : f + k ≤ n) : ∀ W : World, (Instr.slice 29 (.slice A n c) (some (.int .u64 (f : Int))) (some (.int .u64 ((f : Int) + (k : Int)))) none).run Try.prog W = .ok (.slice (if c = f then A else A.map (·.add f)) k (c - f)) W := by
  intro W
  obtain ⟨i0, hi, hz0, hz1, hz2⟩ := info_parts info5
  have ht := Try.underlying29
  have hel : Try.prog.elem 29 = 5 := by simp [Program.elem, ht]
  have hu : Try.prog.underlying 29 = some (.slice (Try.prog.elem 29)) := by rw [hel]; exact ht
  rw [run_slice_lh W 29 A n c hu .u64 .u64 (f : Int) ((f : Int) + (k : Int)) (Int.natCast_nonneg _) (by omega) (by omega), hel]
  have e : ((f : Int) + (k : Int)).toNat = f + k := by omega
  simp [sizeOf, typeInfo, hi, hz1, sliced, Result.andThen, e]

theorem in_b (a n : Int) (k : Nat) (w : World) (r : Bool) (hr : inB a n k = r) (ha : 0 ≤ a) (hk : k ≤ 140737488355328) :
    Calls Try.prog 32 #[.int .u64 a, .int .u64 n, .int .i64 (k : Int)] w fun e w' => e = .returned (.bool r) ∧ Below w.heap.size w w' := by
  rw [← hr]
  exact (in_c a n k w ha hk).mono fun e w' h => ⟨h.1, h.2.below⟩
/-- What Init says, and what it makes. -/
def initE (p f n : Nat) (m k : Nat) : Int := if inB f n m = true ∧ inB p n k = true then 0 else 44
def initF (p f n : Nat) (ys xs : List Int) : List Int := if inB f n ys.length = true ∧ inB p n xs.length = true then xs.take p ++ ((ys.drop f).take n ++ xs.drop (p + n)) else xs
theorem initF_len {p f n : Nat} {ys xs : List Int} : (initF p f n ys xs).length = xs.length := by
  unfold initF
  split
  · rename_i h
    simp only [inB, decide_eq_true_eq] at h
    simp only [List.length_append, List.length_take, List.length_drop]
    omega
  · rfl
structure InitQ (w : World) (base g : Nat) (mn mx : Int) (hs : Bool) (v : Value) (xs : List Int) (r : Int) (e : Ending) (w' : World) : Prop where mk ::
  (out : e = .returned (.int .i64 r) ∧ MemI w' base g mn mx hs v xs ∧ w.grownBy w' v.ownBlock)
set_option maxRecDepth 100000 in
theorem init_ok (w : World) (base g : Nat) (mn mx : Int) (hs : Bool) (A : Option Addr) (c : Nat) (xs : List Int) (H : MemI w base g mn mx hs (.slice A xs.length c) xs) (p f n : Nat) (A2 : Option Addr) (c2 : Nat) (ys : List Int)
    (hr : ReadsInt w .u8 A2 ys.length ys) (hc2 : ys.length ≤ c2) (hy : ys.length ≤ 140737488351232) (h1 : f + n ≤ ys.length) (h2 : p + n ≤ xs.length) (hb1 : inB f n ys.length = true) (hb2 : inB p n xs.length = true) :
    Calls Try.prog 20 #[.pointer (some ⟨g, 0, none⟩), .int .u64 (p : Int), .int .u64 (f : Int), .int .u64 (n : Int), .slice A2 ys.length c2] w (InitQ w base g mn mx hs (.slice A xs.length c) (xs.take p ++ ((ys.drop f).take n ++ xs.drop (p + n))) 0) := by
  have hcB := H.cellB
  have HH := Lib.hid H
  have HR := Lib.hid hr
  have hcut := cut29 A xs.length c p (by omega)
  have hmid := mid29 A2 ys.length c2 f n hc2 h1
  obtain ⟨D, hD⟩ : ∃ D, D = (if c = p then A else A.map (·.add p)) := ⟨_, rfl⟩
  obtain ⟨D2, hD2⟩ : ∃ D2, D2 = (if c2 = f then A2 else A2.map (·.add f)) := ⟨_, rfl⟩
  rw [← hD] at hcut
  rw [← hD2] at hmid
  have HD := Lib.hid hD
  have HD2 := Lib.hid hD2
  have HB1 := Lib.hid hb1
  have HB2 := Lib.hid hb2
  have hlen := H.len
  clear H hr hD hD2 hb1 hb2
  go_enter Try.func20, Try.ntmps20
  go_wp2_with (first | (go_at_call 32; ((with_reducible refine (in_b (f : Int) (n : Int) ys.length _ true HB1.out (by omega) (by omega)).mono ?_)); rintro e w1 ⟨rfl, hb⟩; clear hcB; have hcB := (HH.out.below hb).cellB; have HW1 := Lib.hid hb; clear hb) | (go_at_call 32; ((with_reducible refine (in_b (p : Int) (n : Int) xs.length _ true HB2.out (by omega) (by omega)).mono ?_)); rintro e w2 ⟨rfl, hb⟩; clear hcB; have HW2 := Lib.hid (HW1.out.trans (hb.mono HW1.out.size)); have hcB := (HH.out.below HW2.out).cellB; clear hb))
  have hsum : IntKind.u64.wrap ((f : Int) + (n : Int)) = (f : Int) + (n : Int) := by rw [IntKind.wrap_u64]; omega
  go_still_tail 12, (by kernel_rfl)
  change wpList _ _ _ _ _ w2.drew
  have HW3 := Lib.hid HW2.out.drew
  generalize w2.drew = w3 at HW3 ⊢
  have HRC : Hid (ReadsInt w3 .u8 D2 n ((ys.drop f).take n)) := Lib.hid (by
    have := ((HR.out.below HW3.out).drop_ (c := c2) f (by omega) hc2).take_ n (by omega)
    rw [HD2.out]; exact this)
  obtain ⟨w4, hcp, hown, hgr⟩ := copy_at w3 base xs.length c p n (c2 - f) A D2 xs ((ys.drop f).take n) 3 (by omega) (HH.out.below HW3.out).own HRC.out
  rw [← HD.out, show min n (xs.length - p) = n by omega] at hcp
  rw [show min n (xs.length - p) = n by omega, List.take_take, Nat.min_self] at hown
  refine step_copy rfl (.tmp 37) (.tmp 43) 29 29 rfl _ _ _ w4 rfl rfl hcp ?_
  go_wp2_with fail
  go_ret
  refine ⟨rfl, ⟨(hgr.block g (by have := blk_lt (HH.out.below HW3.out).blk; exact this) (HH.out.ne)).trans (HH.out.below HW3.out).blk, ?_, HH.out.ge, ?_⟩, grown_below HW3.out hgr⟩
  · have e : (xs.take p ++ ((ys.drop f).take n ++ xs.drop (p + n))).length = xs.length := by simp only [List.length_append, List.length_take, List.length_drop]; omega
    rw [e]; exact hown
  · have e : (xs.take p ++ ((ys.drop f).take n ++ xs.drop (p + n))).length = xs.length := by simp only [List.length_append, List.length_take, List.length_drop]; omega
    rw [e]; exact hlen

set_option maxRecDepth 100000 in
theorem init_bad1 (w : World) (base g : Nat) (mn mx : Int) (hs : Bool) (v : Value) (xs : List Int) (H : MemI w base g mn mx hs v xs) (p f n : Nat) (A2 : Option Addr) (c2 : Nat) (ys : List Int)
    (hy : ys.length ≤ 140737488351232) (hb1 : inB f n ys.length = false) :
    Calls Try.prog 20 #[.pointer (some ⟨g, 0, none⟩), .int .u64 (p : Int), .int .u64 (f : Int), .int .u64 (n : Int), .slice A2 ys.length c2] w (InitQ w base g mn mx hs v xs 44) := by
  have HH := Lib.hid H
  have HB1 := Lib.hid hb1
  clear H hb1
  go_enter Try.func20, Try.ntmps20
  go_wp2_with (go_at_call 32; refine (in_b (f : Int) (n : Int) ys.length _ false HB1.out (by omega) (by omega)).mono ?_; rintro e w1 ⟨rfl, hb⟩; have HW1 := Lib.hid hb; clear hb)
  go_ret
  exact ⟨rfl, HH.out.below HW1.out, grown_of_below HW1.out⟩
set_option maxRecDepth 100000 in
theorem init_bad2 (w : World) (base g : Nat) (mn mx : Int) (hs : Bool) (A : Option Addr) (c : Nat) (xs : List Int) (H : MemI w base g mn mx hs (.slice A xs.length c) xs) (p f n : Nat) (A2 : Option Addr) (c2 : Nat) (ys : List Int)
    (hy : ys.length ≤ 140737488351232) (hb1 : inB f n ys.length = true) (hb2 : inB p n xs.length = false) :
    Calls Try.prog 20 #[.pointer (some ⟨g, 0, none⟩), .int .u64 (p : Int), .int .u64 (f : Int), .int .u64 (n : Int), .slice A2 ys.length c2] w (InitQ w base g mn mx hs (.slice A xs.length c) xs 44) := by
  have HH := Lib.hid H
  have HB1 := Lib.hid hb1
  have HB2 := Lib.hid hb2
  have hcB := H.cellB
  have hlen := H.len
  clear H hb1 hb2
  go_enter Try.func20, Try.ntmps20
  go_wp2_with (first | (go_at_call 32; ((with_reducible refine (in_b (f : Int) (n : Int) ys.length _ true HB1.out (by omega) (by omega)).mono ?_)); rintro e w1 ⟨rfl, hb⟩; clear hcB; have hcB := (HH.out.below hb).cellB; have HW1 := Lib.hid hb; clear hb) | (go_at_call 32; ((with_reducible refine (in_b (p : Int) (n : Int) xs.length _ false HB2.out (by omega) (by omega)).mono ?_)); rintro e w2 ⟨rfl, hb⟩; clear hcB; have HW2 := Lib.hid (HW1.out.trans (hb.mono HW1.out.size)); clear hb))
  go_ret
  exact ⟨rfl, HH.out.below HW2.out, grown_of_below HW2.out⟩
theorem init_c (w : World) (base g : Nat) (mn mx : Int) (hs : Bool) (v : Value) (xs : List Int) (H : MemI w base g mn mx hs v xs) (p f n : Nat) (A2 : Option Addr) (c2 : Nat) (ys : List Int)
    (hr : ReadsInt w .u8 A2 ys.length ys) (hc2 : ys.length ≤ c2) (hy : ys.length ≤ 140737488351232) :
    Calls Try.prog 20 #[.pointer (some ⟨g, 0, none⟩), .int .u64 (p : Int), .int .u64 (f : Int), .int .u64 (n : Int), .slice A2 ys.length c2] w (InitQ w base g mn mx hs v (initF p f n ys xs) (initE p f n ys.length xs.length)) := by
  obtain ⟨A, c, rfl⟩ := own_slice H.own
  unfold initF initE
  rcases h1 : inB f n ys.length with _ | _
  · rw [if_neg (by simp), if_neg (by simp)]
    exact init_bad1 w base g mn mx hs _ xs H p f n A2 c2 ys hy h1
  · rcases h2 : inB p n xs.length with _ | _
    · rw [if_neg (by simp), if_neg (by simp)]
      exact init_bad2 w base g mn mx hs A c xs H p f n A2 c2 ys hy h1 h2
    · rw [if_pos ⟨rfl, rfl⟩, if_pos ⟨rfl, rfl⟩]
      have q1 := h1
      have q2 := h2
      simp only [inB, decide_eq_true_eq] at q1 q2
      exact init_ok w base g mn mx hs A c xs H p f n A2 c2 ys hr hc2 hy (by omega) (by omega) h1 h2
/-- A row of one's own is read. -/
theorem MemI.reads {w : World} {base g c : Nat} {mn mx : Int} {hs : Bool} {A : Option Addr} {xs : List Int} (H : MemI w base g mn mx hs (.slice A xs.length c) xs) : ReadsInt w .u8 A xs.length xs ∧ xs.length ≤ c := by
  refine ⟨own_reads' H.own, ?_⟩
  rcases H.own.2 with ⟨hv, h0⟩ | ⟨g', cap, cur, hv, _, _, hnc, _⟩
  · omega
  · injection hv with _ _ h3; omega
set_option maxRecDepth 100000 in
theorem write_c (w : World) (base g : Nat) (mn mx : Int) (hs : Bool) (v : Value) (xs : List Int) (H : MemI w base g mn mx hs v xs) (p : Nat) (A2 : Option Addr) (c2 : Nat) (ys : List Int)
    (hr : ReadsInt w .u8 A2 ys.length ys) (hc2 : ys.length ≤ c2) (hy : ys.length ≤ 140737488351232) :
    Calls Try.prog 15 #[.pointer (some ⟨g, 0, none⟩), .int .u64 (p : Int), .slice A2 ys.length c2] w (InitQ w base g mn mx hs v (initF p 0 ys.length ys xs) (initE p 0 ys.length ys.length xs.length)) := by
  have HH := Lib.hid H
  have HR := Lib.hid hr
  have HC := Lib.hid hc2
  clear H hr hc2
  go_enter Try.func15, Try.ntmps15
  go_wp2_with (go_at_call 20; refine (init_c _ base g mn mx hs v xs HH.out p 0 ys.length A2 c2 ys HR.out HC.out hy).mono ?_; intro e w1 hq; obtain ⟨he, hm, hgr⟩ := hq.out; subst he; have HM := Lib.hid hm; have HG := Lib.hid hgr; clear hq hm hgr)
  go_ret
  exact ⟨rfl, HM.out, HG.out⟩
set_option maxRecDepth 100000 in
theorem copy_c (w : World) (base g : Nat) (mn mx : Int) (hs : Bool) (v : Value) (xs : List Int) (H : MemI w base g mn mx hs v xs) (p f n : Nat) :
    Calls Try.prog 19 #[.pointer (some ⟨g, 0, none⟩), .int .u64 (p : Int), .int .u64 (f : Int), .int .u64 (n : Int)] w (InitQ w base g mn mx hs v (initF p f n xs xs) (initE p f n xs.length xs.length)) := by
  obtain ⟨A, c, rfl⟩ := own_slice H.own
  have HH := Lib.hid H
  have hcB := H.cellB
  have hlen := H.len
  clear H
  go_enter Try.func19, Try.ntmps19
  go_wp2_with (go_at_call 20; refine (init_c _ base g mn mx hs _ xs HH.out p f n A c xs HH.out.reads.1 HH.out.reads.2 hlen).mono ?_; intro e w1 hq; obtain ⟨he, hm, hgr⟩ := hq.out; subst he; have HM := Lib.hid hm; have HG := Lib.hid hgr; clear hq hm hgr)
  go_ret
  exact ⟨rfl, HM.out, HG.out⟩
end Go.Proofs.Ytlllbgmnheikgaa.St
