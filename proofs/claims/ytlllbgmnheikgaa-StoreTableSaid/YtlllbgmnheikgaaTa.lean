/-
  The law StoreTable: what is held of the tables and of the reference's values; its steps. No condition beyond those that the lemmas state.
-/
import Derived.Test.YtlllbgmnheikgaaStZ
import Derived.Test.YtlllbgmnheikgaaStW
namespace Go.Proofs.Ytlllbgmnheikgaa.St
set_option linter.unusedVariables false
set_option linter.unusedSimpArgs false
open Go.RowKit Go.Proofs.YtlllbgmnheikgaaW.PrintWords Go.Proofs.Ytlllbgmnheikgaa.PStoreNone

def RowS (w0 w : World) (base gt : Nat) (vt vw : Value) (xs : List V4) : Prop :=
  ∃ A c, vw = .slice A xs.length c ∧ xs.length ≤ c ∧ (Reads4 w0 A xs.length (cl xs) ∨ (w.ownsRow base 26 4 vw xs.length (cl xs) ∧ vw.ownBlock ≠ some gt ∧ (vw.ownBlock = none ∨ vw.ownBlock ≠ vt.ownBlock)))
/-- What is held between two acts. -/
structure TbM (w0 w : World) (pl : Nat) (mn mx : Int) (hs : Bool) (gt gx : Nat) (vt vx vw : Value) (oth ms xs : List V4) : Prop where mk ::
  lim : w.heap[pl]? = some (.cells #[.int .i64 mn, .int .i64 mx, .bool hs] 23 (0, 0))
  tab : TblI w (pl + 1) gt 112 mn mx hs vt ms.length (cl ms)
  far : TblI w (pl + 1) gx 0 0 0 false vx oth.length (cl oth)
  row : RowS w0 w (pl + 1) gt vt vw xs
  len : xs.length ≤ 1000000
  s1 : gx ≠ gt
  s2 : some gx ≠ vt.ownBlock
  s3 : vx.ownBlock ≠ some gt
  s4 : vx.ownBlock = none ∨ vx.ownBlock ≠ vt.ownBlock
  ge : pl + 1 ≤ w.heap.size
  pl_ : pl = w0.heap.size
  bel : Below w0.heap.size w0 w
section
variable {w0 w w' : World} {pl gt gx : Nat} {mn mx : Int} {hs : Bool} {vt vx vw : Value} {oth ms xs zs : List V4}
theorem RowS.below {base : Nat} (H : RowS w0 w base gt vt vw xs) (hb : Below w.heap.size w w') : RowS w0 w' base gt vt vw xs := by
  obtain ⟨A, c, hv, hc, h⟩ := H
  rcases h with h | ⟨h, a, b⟩
  · exact ⟨A, c, hv, hc, .inl h⟩
  · exact ⟨A, c, hv, hc, .inr ⟨pw_own_below h hb, a, b⟩⟩
theorem TbM.below (H : TbM w0 w pl mn mx hs gt gx vt vx vw oth ms xs) (hb : Below w.heap.size w w') : TbM w0 w' pl mn mx hs gt gx vt vx vw oth ms xs :=
  ⟨(hb.block pl (by have := H.ge; omega)).trans H.lim, H.tab.below hb, H.far.below hb, H.row.below hb, H.len, H.s1, H.s2, H.s3, H.s4, Nat.le_trans H.ge hb.size, H.pl_, H.bel.trans (hb.mono H.bel.size)⟩
/-- The row that the reference holds is read. -/
theorem TbM.reads (H : TbM w0 w pl mn mx hs gt gx vt vx vw oth ms xs) : ∃ A c, vw = .slice A xs.length c ∧ xs.length ≤ c ∧ Reads4 w A xs.length (cl xs) := by
  obtain ⟨A, c, hv, hc, h⟩ := H.row
  refine ⟨A, c, hv, hc, ?_⟩
  rcases h with h | ⟨h, _, _⟩
  · exact reads4_below h H.bel
  · rw [hv] at h; exact (own_reads4 h (cl_one _)).1
theorem TblI.keep {base g : Nat} {rf mn mx : Int} {hs : Bool} {v vt : Value} {n : Nat} {ys : List Value} (H : TblI w base g rf mn mx hs v n ys) (hsz : w.heap.size ≤ w'.heap.size) (h : ∀ i, i < w.heap.size → i ≠ gt → some i ≠ vt.ownBlock → w'.heap[i]? = w.heap[i]?) (h1 : g ≠ gt) (h2 : some g ≠ vt.ownBlock) (h3 : v.ownBlock ≠ some gt) (h4 : v.ownBlock = none ∨ v.ownBlock ≠ vt.ownBlock) : TblI w' base g rf mn mx hs v n ys :=
  ⟨(h g (blk_lt H.blk) h1 h2).trans H.blk, KeepBut.own ⟨hsz, h⟩ H.own h3 h4, H.one, H.ge, H.len⟩
theorem RowS.keep {base : Nat} {vt' : Value} (H : RowS w0 w base gt vt vw xs) (hsz : w.heap.size ≤ w'.heap.size) (h : ∀ i, i < w.heap.size → i ≠ gt → some i ≠ vt.ownBlock → w'.heap[i]? = w.heap[i]?) (hv : vt'.ownBlock = vt.ownBlock ∨ ∃ b, vt'.ownBlock = some b ∧ w.heap.size ≤ b) : RowS w0 w' base gt vt' vw xs := by
  obtain ⟨A, c, he, hc, hh⟩ := H
  rcases hh with hh | ⟨hh, a, b⟩
  · exact ⟨A, c, he, hc, .inl hh⟩
  · refine ⟨A, c, he, hc, .inr ⟨KeepBut.own ⟨hsz, h⟩ hh a b, a, ?_⟩⟩
    rcases hv with q | ⟨k, q, hk⟩
    · rw [q]; exact b
    · rw [q]
      rcases h1 : vw.ownBlock with _ | j
      · exact .inl rfl
      · refine .inr fun e => ?_
        injection e with e
        have := own_lt hh j h1
        omega
/-- The program's step. -/
theorem TbM.prog (H : TbM w0 w pl mn mx hs gt gx vt vx vw oth ms xs) {r : Int} {e : Ending} (hq : TabQ w (pl + 1) gt 112 mn mx hs vt zs r e w') : e = .returned (.int .i64 r) ∧ TbM w0 w' pl mn mx hs gt gx vt vx vw oth zs xs ∧ ∀ pa o, w.heap[pa]? = some o → some pa ≠ vt.ownBlock → w'.heap[pa]? = some o := by
  obtain ⟨he, hm, hg⟩ := hq.out
  have hvt : ∀ k, vt.ownBlock = some k → pl + 1 ≤ k := own_base H.tab.own
  have hfar : ∀ i, i < w.heap.size → i ≠ gt → some i ≠ vt.ownBlock → w'.heap[i]? = w.heap[i]? := fun i h1 _ h3 => hg.block i h1 h3
  refine ⟨he, ⟨(hg.block pl (by have := H.ge; omega) (fun e => by have := hvt pl e.symm; omega)).trans H.lim, hm, H.far.keep hg.size hfar H.s1 H.s2 H.s3 H.s4, H.row.keep hg.size hfar (.inl rfl), H.len, H.s1, H.s2, H.s3, H.s4, Nat.le_trans H.ge hg.size, H.pl_, ?_⟩, fun pa o h h1 => (hg.block pa (blk_lt h) h1).trans h⟩
  exact H.bel.grown hg H.bel.size (fun k hk => by have := hvt k hk; have := H.pl_; omega)
/-- The reference's step. -/
theorem TbM.ref (H : TbM w0 w pl mn mx hs gt gx vt vx vw oth ms xs) (hz : zs.length ≤ 1000000) {r : Int} {e : Ending} (hq : RefT w vw xs zs r e w') : ∃ v, e = .returned (.tuple #[v, .int .i64 r]) ∧ TbM w0 w' pl mn mx hs gt gx vt vx v oth ms zs ∧ Below w.heap.size w w' := by
  obtain ⟨v, he, hb, hat⟩ := hq.out
  have K := H.below hb
  have hg := blk_lt H.tab.blk
  refine ⟨v, he, ⟨K.lim, K.tab, K.far, ?_, hz, K.s1, K.s2, K.s3, K.s4, K.ge, K.pl_, K.bel⟩, hb⟩
  rcases hat with ⟨rfl, rfl⟩ | ho
  · exact K.row
  · obtain ⟨A, c, rfl⟩ := own_slice ho
    refine ⟨A, c, rfl, own_le4 ho, .inr ⟨own_less ho H.ge, fun e => ?_, ?_⟩⟩
    · have := own_base ho _ e; omega
    · rcases h1 : (Value.slice A zs.length c).ownBlock with _ | k
      · exact .inl rfl
      · refine .inr fun e => ?_
        have h2 := own_base ho k h1
        have h3 := own_lt H.tab.own k e.symm
        omega
/-- A table's Grow. -/
structure PT (w0 w : World) (vt0 : Value) (pl : Nat) (mn mx : Int) (hs : Bool) (gt gx : Nat) (vx vw : Value) (oth zs xs : List V4) (r : Int) (e : Ending) (w' : World) : Prop where mk ::
  (out : ∃ vt, e = .returned (.int .i64 r) ∧ TbM w0 w' pl mn mx hs gt gx vt vx vw oth zs xs ∧ ∀ pa o, w.heap[pa]? = some o → pa ≠ gt → some pa ≠ vt0.ownBlock → w'.heap[pa]? = some o)
theorem progGT (H : TbM w0 w pl mn mx hs gt gx vt vx vw oth ms xs) (n : Nat) (t lo hi : Int) (nu : Bool) (hx : -9223372036854775808 ≤ mx) :
    Calls Try.prog 13 #[.pointer (some ⟨gt, 0, none⟩), .int .u64 (n : Int), .agg #[.int .i64 t, .int .u64 lo, .int .u64 hi, .bool nu]] w (PT w0 w vt pl mn mx hs gt gx vx vw oth (tz n (mostT mx hs) ms (t, lo, hi, nu)) xs (tr n (mostT mx hs) ms)) := by
  refine (gt13 w (pl + 1) gt 112 mn mx hs vt ms ms.length rfl H.tab n t lo hi nu H.ge hx).mono fun e w' hq => ?_
  obtain ⟨v, he, hm', hfar, hb, hat, hsz⟩ := hq.out
  refine ⟨v, he, ⟨(hb.block pl (by omega)).trans H.lim, hm', H.far.keep hsz hfar H.s1 H.s2 H.s3 H.s4, H.row.keep hsz hfar hat, H.len, H.s1, ?_, H.s3, ?_, Nat.le_trans H.ge hsz, H.pl_, H.bel.trans (hb.mono (by have := H.pl_; omega))⟩, fun pa o h h1 h2 => (hfar pa (blk_lt h) h1 h2).trans h⟩
  · rcases hat with q | ⟨b, q, hq⟩
    · rw [q]; exact H.s2
    · rw [q]
      intro e
      injection e with e
      have := blk_lt H.far.blk
      omega
  · rcases hat with q | ⟨b, q, hq⟩
    · rw [q]; exact H.s4
    · rw [q]
      rcases h1 : vx.ownBlock with _ | j
      · exact .inl rfl
      · refine .inr fun e => ?_
        injection e with e
        have := own_lt H.far.own j h1
        omega
theorem refGT (H : TbM w0 w pl mn mx hs gt gx vt vx vw oth ms xs) (n : Nat) (t lo hi : Int) (nu : Bool) (hn : n < 18446744073709551616) (hx : -9223372036854775808 ≤ mx) :
    Calls Try.prog 12 #[vw, .agg #[.int .i64 mn, .int .i64 mx, .bool hs], .int .u64 (n : Int), .agg #[.int .i64 t, .int .u64 lo, .int .u64 hi, .bool nu]] w (RefT w vw xs (tz n (mostT mx hs) xs (t, lo, hi, nu)) (tr n (mostT mx hs) xs)) := by
  obtain ⟨A, c, rfl, hc, hr⟩ := H.reads
  unfold tz tr
  by_cases h : growTk xs.length n (mostT mx hs)
  · rw [if_pos h, if_pos h]
    refine (growTR_yes w mn mx hs A c xs H.len n t lo hi nu hn hr h hx).mono fun e w' hq => ?_
    obtain ⟨v, he, ho', hb'⟩ := hq.out
    exact ⟨v, he, hb', .inr ho'⟩
  · rw [if_neg h, if_neg h]
    refine (growTR_no w mn mx hs A c xs H.len n t lo hi nu hn h hx).mono fun e w' hq => ?_
    obtain ⟨he, hb'⟩ := hq.out
    exact ⟨_, he, hb', .inl ⟨rfl, rfl⟩⟩
/-- The reference's Vals, in this state. -/
theorem refVals (H : TbM w0 w pl mn mx hs gt gx vt vx vw oth ms xs) (p f n : Nat) (A2 : Option Addr) (c2 : Nat) (ys : List V4) (hr : Reads4 w A2 ys.length (cl ys)) (hc2 : ys.length ≤ c2) (hy : ys.length ≤ 1000000) :
    Calls Try.prog 24 #[vw, .int .u64 (p : Int), .int .u64 (f : Int), .int .u64 (n : Int), .slice A2 ys.length c2] w (RefT w vw xs (initV p f n ys xs) (tabE p f n ys.length xs.length)) := by
  obtain ⟨A, c, rfl, hc, hx⟩ := H.reads
  exact valsR_c w A c xs p f n A2 c2 ys hx hc H.len hr hc2 hy
theorem refVals_self (H : TbM w0 w pl mn mx hs gt gx vt vx vw oth ms xs) (p f n : Nat) :
    Calls Try.prog 24 #[vw, .int .u64 (p : Int), .int .u64 (f : Int), .int .u64 (n : Int), vw] w (RefT w vw xs (initV p f n xs xs) (tabE p f n xs.length xs.length)) := by
  obtain ⟨A, c, rfl, hc, hx⟩ := H.reads
  exact valsR_c w A c xs p f n A c xs hx hc H.len hx hc H.len
end
/-- A value put once is what Set makes; so many, what Fill makes. -/
theorem init_one (p : Nat) (v : V4) (xs : List V4) : initV p 0 1 [v] xs = fillVF p 1 v xs ∧ tabE p 0 1 1 xs.length = fillVE p 1 xs.length := by
  have h1 : inB ((0 : Nat) : Int) ((1 : Nat) : Int) 1 = true := by decide
  unfold initV fillVF tabE fillVE
  rcases h : inB (p : Int) ((1 : Nat) : Int) xs.length with _ | _
  · exact ⟨by rw [if_neg (by simp), if_neg (by simp)], by rw [if_neg (by simp), if_neg (by simp)]⟩
  · refine ⟨?_, ?_⟩
    · rw [if_pos ⟨h1, rfl⟩, if_pos rfl]; rfl
    · rw [if_pos ⟨h1, rfl⟩, if_pos rfl]
theorem init_rep (p n : Nat) (v : V4) (xs : List V4) (h : inB p n xs.length = true) : initV p 0 n (List.replicate n v) xs = fillVF p n v xs ∧ tabE p 0 n (List.replicate n v).length xs.length = fillVE p n xs.length := by
  have h1 : inB ((0 : Nat) : Int) (n : Int) (List.replicate n v).length = true := by unfold inB; rw [List.length_replicate, decide_eq_true_eq]; omega
  unfold initV fillVF tabE fillVE
  refine ⟨?_, ?_⟩
  · rw [if_pos ⟨h1, h⟩, if_pos h, List.drop_zero, List.take_of_length_le (l := List.replicate n v) (by rw [List.length_replicate]; exact Nat.le_refl _)]; rfl
  · rw [if_pos ⟨h1, h⟩, if_pos h]
end Go.Proofs.Ytlllbgmnheikgaa.St
