/-
  The law StoreMem: what is held of the memory and of the reference's bytes; its steps. No condition beyond those that the lemmas state.
-/
import Derived.Test.YtlllbgmnheikgaaStS
import Derived.Deep.QuietTactic
namespace Go.Proofs.Ytlllbgmnheikgaa.St
set_option linter.unusedVariables false
set_option linter.unusedSimpArgs false
open Go.RowKit Go.Proofs.YtlllbgmnheikgaaW.PrintWords Go.Proofs.Ytlllbgmnheikgaa.PStoreNone

/-- What is held between two acts. -/
structure MmI (w0 w : World) (pl : Nat) (mn mx : Int) (hs : Bool) (gm : Nat) (vm vb : Value) (ms xs : List Int) : Prop where mk ::
  lim : w.heap[pl]? = some (.cells #[.int .i64 mn, .int .i64 mx, .bool hs] 23 (0, 0))
  mem : MemI w (pl + 1) gm mn mx hs vm ms
  own : w.ownsRow (pl + 1) 5 1 vb xs.length (nums .u8 xs)
  len : xs.length ≤ 140737488351232
  ne1 : vb.ownBlock ≠ some gm
  ne2 : vb.ownBlock = none ∨ vb.ownBlock ≠ vm.ownBlock
  ge : pl + 1 ≤ w.heap.size
  pl_ : pl = w0.heap.size
  bel : Below w0.heap.size w0 w
section
variable {w0 w w' : World} {pl gm : Nat} {mn mx : Int} {hs : Bool} {vm vb : Value} {ms xs zs : List Int}
theorem MmI.below (H : MmI w0 w pl mn mx hs gm vm vb ms xs) (hb : Below w.heap.size w w') : MmI w0 w' pl mn mx hs gm vm vb ms xs :=
  ⟨(hb.block pl (by have := H.ge; omega)).trans H.lim, H.mem.below hb, pw_own_below H.own hb, H.len, H.ne1, H.ne2, Nat.le_trans H.ge hb.size, H.pl_, H.bel.trans (hb.mono H.bel.size)⟩
/-- The program's step. -/
theorem MmI.prog (H : MmI w0 w pl mn mx hs gm vm vb ms xs) {r : Int} {e : Ending} (hq : InitQ w (pl + 1) gm mn mx hs vm zs r e w') : e = .returned (.int .i64 r) ∧ MmI w0 w' pl mn mx hs gm vm vb zs xs := by
  obtain ⟨he, hm, hg⟩ := hq.out
  have hvm : ∀ k, vm.ownBlock = some k → pl + 1 ≤ k := own_base H.mem.own
  refine ⟨he, (hg.block pl (by have := H.ge; omega) (fun e => by have := hvm pl e.symm; omega)).trans H.lim, hm, KeepBut.own (g := w.heap.size) (row := vm.ownBlock) ⟨hg.size, fun i h1 _ h3 => hg.block i h1 h3⟩ H.own (fun e => by have := own_lt H.own _ e; omega) H.ne2, H.len, H.ne1, H.ne2, Nat.le_trans H.ge hg.size, H.pl_, ?_⟩
  exact H.bel.grown hg H.bel.size (fun k hk => by have := hvm k hk; have := H.pl_; omega)
/-- The reference's step. -/
theorem MmI.ref (H : MmI w0 w pl mn mx hs gm vm vb ms xs) (hz : zs.length ≤ 140737488351232) {r : Int} {e : Ending} (hq : RefQ w (pl + 1) vb zs r e w') : ∃ v, e = .returned (.tuple #[v, .int .i64 r]) ∧ MmI w0 w' pl mn mx hs gm vm v ms zs := by
  obtain ⟨v, he, ho, hb, hat⟩ := hq.out
  have K := H.below hb
  have hg := blk_lt H.mem.blk
  refine ⟨v, he, K.lim, K.mem, ho, hz, ?_, ?_, K.ge, K.pl_, K.bel⟩
  · rcases hat with q | q
    · rw [q]; exact H.ne1
    · intro e; have := q _ e; omega
  · rcases hat with q | q
    · rw [q]; exact H.ne2
    · rcases h1 : v.ownBlock with _ | k
      · exact .inl rfl
      · refine .inr fun e => ?_
        have h2 := q k h1
        have h3 := own_lt H.mem.own k e.symm
        omega
end
/-- What both Grows leave: as many bytes, as many pages before. -/
def gz (n : Nat) (mst : Int) (xs : List Int) : List Int := if growOk xs.length n mst then xs ++ List.replicate (n * 65536) 0 else xs
def gr (n : Nat) (mst : Int) (xs : List Int) : Int := if growOk xs.length n mst then ((xs.length / 65536 : Nat) : Int) else -1
section
variable {w0 w : World} {pl gm : Nat} {mn mx : Int} {hs : Bool} {vm vb : Value} {ms xs zs : List Int}
theorem refGrow (H : MmI w0 w pl mn mx hs gm vm vb ms xs) (n : Nat) (most : Int) (hn : n < 18446744073709551616) (hm : -9223372036854775808 ≤ most) (hx : -9223372036854775808 ≤ mx) :
    Calls Try.prog 9 #[vb, .agg #[.int .i64 mn, .int .i64 mx, .bool hs], .int .u64 (n : Int), .int .i64 most] w (RefQ w (pl + 1) vb (gz n (mostM mx hs most) xs) (gr n (mostM mx hs most) xs)) := by
  obtain ⟨A, c, rfl⟩ := own_slice H.own
  unfold gz gr
  by_cases h : growOk xs.length n (mostM mx hs most)
  · rw [if_pos h, if_pos h]
    refine (growR_yes w mn mx hs A c xs H.len n most hn (own_reads' H.own) h hm hx).mono fun e w' hq => ?_
    obtain ⟨v, he, ho, hb⟩ := hq.out
    exact ⟨v, he, own_less ho H.ge, hb, .inr fun k hk => own_base ho k hk⟩
  · rw [if_neg h, if_neg h]
    refine (growR_no w mn mx hs A c xs H.len n most hn h hm hx).mono fun e w' hq => ?_
    obtain ⟨he, hb⟩ := hq.out
    exact ⟨_, he, pw_own_below H.own hb, hb, .inl rfl⟩
theorem MemI.ne2_ {w : World} {base g pa : Nat} {mn mx : Int} {hs : Bool} {v : Value} {xs : List Int} {cs : Array Value} (H : MemI w base g mn mx hs v xs) (h : w.heap[pa]? = some (.cells cs 49 (0, 0))) : pa ≠ g := fun e => by
  rw [e, H.blk] at h
  injection h with h
  injection h with _ h2 _
  cases h2
structure PG (w0 w : World) (vm0 : Value) (pl : Nat) (mn mx : Int) (hs : Bool) (gm : Nat) (vb : Value) (zs xs : List Int) (r : Int) (e : Ending) (w' : World) : Prop where mk ::
  (out : ∃ vm, e = .returned (.int .i64 r) ∧ MmI w0 w' pl mn mx hs gm vm vb zs xs ∧ ∀ pa o, w.heap[pa]? = some o → pa ≠ gm → some pa ≠ vm0.ownBlock → w'.heap[pa]? = some o)
theorem progGrow (H : MmI w0 w pl mn mx hs gm vm vb ms xs) (n : Nat) (most : Int) (hn : n < 18446744073709551616) (hm : -9223372036854775808 ≤ most) (hx : -9223372036854775808 ≤ mx) :
    Calls Try.prog 10 #[.pointer (some ⟨gm, 0, none⟩), .int .u64 (n : Int), .int .i64 most] w (PG w0 w vm pl mn mx hs gm vb (gz n (mostM mx hs most) ms) xs (gr n (mostM mx hs most) ms)) := by
  refine (growM_c w (pl + 1) gm mn mx hs vm ms H.mem n most hn H.ge hm hx).mono fun e w' hq => ?_
  obtain ⟨v, he, hm', hfar, hb, hat, hsz⟩ := hq.out
  have hvl : ∀ k, vb.ownBlock = some k → k < w.heap.size := own_lt H.own
  refine ⟨v, he, ⟨(hb.block pl (by omega)).trans H.lim, hm', KeepBut.own ⟨hsz, hfar⟩ H.own H.ne1 H.ne2, H.len, H.ne1, ?_, Nat.le_trans H.ge hsz, H.pl_, H.bel.trans (hb.mono (by have := H.pl_; omega))⟩, fun pa o h h1 h2 => (hfar pa (blk_lt h) h1 h2).trans h⟩
  rcases hat with q | ⟨b, q, hq⟩
  · rw [q]; exact H.ne2
  · rw [q]
    refine .inr fun e => ?_
    have := hvl b e
    omega
end
end Go.Proofs.Ytlllbgmnheikgaa.St
