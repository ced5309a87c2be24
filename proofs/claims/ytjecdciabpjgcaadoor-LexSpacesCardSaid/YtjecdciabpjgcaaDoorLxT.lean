/-
  Trees in memory: the stack of rows that lex.Trees fills. No walk. Condition: none.
-/
import Derived.Test.YtjecdciabpjgcaaDoorLxK
namespace Go.Proofs.YtjecdciabpjgcaaDoor.Lx
set_option linter.unusedVariables false
set_option linter.unusedSimpArgs false
open Go.RowKit Go.Proofs.YtjecdciabpjgcaaDoorW.PrintWords Go.Proofs.YtjecdciabpjgcaaDoor.PLx Go.Proofs.YtjecdciabpjgcaaDoor.Lb

theorem info48 : (Tryd.prog.info? 48).map (fun i => (i.zero, i.size, i.bytes)) = some (some (.agg #[(.int .i64 0), (.string ⟨#[]⟩), (.slice none 0 0)]), 3, 48) := by kernel_rfl
theorem info34 : (Tryd.prog.info? 34).map (fun i => (i.zero, i.size, i.bytes)) = some (some (.slice none 0 0), 1, 24) := by kernel_rfl
theorem k48_E : ∀ q, q ∈ 48 :: k48.E → q ≠ 34 := by
  intro q hq
  have : q = 48 := by
    rcases List.mem_cons.1 hq with h | h
    · exact h
    · have : q ∈ [48] := h
      simpa using this
  omega
/-- The stack's row, its levels below the top one, and the top level's row of its own. -/
structure Mid (W : World) (base : Nat) (v : Value) (vs : List Value) (ls : List (List S48)) (f : Nat → Nat) (x : Value) (l : List S48) : Prop where mk ::
  (len : vs.length = ls.length + 1) (own : W.ownsRow base 34 1 v (ls.length + 1) vs)
  (low : ∀ (i : Nat) (y : Value) (m : List S48), i < ls.length → vs[i]? = some y → ls[i]? = some m → k48.R 48 W base (fun k => f k = i) y m)
  (top : k48.R 48 W base (fun k => f k = ls.length) x l)
theorem Mid.below {W W1 : World} {base : Nat} {v : Value} {vs : List Value} {ls : List (List S48)} {f : Nat → Nat} {x : Value} {l : List S48} (h : Mid W base v vs ls f x l) (hb : Below W.heap.size W W1) : Mid W1 base v vs ls f x l :=
  ⟨h.len, pw_own_below h.own hb, fun i y m hi hy hm => Kd.R_below (h.low i y m hi hy hm) hb, Kd.R_below h.top hb⟩
theorem R_ne34 {W : World} {base : Nat} {ok : Nat → Prop} {x : Value} {l : List S48} {b e n : Nat} {v : Value} {vs : List Value} (h : k48.R 48 W base ok x l) (ho : W.ownsRow b 34 1 v n vs) : v.ownBlock = none ∨ v.ownBlock ≠ x.ownBlock := by
  obtain ⟨inner, hi⟩ := Kd.R_own h
  exact own_type_ne ho hi (by decide)
/-- Something is appended to the top level's row. okp: the new element's own blocks. -/
theorem append_f (W : World) (base : Nat) (x : Value) (l : List S48) (p : S48) (cs : List Value) (ok okp : Nat → Prop) (hb : base ≤ W.heap.size) (hl : l.length ≤ 2000000) (h : k48.R 48 W base ok x l) (hp : k48.M W base okp p cs) (hokp : ∀ k, okp k → ok k ∧ some k ≠ x.ownBlock) (hf : ∀ k, W.heap.size ≤ k → ok k) :
    ∃ x1 w1 g cap, (Builtin.append_ #[34, 34] 34 #[x, .slice (some ⟨W.heap.size, 0, none⟩) 1 1]).run Tryd.prog (W.alloc (.cells cs.toArray 48)) = .ok x1 w1 ∧ k48.R 48 w1 base ok x1 (l ++ [p]) ∧ W.grownBy w1 x.ownBlock ∧
      x1 = .slice (some ⟨g, 0, none⟩) (l.length + 1) cap ∧ base ≤ g ∧ g < w1.heap.size ∧ (∀ k, k < W.heap.size → some k ≠ x.ownBlock → k ≠ g) := by
  obtain ⟨i, hi, hz⟩ := Option.map_eq_some_iff.1 info48
  simp only [Prod.mk.injEq] at hz
  obtain ⟨hz0, hz1, hz2⟩ := hz
  obtain ⟨h0, inner, hown, hr⟩ := h
  have hK := k48.K_of_M hp
  have hlen : cs.length = 3 := k48.K_len hK
  have hb1 : Below W.heap.size W (W.alloc (Obj.cells cs.toArray 48)) := (Below.refl _ _).alloc (Nat.le_refl _) _
  have hn := heap_alloc_new W (Obj.cells cs.toArray 48)
  obtain ⟨x1, w1, hrun, h2, h3, _, h5⟩ := run_append_own_at (P := Tryd.prog) _ base 34 34 48 i _ 3 48 Tryd.underlying34 hi hz0 hz1 hz2 rfl (by decide) x l.length inner (pw_own_below hown hb1)
    ⟨W.heap.size, 0, none⟩ 1 1 cs (by rw [hlen]) (fun j u hu => by
      have hc := blk_cell hn j
      have ha : (⟨W.heap.size, 0, none⟩ : Addr).add j = ⟨W.heap.size, j, none⟩ := by unfold Addr.add; simp; intro h; exact h.symm
      rw [ha, hc]
      simpa using hu) (k48.K_one hK) (by simp only [maxLen]; omega) (by omega) (Nat.le_trans hb hb1.size)
  have hg : W.grownBy w1 x.ownBlock := ⟨h3.os, h3.tape, h3.output, Nat.le_trans hb1.size h3.size, fun k hk hne => (h3.block k (Nat.lt_of_lt_of_le hk hb1.size) hne).trans (hb1.block k hk)⟩
  have hR := Kd.R_appended (d := k48) (e := 48) (ok := ok) (okp := okp) h0 hr hp hokp hf h2 hg (by
    rcases h5 with h5 | h5
    · exact .inl h5
    · exact .inr ⟨_, h5, hb1.size⟩)
  obtain ⟨g, cap, he, hg1, hg2, _⟩ := Kd.R_form hR (by simp)
  refine ⟨x1, w1, g, cap, hrun, hR, hg, by rw [he]; simp, hg1, hg2, fun k hk hne hkg => ?_⟩
  subst hkg
  rw [he] at h5
  rcases h5 with h5 | h5
  · exact hne h5
  · have h6 : k = (W.alloc (Obj.cells cs.toArray 48)).heap.size := Option.some.inj h5
    have := hb1.size
    omega
/-- A level's own colour, once blocks from H on are the top's. -/
def paint (f : Nat → Nat) (H top : Nat) (k : Nat) : Nat := if H ≤ k then top else f k
theorem R_paint {W : World} {base : Nat} {f : Nat → Nat} {i : Nat} {x : Value} {l : List S48} (top : Nat) (h : k48.R 48 W base (fun k => f k = i) x l) : k48.R 48 W base (fun k => paint f W.heap.size top k = i) x l :=
  Kd.R_mono (Kd.R_bound h) (fun k hk => by
    unfold paint
    rw [if_neg (by have := hk.2.2.1; omega)]
    exact hk.1)
theorem Mid.paint {W : World} {base : Nat} {v : Value} {vs : List Value} {ls : List (List S48)} {f : Nat → Nat} {x : Value} {l : List S48} (h : Mid W base v vs ls f x l) : Mid W base v vs ls (paint f W.heap.size ls.length) x l :=
  ⟨h.len, h.own, fun i y m hi hy hm => R_paint _ (h.low i y m hi hy hm), R_paint _ h.top⟩
/-- The stack, when the top level's row has turned into another one. -/
theorem Mid.turn {W W1 : World} {base : Nat} {v : Value} {vs : List Value} {ls : List (List S48)} {f : Nat → Nat} {x x1 : Value} {l l1 : List S48} (h : Mid W base v vs ls f x l) (hg : W.grownBy W1 x.ownBlock) (h1 : k48.R 48 W1 base (fun k => f k = ls.length) x1 l1) : Mid W1 base v vs ls f x1 l1 :=
  ⟨h.len, h.own.kept hg (R_ne34 (e := 0) h.top h.own), fun i y m hi hy hm => Kd.R_grown (h.low i y m hi hy hm) hg (fun k hk he => by
    have := h.top.1 k he.symm
    omega), h1⟩
theorem slice_n_of {w : World} {base : Nat} {e : TypeId} {size n m c : Nat} {A : Option Addr} {xs : List Value} (h : w.ownsRow base e size (.slice A m c) n xs) : m = n := by
  rcases h.2 with ⟨h, h0⟩ | ⟨g, cap, cur, h, _⟩
  · injection h with _ h _; omega
  · injection h
/-- The top level's row is laid into the stack. -/
theorem Mid.put {W : World} {base : Nat} {b n cap : Nat} {vs : List Value} {ls : List (List S48)} {f : Nat → Nat} {x : Value} {l : List S48} (h : Mid W base (.slice (some ⟨b, 0, none⟩) n cap) vs ls f x l) (hx : x.oneCell' = true) :
    Mid (W.setCell ⟨b, ls.length, none⟩ x) base (.slice (some ⟨b, 0, none⟩) n cap) (vs.set ls.length x) ls f x l := by
  obtain ⟨cells, hc⟩ := own_typed h.own b rfl
  refine ⟨by rw [List.length_set]; exact h.len, ?_, fun i y m hi hy hm => ?_, Kd.R_set h.top hc k48_E _ _⟩
  · have hn := slice_n_of h.own
    subst hn
    exact (h.own.stored ls.length x).1
  · rw [List.getElem?_set_ne (by omega)] at hy
    exact Kd.R_set (h.low i y m hi hy hm) hc k48_E _ _
/-- The top level's last element is laid. okp: its own blocks. -/
theorem Mid.fill {W : World} {base g cap : Nat} {v : Value} {vs : List Value} {ls : List (List S48)} {f : Nat → Nat} {l : List S48} {z y : S48} {cs : List Value} {okp : Nat → Prop}
    (h : Mid W base v vs ls f (.slice (some ⟨g, 0, none⟩) (l.length + 1) cap) (l ++ [z])) (hM : k48.M W base okp y cs) (hokp : ∀ k, okp k → f k = ls.length ∧ k ≠ g) :
    Mid (W.setCells g (l.length * 3) cs) base v vs ls f (.slice (some ⟨g, 0, none⟩) (l.length + 1) cap) (l ++ [y]) ∧ W.grownBy (W.setCells g (l.length * 3) cs) (some g) := by
  have hK := k48.K_of_M hM
  have hlen : cs.length = 3 := k48.K_len hK
  obtain ⟨c, hc1, _, hc2, _⟩ := Kd.R_elem h.top z48 (l.length : Int) (by omega) (by omega)
  have hsz : k48.sz = 3 := rfl
  have hs := Kd.R_seg (okp := okp) (seg := cs) (j := 0) (x' := y) h.top (l.length : Int) (by omega) (by omega) hc1 hc2 (by rw [hlen, hsz]; decide) (by
    rw [List.take_zero, List.nil_append, Nat.zero_add, hlen, List.drop_of_length_le (by rw [hc1, hsz]; decide), List.append_nil]
    exact hM) hokp
  rw [Int.toNat_natCast, Nat.add_zero, hsz, List.set_append_right _ _ (Nat.le_refl _), Nat.sub_self] at hs
  exact ⟨h.turn hs.2 hs.1, hs.2⟩
/-- The stack: every level's row of its own. -/
structure Stk (W : World) (base : Nat) (v : Value) (ls : List (List S48)) : Prop where mk ::
  (out : ∃ (f : Nat → Nat) (vs : List Value), vs.length = ls.length ∧ W.ownsRow base 34 1 v ls.length vs ∧ ∀ (i : Nat) (y : Value) (m : List S48), vs[i]? = some y → ls[i]? = some m → k48.R 48 W base (fun k => f k = i) y m)
theorem Stk.below {W W1 : World} {base : Nat} {v : Value} {ls : List (List S48)} (h : Stk W base v ls) (hb : Below W.heap.size W W1) : Stk W1 base v ls := by
  obtain ⟨f, vs, h1, h2, h3⟩ := h.out
  exact ⟨f, vs, h1, pw_own_below h2 hb, fun i y m hy hm => Kd.R_below (h3 i y m hy hm) hb⟩
theorem Stk.mid {W : World} {base : Nat} {v : Value} {ls : List (List S48)} {l : List S48} (h : Stk W base v (ls ++ [l])) : ∃ f vs x, vs[ls.length]? = some x ∧ Mid W base v vs ls f x l := by
  obtain ⟨f, vs, h1, h2, h3⟩ := h.out
  rw [List.length_append, List.length_singleton] at h1 h2
  refine ⟨f, vs, vs[ls.length], List.getElem?_eq_getElem _, h1, h2, fun i y m hi hy hm => h3 i y m hy (by rw [List.getElem?_append_left hi]; exact hm), h3 _ _ _ (List.getElem?_eq_getElem _) ?_⟩
  rw [List.getElem?_append_right (Nat.le_refl _), Nat.sub_self]
  rfl
theorem Mid.stk {W : World} {base : Nat} {v : Value} {vs : List Value} {ls : List (List S48)} {f : Nat → Nat} {x : Value} {l : List S48} (h : Mid W base v vs ls f x l) (hx : vs[ls.length]? = some x) : Stk W base v (ls ++ [l]) := by
  refine ⟨f, vs, by rw [List.length_append]; exact h.len, by rw [List.length_append]; exact h.own, fun i y m hy hm => ?_⟩
  rcases Nat.lt_or_ge i ls.length with hi | hi
  · rw [List.getElem?_append_left hi] at hm
    exact h.low i y m hi hy hm
  · have : i = ls.length := by
      have := (List.getElem?_eq_some_iff.1 hm).1
      rw [List.length_append, List.length_singleton] at this
      omega
    subst this
    rw [List.getElem?_append_right (Nat.le_refl _), Nat.sub_self] at hm
    rw [hx] at hy
    injection hy with hy
    injection hm with hm
    subst hy; subst hm
    exact h.top
/-- A level is opened. -/
theorem push_c (W : World) (base : Nat) (v : Value) (ls : List (List S48)) (hb : base ≤ W.heap.size) (hl : ls.length ≤ 2000000) (h : Stk W base v ls) :
    ∃ v1 w1, (Builtin.append_ #[58, 58] 58 #[v, .slice (some ⟨W.heap.size, 0, none⟩) 1 1]).run Tryd.prog (W.alloc (.cells #[.slice none 0 0] 34)) = .ok v1 w1 ∧ Stk w1 base v1 (ls ++ [[]]) ∧ W.grownBy w1 v.ownBlock := by
  obtain ⟨i, hi, hz⟩ := Option.map_eq_some_iff.1 info34
  simp only [Prod.mk.injEq] at hz
  obtain ⟨hz0, hz1, hz2⟩ := hz
  obtain ⟨f, vs, h1, h2, h3⟩ := h.out
  have hb1 : Below W.heap.size W (W.alloc (Obj.cells #[.slice none 0 0] 34)) := (Below.refl _ _).alloc (Nat.le_refl _) _
  have hn := heap_alloc_new W (Obj.cells #[.slice none 0 0] 34)
  obtain ⟨v1, w1, hrun, h4, h5, _, h6⟩ := run_append_own_at (P := Tryd.prog) _ base 58 58 34 i _ 1 24 Tryd.underlying58 hi hz0 hz1 hz2 rfl (by decide) v ls.length vs (pw_own_below h2 hb1)
    ⟨W.heap.size, 0, none⟩ 1 1 [.slice none 0 0] rfl (fun j u hu => by
      have hc := blk_cell hn j
      have ha : (⟨W.heap.size, 0, none⟩ : Addr).add j = ⟨W.heap.size, j, none⟩ := by unfold Addr.add; simp; intro h; exact h.symm
      rw [ha, hc]
      simpa using hu) (by intro u hu; simp only [List.mem_singleton] at hu; subst hu; rfl) (by simp only [maxLen]; omega) (by omega) (Nat.le_trans hb hb1.size)
  have hg : W.grownBy w1 v.ownBlock := ⟨h5.os, h5.tape, h5.output, Nat.le_trans hb1.size h5.size, fun k hk hne => (h5.block k (Nat.lt_of_lt_of_le hk hb1.size) hne).trans (hb1.block k hk)⟩
  refine ⟨v1, w1, hrun, ⟨f, vs ++ [.slice none 0 0], by rw [List.length_append, List.length_append, h1]; rfl, by rw [List.length_append]; exact h4, fun i y m hy hm => ?_⟩, hg⟩
  rcases Nat.lt_or_ge i ls.length with hi | hi
  · rw [List.getElem?_append_left hi] at hm
    rw [List.getElem?_append_left (by omega)] at hy
    exact Kd.R_over' (h3 i y m hy hm) (fun k hk => own_typed h2 k hk) k48_E hg
  · have : i = ls.length := by
      have := (List.getElem?_eq_some_iff.1 hm).1
      rw [List.length_append, List.length_singleton] at this
      omega
    subst this
    rw [List.getElem?_append_right (Nat.le_refl _), Nat.sub_self] at hm
    rw [List.getElem?_append_right (by omega), h1, Nat.sub_self] at hy
    injection hy with hy
    injection hm with hm
    subst hy; subst hm
    exact Kd.R_nil _ _ _ _ _
/-- The top level is taken off: its row is to be an element's. -/
theorem Stk.pop {W : World} {base c : Nat} {A : Option Addr} {n : Nat} {ls : List (List S48)} {l m : List S48} (h : Stk W base (.slice A n c) (ls ++ [l] ++ [m])) :
    ∃ (f : Nat → Nat) (okp : Nat → Prop) (vs : List Value) (x y : Value), vs[ls.length + 1]? = some y ∧ vs[ls.length]? = some x ∧ W.ownsRow base 34 1 (.slice A n c) (ls.length + 2) vs ∧ Mid W base (.slice A (ls.length + 1) c) (vs.take (ls.length + 1)) ls f x l ∧
      k48.R 48 W base okp y m ∧ (∀ k, okp k → f k = ls.length ∧ k < W.heap.size ∧ some k ≠ x.ownBlock) ∧ (∀ k, W.heap.size ≤ k → f k = ls.length) := by
  obtain ⟨f, vs, h1, h2, h3⟩ := h.out
  have e0 : (ls ++ [l] ++ [m]).length = ls.length + 2 := by simp
  rw [e0] at h1 h2
  have hn := slice_n_of h2
  have hm0 : (ls ++ [l] ++ [m])[ls.length + 1]? = some m := by simp
  have hl0 : (ls ++ [l] ++ [m])[ls.length]? = some l := by simp
  have hy := List.getElem?_eq_getElem (l := vs) (i := ls.length + 1) (by omega)
  have hx := List.getElem?_eq_getElem (l := vs) (i := ls.length) (by omega)
  have hR1 := h3 _ _ _ hy hm0
  have hR0 := h3 _ _ _ hx hl0
  have hc0 : ∀ k, f k = ls.length → (if W.heap.size ≤ k ∨ f k = ls.length + 1 then ls.length else f k) = ls.length := fun k hk => by
    split
    · rfl
    · exact hk
  refine ⟨fun k => if W.heap.size ≤ k ∨ f k = ls.length + 1 then ls.length else f k, fun k => f k = ls.length + 1 ∧ k < W.heap.size, vs, _, _, hy, hx, h2, ⟨?_, ?_, fun i q r hi hq hr => ?_, ?_⟩, ?_, fun k hk => ⟨?_, hk.2, fun he => ?_⟩, fun k hk => ?_⟩
  · rw [List.length_take]; omega
  · subst hn
    have := own_take h2 (m := ls.length + 1) (by omega)
    rw [Nat.mul_one] at this
    exact this
  · have hq' : vs[i]? = some q := by rw [List.getElem?_take, if_pos (by omega)] at hq; exact hq
    have hr' : (ls ++ [l] ++ [m])[i]? = some r := by
      rw [List.append_assoc, List.getElem?_append_left hi]; exact hr
    refine Kd.R_mono (Kd.R_bound (h3 i q r hq' hr')) (fun k hk => ?_)
    show (if W.heap.size ≤ k ∨ f k = ls.length + 1 then ls.length else f k) = i
    rw [if_neg (by have := hk.1; have := hk.2.2.1; omega)]
    exact hk.1
  · exact Kd.R_mono hR0 (fun k hk => hc0 k hk)
  · exact Kd.R_mono (Kd.R_bound hR1) (fun k hk => ⟨hk.1, hk.2.2.1⟩)
  · show (if W.heap.size ≤ k ∨ f k = ls.length + 1 then ls.length else f k) = ls.length
    rw [if_pos (.inr hk.1)]
  · have := hR0.1 k he.symm
    have := hk.1
    omega
  · show (if W.heap.size ≤ k ∨ f k = ls.length + 1 then ls.length else f k) = ls.length
    rw [if_pos (.inl hk)]

/-! ### The words' trees as the memory has them -/
def F.to : F → List S48
  | .nil => []
  | .cons k t c r => ⟨k, ⟨t.toArray⟩, c.to⟩ :: r.to
theorem F.to_len : ∀ f : F, f.to.length = f.len
  | .nil => rfl
  | .cons k t c r => by simp only [F.to, F.len, List.length_cons, F.to_len r]
theorem F.to_app : ∀ f g : F, (f.app g).to = f.to ++ g.to
  | .nil, g => rfl
  | .cons k t c r, g => by simp only [F.to, F.app, F.to_app r g, List.cons_append]
theorem F.len_app : ∀ f g : F, (f.app g).len = f.len + g.len
  | .nil, g => by simp [F.app, F.len]
  | .cons k t c r, g => by simp only [F.app, F.len, F.len_app r g]; omega
def lev (st : List F) : List (List S48) := (st.map F.to).reverse
theorem lev_cons (f : F) (st : List F) : lev (f :: st) = lev st ++ [f.to] := by unfold lev; simp
theorem lev_len (st : List F) : (lev st).length = st.length := by unfold lev; simp
theorem nxt_len (p : Nat) (l : List UInt8) (k : Tok) (r : List UInt8) (h : nxt p l = some (k, r)) : r.length < l.length := by
  cases l with
  | nil => cases h
  | cons c t =>
    by_cases h1 : c = 40
    · subst h1; injection h with h; injection h with _ h; rw [← h]; simp
    · by_cases h2 : c = 41
      · subst h2; injection h with h; injection h with _ h; rw [← h]; simp
      · by_cases h3 : c = 34
        · subst h3
          rw [nxt_str] at h
          cases hs : str (t.length + 1) t [] with
          | none => rw [hs] at h; cases h
          | some q =>
            rw [hs] at h; injection h with h; injection h with _ h
            have := str_len _ _ _ _ _ hs
            rw [← h]
            simp only [List.length_cons]
            omega
        · rw [nxt_at p c t h1 h2 h3] at h
          split at h
          · cases h
          · rename_i h4
            injection h with h; injection h with _ h
            have h5 := congrArg List.length (List.takeWhile_append_dropWhile (p := isSign) (l := c :: t))
            rw [List.length_append] at h5
            have h6 := List.length_pos_iff.2 h4
            rw [← h]
            omega
theorem toks_len (N : Nat) : ∀ (f : Nat) (l : List UInt8) (e : Int) (ks : List Tok), toks N f l e = some ks → ks.length ≤ l.length := by
  intro f
  induction f with
  | zero => intro l e ks h; cases h
  | succ f ih =>
    intro l e ks h
    simp only [toks] at h
    cases hs : spc (l.length + 1) l with
    | none => rw [hs] at h; cases h
    | some m =>
      have hl := spc_len _ _ _ hs
      rw [hs] at h
      cases m with
      | nil => injection h with h; rw [← h]; simp
      | cons c t =>
        simp only at h
        cases hn : nxt (N - (c :: t).length) (c :: t) with
        | none => rw [hn] at h; cases h
        | some q =>
          obtain ⟨k, r⟩ := q
          have hq := nxt_len _ _ _ _ hn
          rw [hn] at h
          simp only at h
          split at h
          · cases h
          · cases ht : toks N f r (if k.kind = 2 ∨ k.kind = 3 then ((N - r.length : Nat) : Int) else e) with
            | none => rw [ht] at h; cases h
            | some k2 =>
              have := ih _ _ _ ht
              rw [ht] at h
              injection h with h
              rw [← h]
              simp only [List.length_cons] at hl hq ⊢
              omega
theorem tokF_len (s : ByteArray) (ks : List Tok) (h : tokF s = some ks) : ks.length ≤ s.size := by
  unfold tokF at h
  split at h
  · have := toks_len _ _ _ _ _ h
    rwa [len_data] at this
  · cases h

/-! ### The stores -/
theorem Mid.cell {W : World} {base b n cap : Nat} {vs : List Value} {ls : List (List S48)} {f : Nat → Nat} {x y : Value} {l : List S48} (h : Mid W base (.slice (some ⟨b, 0, none⟩) n cap) vs ls f x l) (hy : vs[ls.length]? = some y) : W.cell? ⟨b, ls.length, none⟩ = some y := by
  have := h.own.cells (g := b) rfl ls.length y hy
  rwa [add_plain] at this
theorem R_row {W : World} {base g n cap : Nat} {ok : Nat → Prop} {l : List S48} (h : k48.R 48 W base ok (.slice (some ⟨g, 0, none⟩) n cap) l) : ∃ cur, W.heap[g]? = some (.cells cur 48 (0, 0)) ∧ n * 3 ≤ cur.size := by
  obtain ⟨inner, ho⟩ := Kd.R_own h
  rcases ho.2 with ⟨h, _⟩ | ⟨g', cap', cur, hv, hb, hh, hnc, hcm, hcs, ht⟩
  · cases h
  injection hv with ha hn hc
  injection ha with ha
  injection ha with hg
  subst hg; subst hc
  refine ⟨cur, hh, ?_⟩
  have : k48.sz = 3 := rfl
  rw [hcs, this, hn]
  exact Nat.mul_le_mul_right _ hnc
theorem psz48 : (Tryd.prog.info? 48).map (·.size) = some 3 := by kernel_rfl
theorem psz34 : (Tryd.prog.info? 34).map (·.size) = some 1 := by kernel_rfl
theorem Mid.fill_run {W : World} {base g cap : Nat} {v : Value} {vs : List Value} {ls : List (List S48)} {f : Nat → Nat} {l : List S48} {z : S48} (p q r : Value) (h1 : ∀ u ∈ [p, q, r], u.oneCell' = true)
    (h : Mid W base v vs ls f (.slice (some ⟨g, 0, none⟩) (l.length + 1) cap) (l ++ [z])) (hu : (Value.agg #[p, q, r]).cells.toList = [p, q, r]) : (Instr.storeAt 48 (.pointer (some ⟨g, l.length * 3, none⟩)) (.agg #[p, q, r])).run Tryd.prog W = .ok () (W.setCells g (l.length * 3) [p, q, r]) := by
  obtain ⟨cur, hh, hs⟩ := R_row h.top
  exact run_store_run (e := 48) 48 _ [p, q, r] hh hu psz48 (by simp only [List.length_cons, List.length_nil]; omega) h1
theorem own_row1 {W : World} {base b n m cap e : Nat} {vs : List Value} (h : W.ownsRow base e 1 (.slice (some ⟨b, 0, none⟩) n cap) m vs) : ∃ cur, W.heap[b]? = some (.cells cur e (0, 0)) ∧ m ≤ cur.size := by
  rcases h.2 with ⟨h, _⟩ | ⟨g', cap', cur, hv, hb, hh, hnc, hcm, hcs, ht⟩
  · cases h
  injection hv with ha hn hc
  injection ha with ha
  injection ha with hg
  subst hg; subst hc
  exact ⟨cur, hh, by omega⟩
theorem Mid.put_run {W : World} {base b n cap : Nat} {vs : List Value} {ls : List (List S48)} {f : Nat → Nat} {x : Value} {l : List S48} (h : Mid W base (.slice (some ⟨b, 0, none⟩) n cap) vs ls f x l) (h1 : x.oneCell' = true) (hu : x.cells.toList = [x]) :
    (Instr.storeAt 34 (.pointer (some ⟨b, ls.length, none⟩)) x).run Tryd.prog W = .ok () (W.setCell ⟨b, ls.length, none⟩ x) := by
  obtain ⟨cur, hh, hfit⟩ := own_row1 h.own
  have e : W.setCells b ls.length [x] = W.setCell ⟨b, ls.length, none⟩ x := by simp only [World.setCells]
  rw [← e]
  have hall : ∀ q ∈ [x], q.oneCell' = true := by
    intro u hu
    rw [List.mem_singleton] at hu
    subst hu
    exact h1
  exact run_store_run (P := Tryd.prog) (w := W) (g := b) (o := ls.length) (e := 34) (cur := cur) 34 x [x] hh hu psz34 hfit hall
section
variable {P : Program} {ops : Array Oper} {o : Oper} {a : Act} {Q : Exit → Act → World → Prop} {Kc : Act → World → Prop} {W : World}
theorem rstep_append (hw : Region.wanted o (yielded ops a.tmps) = true) (s x : Operand) (t t' : TypeId) (ho : o.op = .call { callee := .builtin .append, args := #[s, x], argTypes := #[t, t'] }) (vs vx r : Value) (w1 : World) (hs : a.eval s = vs) (hx : a.eval x = vx)
    (hr : (Builtin.append_ #[t, t'] o.type #[vs, vx]).run P W = .ok r w1) (h : Kc (a.put o.dst r) w1) : if Region.wanted o (yielded ops a.tmps) = true then Oper.wp P o a W Kc Q else Kc (a.put o.dst undef) W := by
  rw [if_pos hw]
  unfold Oper.wp execOp
  simp only [ho, resolve, invoke, builtin, Sem.run_bind, Sem.run_pure, Result.andThen_ok, List.map_toArray, List.map_cons, List.map_nil, hs, hx, hr]
  exact h
theorem rstep_store (hw : Region.wanted o (yielded ops a.tmps) = true) (hN : o.dst = none) (t : TypeId) (p x : Operand) (ho : o.op = .store t p x) (q : Addr) (u : Value) (w1 : World) (hp : a.eval p = .pointer (some q)) (hx : a.eval x = u)
    (hr : (Instr.storeAt t (.pointer (some q)) u).run P W = .ok () w1) (h : Kc a w1) : if Region.wanted o (yielded ops a.tmps) = true then Oper.wp P o a W Kc Q else Kc (a.put none undef) W := by
  rw [if_pos hw]
  unfold Oper.wp execOp
  simp only [ho, hp, hx, Sem.run_bind, Sem.run_pure, Result.andThen_ok, hr]
  show Kc (a.put o.dst undef) _
  rw [hN]
  exact h
end
theorem step_store {P : Program} {ops : Array Oper} {rest : List Oper} {o : Oper} {a : Act} {Q : Exit → Act → World → Prop} {W : World} (hgd : o.guard = none) (hN : o.dst = none) (t : TypeId) (p x : Operand) (ho : o.op = .store t p x) (q : Addr) (u : Value) (w1 : World) (hp : a.eval p = .pointer (some q)) (hx : a.eval x = u)
    (hr : (Instr.storeAt t (.pointer (some q)) u).run P W = .ok () w1) (h : wpList P ops Q rest a w1) : wpList P ops Q (o :: rest) a W := by
  refine wpList_plain hgd fun K hK => ?_
  unfold Oper.wp execOp
  simp only [ho, hp, hx, Sem.run_bind, Sem.run_pure, Result.andThen_ok, hr]
  show K (a.put o.dst undef) _
  rw [hN]
  exact hK _ _ h
end Go.Proofs.YtjecdciabpjgcaaDoor.Lx
