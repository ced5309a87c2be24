/-
  The walk of lex.Tokens. Condition: the library's variable internal/bytealg.MaxLen holds a number; the text is no longer than 1000000 bytes.
-/
import Derived.Test.YtjecdciabpjgcaaDoorLxJ
import Derived.Maps.AppendAt
namespace Go.Proofs.YtjecdciabpjgcaaDoor.Lx
set_option linter.unusedVariables false
set_option linter.unusedSimpArgs false
open Go.RowKit Go.Proofs.YtjecdciabpjgcaaDoorW.PrintWords Go.Proofs.YtjecdciabpjgcaaDoor.PLx Go.Proofs.YtjecdciabpjgcaaDoor.Lb

/-- A word's cells. -/
def tc (k : Tok) : List Value := [.int .i64 k.kind, .string ⟨k.text.toArray⟩, .int .i64 (k.at_ : Int)]
def tcl (ks : List Tok) : List Value := ks.flatMap tc
theorem tcl_len : ∀ ks : List Tok, (tcl ks).length = ks.length * 3
  | [] => rfl
  | k :: ks => by
    have := tcl_len ks
    unfold tcl at this ⊢
    rw [List.flatMap_cons, List.length_append, this, List.length_cons]
    show 3 + _ = _
    omega
theorem tcl_app (a b : List Tok) : tcl (a ++ b) = tcl a ++ tcl b := by unfold tcl; rw [List.flatMap_append]
theorem tc_one (k : Tok) : ∀ u ∈ tc k, u.oneCell' = true := by
  intro u hu
  unfold tc at hu
  simp only [List.mem_cons, List.not_mem_nil, or_false] at hu
  rcases hu with rfl | rfl | rfl <;> rfl
def zero31 : Value := .agg #[.int .i64 0, .string ⟨#[]⟩, .int .i64 0]
theorem info31 : (Tryd.prog.info? 31).map (fun i => (i.zero, i.size, i.bytes)) = some (some zero31, 3, 32) := by kernel_rfl
/-- append(v, k), v a row of one's own; k's cells are a literal's. -/
theorem append_t (W : World) (base : Nat) (ks : List Tok) (v : Value) (k : Tok) (hb : base ≤ W.heap.size) (hl : ks.length ≤ 2000000) (HO : W.ownsRow base 31 3 v ks.length (tcl ks)) :
    ∃ v1 w1, (Builtin.append_ #[23, 23] 23 #[v, .slice (some ⟨W.heap.size, 0, none⟩) 1 1]).run Tryd.prog (W.alloc (Obj.cells #[.int .i64 k.kind, .string ⟨k.text.toArray⟩, .int .i64 (k.at_ : Int)] 31)) = .ok v1 w1 ∧
      w1.ownsRow base 31 3 v1 (ks ++ [k]).length (tcl (ks ++ [k])) ∧ (W.alloc (Obj.cells #[.int .i64 k.kind, .string ⟨k.text.toArray⟩, .int .i64 (k.at_ : Int)] 31)).grownBy w1 v.ownBlock := by
  obtain ⟨i, hi, hz⟩ := Option.map_eq_some_iff.1 info31
  simp only [Prod.mk.injEq] at hz
  obtain ⟨hz0, hz1, hz2⟩ := hz
  have hb1 : Below W.heap.size W (W.alloc (Obj.cells #[.int .i64 k.kind, .string ⟨k.text.toArray⟩, .int .i64 (k.at_ : Int)] 31)) := (Below.refl _ _).alloc (Nat.le_refl _) _
  have hn := heap_alloc_new W (Obj.cells #[.int .i64 k.kind, .string ⟨k.text.toArray⟩, .int .i64 (k.at_ : Int)] 31)
  obtain ⟨v1, w1, hr, h2, h3, _, _⟩ := run_append_own_at (P := Tryd.prog) _ base 23 23 31 i zero31 3 32 Tryd.underlying23 hi hz0 hz1 hz2 rfl (by decide) v ks.length (tcl ks) (pw_own_below HO hb1)
    ⟨W.heap.size, 0, none⟩ 1 1 (tc k) rfl (fun j u hu => by
      have hj : j < 3 := by
        rcases Nat.lt_or_ge j 3 with h | h
        · exact h
        · rw [List.getElem?_eq_none (by exact h)] at hu; cases hu
      have hc := blk_cell hn j
      have ha : (⟨W.heap.size, 0, none⟩ : Addr).add j = ⟨W.heap.size, j, none⟩ := by unfold Addr.add; simp; intro h; exact h.symm
      rw [ha, hc]
      have : j = 0 ∨ j = 1 ∨ j = 2 := by omega
      rcases this with rfl | rfl | rfl <;> exact hu) (tc_one k) (by simp only [maxLen]; omega) (by omega) (Nat.le_trans hb hb1.size)
  refine ⟨v1, w1, hr, ?_, h3⟩
  rw [tcl_app, List.length_append]
  have e : tcl [k] = tc k := by unfold tcl; simp
  rw [e]
  exact h2
theorem step_append {P : Program} {ops : Array Oper} {rest : List Oper} {o : Oper} {a : Act} {Q : Exit → Act → World → Prop} {W : World} (hgd : o.guard = none) (s x : Operand) (t t' : TypeId)
    (ho : o.op = .call { callee := .builtin .append, args := #[s, x], argTypes := #[t, t'] }) (vs vx r : Value) (w1 : World) (hs : a.eval s = vs) (hx : a.eval x = vx) (hr : (Builtin.append_ #[t, t'] o.type #[vs, vx]).run P W = .ok r w1)
    (h : wpList P ops Q rest (a.put o.dst r) w1) : wpList P ops Q (o :: rest) a W := by
  refine wpList_plain hgd fun K hK => ?_
  unfold Oper.wp execOp
  simp only [ho, resolve, invoke, builtin, Sem.run_bind, Sem.run_pure, Result.andThen_ok, List.map_toArray, List.map_cons, List.map_nil, hs, hx, hr]
  exact hK _ _ h

/-- A text's words; none: it has none. -/
def tokF (s : ByteArray) : Option (List Tok) := if validG s s.size 0 = true then toks s.size (s.size + 1) s.data.toList (-1) else none
structure TokQ (w : World) (R : Option (List Tok)) (e : Ending) (w' : World) : Prop where mk ::
  (out : Below w.heap.size w w' ∧ ((R = none ∧ e = .returned (.tuple #[.slice none 0 0, .int .i64 70])) ∨ ∃ ks v, R = some ks ∧ e = .returned (.tuple #[v, .int .i64 0]) ∧ w'.ownsRow w.heap.size 31 3 v ks.length (tcl ks)))
theorem spc_len : ∀ (f : Nat) (l r : List UInt8), spc f l = some r → r.length ≤ l.length := by
  intro f
  induction f with
  | zero => intro l r h; cases h
  | succ f ih =>
    intro l r h
    cases l with
    | nil => rw [spc_nil] at h; injection h with h; subst h; exact Nat.le_refl _
    | cons c t =>
      cases h1 : isWs c
      · cases h2 : Lib.hasPrefix (c :: t) [59, 59]
        · cases h3 : Lib.hasPrefix (c :: t) [40, 59]
          · rw [spc_end f c t h1 h2 h3] at h; injection h with h; subst h; exact Nat.le_refl _
          · rw [spc_com f c t h1 h2 h3] at h
            cases hc : cm ((c :: t).length + 1) 0 (c :: t) with
            | none => rw [hc] at h; cases h
            | some q =>
              rw [hc] at h
              have := cm_len _ _ _ _ hc
              have := ih _ _ h
              omega
        · rw [spc_line f c t h1 h2] at h
          have h4 := ih _ _ h
          have h5 : ((c :: t).dropWhile (· != 10)).length ≤ (c :: t).length := (List.dropWhile_suffix _).length_le
          omega
      · rw [spc_ws f c t h1] at h
        have := ih _ _ h
        simp only [List.length_cons]
        omega
/-- What is done with a word. -/
def toksN (N f : Nat) (e : Int) (m : Nat) : Option (Tok × List UInt8) → Option (List Tok)
  | none => none
  | some (k, r) =>
    if (k.kind = 2 ∨ k.kind = 3) ∧ ((m : Nat) : Int) = e then none
    else match toks N f r (if k.kind = 2 ∨ k.kind = 3 then ((N - r.length : Nat) : Int) else e) with
      | none => none
      | some ks => some (k :: ks)
theorem toks_none (N f : Nat) (l : List UInt8) (e : Int) (h : spc (l.length + 1) l = none) : toks N (f + 1) l e = none := by
  simp only [toks]; rw [h]
theorem toks_end (N f : Nat) (l : List UInt8) (e : Int) (h : spc (l.length + 1) l = some []) : toks N (f + 1) l e = some [] := by
  simp only [toks]; rw [h]
theorem toks_at (s : ByteArray) (f : Nat) (l : List UInt8) (e : Int) (m : Nat) (hm : m < s.size) (h : spc (l.length + 1) l = some (s.data.toList.drop m)) : toks s.size (f + 1) l e = toksN s.size f e m (nxt m (s.data.toList.drop m)) := by
  have hl : s.size - (s[m] :: s.data.toList.drop (m + 1)).length = m := by rw [← drop_at s m hm, List.length_drop, len_data]; omega
  rw [drop_at s m hm] at h ⊢
  simp only [toks]
  rw [h]
  simp only
  rw [hl]
  cases nxt m (s[m] :: s.data.toList.drop (m + 1)) with
  | none => rfl
  | some p => rfl
theorem nxt_pos (p : Nat) (l : List UInt8) (k : Tok) (r : List UInt8) (h : nxt p l = some (k, r)) : k.at_ = p := by
  cases l with
  | nil => cases h
  | cons c t =>
    by_cases h1 : c = 40
    · subst h1; injection h with h; injection h with h _; rw [← h]
    · by_cases h2 : c = 41
      · subst h2; injection h with h; injection h with h _; rw [← h]
      · by_cases h3 : c = 34
        · subst h3
          rw [nxt_str] at h
          cases hs : str (t.length + 1) t [] with
          | none => rw [hs] at h; cases h
          | some q => rw [hs] at h; injection h with h; injection h with h _; rw [← h]
        · rw [nxt_at p c t h1 h2 h3] at h
          split at h
          · cases h
          · injection h with h; injection h with h _; rw [← h]
theorem toksN_on (s : ByteArray) (f m m2 : Nat) (e e' : Int) (k : Tok) (ks : List Tok) (R : Option (List Tok)) (hm2 : m2 ≤ s.size) (h1 : ¬ ((k.kind = 2 ∨ k.kind = 3) ∧ ((m : Nat) : Int) = e)) (he : e' = if k.kind = 2 ∨ k.kind = 3 then (m2 : Int) else e)
    (h : (match toksN s.size f e m (some (k, s.data.toList.drop m2)) with | none => none | some k2 => some (ks ++ k2)) = R) :
    (match toks s.size f (s.data.toList.drop m2) e' with | none => none | some k2 => some ((ks ++ [k]) ++ k2)) = R := by
  have hl : s.size - (s.data.toList.drop m2).length = m2 := by rw [List.length_drop, len_data]; omega
  simp only [toksN] at h
  rw [if_neg h1, hl, ← he] at h
  cases ht : toks s.size f (s.data.toList.drop m2) e' with
  | none => rw [ht] at h; exact h
  | some k2 => rw [ht] at h; simpa using h
theorem toksN_bad (s : ByteArray) (f m : Nat) (e : Int) (k : Tok) (r : List UInt8) (ks : List Tok) (R : Option (List Tok)) (h1 : (k.kind = 2 ∨ k.kind = 3) ∧ ((m : Nat) : Int) = e)
    (h : (match toksN s.size f e m (some (k, r)) with | none => none | some k2 => some (ks ++ k2)) = R) : R = none := by
  simp only [toksN] at h
  rw [if_pos h1] at h
  exact h.symm
theorem Rd.grown {w w1 : World} {g n : Nat} {s : ByteArray} {row : Option Nat} (h : Rd w g s n) (hg : w.grownBy w1 row) (hne : some g ≠ row) : Rd w1 g s n := ⟨(hg.block g h.lt hne).trans h.out⟩
def TkR (g : Nat) (s : ByteArray) (w : World) (R : Option (List Tok)) (v5 v6 : Value) (wr : World) : Prop :=
  ∃ (n f : Nat) (e : Int) (ks : List Tok), v6 = .int .i64 e ∧ -1 ≤ e ∧ e ≤ 2000000 ∧ n ≤ s.size ∧ ks.length ≤ n ∧ Rd wr g s n ∧ Below w.heap.size w wr ∧ s.size - n < f ∧ wr.ownsRow w.heap.size 31 3 v5 ks.length (tcl ks) ∧
    (match toks s.size f (s.data.toList.drop n) e with | none => none | some k2 => some (ks ++ k2)) = R
theorem own_ne51 {W : World} {base g : Nat} {v : Value} {xs : List Value} {n m : Nat} {s : ByteArray} (h : W.ownsRow base 31 3 v n xs) (hr : Rd W g s m) : v.ownBlock ≠ some g := fun e => by
  obtain ⟨cells, hc⟩ := own_typed h g e
  rw [hr.out] at hc
  injection hc with hc
  injection hc with _ hc
  cases hc
theorem own_turnT {w w' : World} {g base n : Nat} {v : Value} {xs : List Value} (h : w.ownsRow base 31 3 v n xs) (ht : Turn w w' g) (hg : v.ownBlock ≠ some g) : w'.ownsRow base 31 3 v n xs :=
  ht.keep.own h hg (by cases v.ownBlock <;> simp)
set_option maxRecDepth 1000000 in
set_option maxHeartbeats 4000000 in
theorem tokens_c (s : ByteArray) (hs : s.size ≤ 1000000) (w : World) (hm : ML w) : Calls Tryd.prog 10 #[.string s] w (TokQ w (tokF s)) := by
  obtain ⟨R, hR⟩ : ∃ R, tokF s = R := ⟨_, rfl⟩
  rw [hR]
  unfold tokF at hR
  have hsz : (s.size : Int) ≤ 1048576 := by omega
  have HV := Lib.hid (fun w => valid_w s (by omega) w)
  have HM := Lib.hid hm
  have HW0 : Hid (0 < w.heap.size) := Lib.hid (by obtain ⟨m, h⟩ := hm; exact Nat.lt_of_le_of_lt (Nat.zero_le _) (World.block_lt_of_cell? w _ h))
  cases hval : validG s s.size 0
  · rw [hval, if_neg (by decide)] at hR
    have HE := Lib.hid hR.symm
    rw [hval] at HV
    clear hval hR hm
    go_enter Tryd.func10, Tryd.ntmps10
    go_wp2_with fail
    refine (HV.out _).mono ?_
    intro e w1 hq
    obtain ⟨he, pos, hw1⟩ := hq.out
    subst he
    subst hw1
    clear hq
    go_wp2
    go_ret2
    exact ⟨iter_bel _ _ _, .inl ⟨HE.out, rfl⟩⟩
  · rw [hval, if_pos rfl] at hR
    have HR := Lib.hid hR
    rw [hval] at HV
    clear hval hR hm
    go_enter Tryd.func10, Tryd.ntmps10
    go_wp2_with fail
    refine (HV.out _).mono ?_
    intro e w1 hq
    obtain ⟨he, pos, hw1⟩ := hq.out
    subst he
    have HB1 : Hid (Below w.heap.size w w1) := Lib.hid (by rw [hw1]; exact iter_bel _ _ _)
    clear hq hw1
    go_upto_block 2 with fail
    obtain ⟨W, hW⟩ : ∃ W, W = w1.alloc (Obj.cells #[.string s, .int .i64 0] 51) := ⟨_, rfl⟩
    obtain ⟨g, hg⟩ : ∃ g, g = w1.heap.size := ⟨_, rfl⟩
    rw [← hW, ← hg]
    have hr : Rd W g s 0 := ⟨by rw [hW, hg]; exact heap_alloc_new w1 _⟩
    have HBW : Hid (Below w.heap.size w W) := Lib.hid (by rw [hW]; exact HB1.out.alloc HB1.out.size _)
    have HG0 : Hid (w.heap.size ≤ g) := Lib.hid (by rw [hg]; exact HB1.out.size)
    have HGN : Hid (g ≠ 0) := Lib.hid (by have := HG0.out; have := HW0.out; omega)
    have HA : Hid (TkR g s w R (.slice none 0 0) (.int .i64 (-1)) W) := Lib.hid ⟨0, s.size + 1, -1, [], rfl, by omega, by omega, Nat.zero_le _, Nat.le_refl _, hr, HBW.out, by omega, own_nil _ _ _ _, by
      have := HR.out
      rw [List.drop_zero, this]
      cases R <;> rfl⟩
    clear hr hW hg
    go_wp2
    go_loopw [5, 6] (TkR g s w R) (fun _ _ wr => s.size - rdPos wr g)
    case atStart => exact HA.out
    case round =>
      obtain ⟨n, f, e, ks, rfl, he1, he2, hn, hkn, hr, hb, hf, ho, hc⟩ := hrel
      have HR0 := Lib.hid hr
      have HBR := Lib.hid hb
      have HO := Lib.hid ho
      have HNE := Lib.hid (own_ne51 ho hr)
      have HMR := Lib.hid (HM.out.below hb)
      obtain ⟨f, rfl⟩ : ∃ k, f = k + 1 := ⟨f - 1, by omega⟩
      have HC := Lib.hid hc
      obtain ⟨S, hS⟩ : ∃ S, spc (s.size - n + 1) (s.data.toList.drop n) = S := ⟨_, rfl⟩
      have hll : (s.data.toList.drop n).length = s.size - n := by rw [List.length_drop, len_data]
      have HSP := Lib.hid (fun w hr => space_c g s n hn (by omega) w hr S hS)
      have HS0 : Hid (S = none → R = none) := Lib.hid (fun h => by
        have := HC.out
        rw [toks_none _ _ _ _ (by rw [hll, hS, h])] at this
        exact this.symm)
      have HS1 : Hid (∀ m, m < s.size → S = some (s.data.toList.drop m) → (match toksN s.size f e m (nxt m (s.data.toList.drop m)) with | none => none | some k2 => some (ks ++ k2)) = R) := Lib.hid (fun m hm h => by
        have := HC.out
        rw [toks_at s f _ e m hm (by rw [hll, hS, h])] at this
        exact this)
      have HS2 : Hid (S = some [] → R = some ks) := Lib.hid (fun h => by
        have := HC.out
        rw [toks_end _ _ _ _ (by rw [hll, hS, h])] at this
        simp only [List.append_nil] at this
        exact this.symm)
      have HSL : Hid (∀ m, m ≤ s.size → S = some (s.data.toList.drop m) → n ≤ m) := Lib.hid (fun m hm h => by
        have := spc_len _ _ _ (hS.trans h)
        rw [List.length_drop, List.length_drop, len_data] at this
        omega)
      clear hc hr hb ho hS hll
      go_wp2_with fail
      refine (HSP.out _ HR0.out).mono ?_
      intro e1 w2 hq
      obtain ⟨m, hm, hr2, ht2, hor⟩ := hq.out
      have HR2 := Lib.hid hr2
      have HT2 := Lib.hid ht2
      have HB2 := Lib.hid (ht2.below HBR.out HG0.out)
      have HO2 := Lib.hid (own_turnT HO.out ht2 HNE.out)
      have HM2 := Lib.hid (HMR.out.turn ht2 HGN.out)
      clear hq hr2 ht2
      rcases hor with ⟨hs0, he⟩ | ⟨hs0, he⟩
      · subst he
        have HE := Lib.hid (HS0.out hs0)
        clear hs0
        go_wp2
        go_ret2
        exact ⟨HB2.out, .inl ⟨HE.out, rfl⟩⟩
      · subst he
        have hnm := HSL.out m hm hs0
        have h0 := HR2.out.c0
        have h1 := HR2.out.c1
        by_cases hme : m < s.size
        · have hne : ((m : Int) == (s.size : Int)) = false := by simp only [beq_eq_false_iff_ne, ne_eq]; omega
          obtain ⟨X, hX⟩ : ∃ X, nxt m (s.data.toList.drop m) = X := ⟨_, rfl⟩
          have hx := HS1.out m hme hs0
          rw [hX] at hx
          have HX := Lib.hid hx
          have HNX := Lib.hid (fun w hr hm => next_c g s m hme (by omega) w hr HGN.out hm X hX)
          have HAT : Hid (∀ k r, X = some (k, r) → k.at_ = m) := Lib.hid (fun k r h => nxt_pos m _ k r (hX.trans h))
          clear hs0 hx hX
          go_wp2_with fail
          refine (HNX.out _ HR2.out HM2.out).mono ?_
          intro e2 w3 hq
          obtain ⟨m2, hm2, hr3, ht3, hor⟩ := hq.out
          have HR3 := Lib.hid hr3
          have HT3 := Lib.hid ht3
          have HB3 := Lib.hid (ht3.below HB2.out HG0.out)
          have HNE2 := Lib.hid (own_ne51 HO2.out HR2.out)
          have HO3 := Lib.hid (own_turnT HO2.out ht3 HNE2.out)
          have h30 := hr3.c0
          have h31 := hr3.c1
          have hgl3 := hr3.lt
          clear hq hr3 ht3 h0 h1
          rcases hor with ⟨hxn, k, tt, he⟩ | ⟨k, hxs, hlt, he⟩
          · subst he
            have HE : Hid (R = none) := Lib.hid (by have := HX.out; rw [hxn] at this; exact this.symm)
            clear hxn
            go_wp2
            all_goals
              go_ret2
              exact ⟨HB3.out.alloc HB3.out.size _, .inl ⟨HE.out, rfl⟩⟩
          · subst he
            have HX2 : Hid ((match toksN s.size f e m (some (k, s.data.toList.drop m2)) with | none => none | some k2 => some (ks ++ k2)) = R) := Lib.hid (by have := HX.out; rw [hxs] at this; exact this)
            have hat : k.at_ = m := HAT.out k _ hxs
            have h31b : (m : Int) ≤ 1000000 := by omega
            obtain ⟨v1, w4, hrun, ho4, hg4⟩ := append_t (w3.alloc (Obj.cells #[.int .i64 k.kind, .string ⟨k.text.toArray⟩, .int .i64 (k.at_ : Int)] 31)) w.heap.size ks u5 k (Nat.le_trans HB3.out.size (by simp)) (by omega) (pw_own_below HO3.out ((Below.refl _ _).alloc (Nat.le_refl _) _))
            have HRUN := Lib.hid hrun
            have HO4 := Lib.hid ho4
            have HNE3 := Lib.hid (own_ne51 HO3.out HR3.out)
            have HR4 : Hid (Rd w4 g s m2) := Lib.hid (((HR3.out.below ((Below.refl _ _).alloc (Nat.le_refl _) _)).below ((Below.refl _ _).alloc (Nat.le_refl _) _)).grown hg4 (fun h => HNE3.out h.symm))
            have HB4 : Hid (Below w.heap.size w w4) := Lib.hid (((HB3.out.alloc HB3.out.size _).alloc (HB3.out.alloc HB3.out.size _).size _).grown hg4 ((HB3.out.alloc HB3.out.size _).alloc (HB3.out.alloc HB3.out.size _).size _).size (own_base HO3.out))
            clear hxs hrun ho4 hg4
            by_cases k2 : k.kind = 2
            · have d2 : (k.kind == 2) = true := by rw [k2]; decide
              by_cases hme : (m : Int) = e
              · have HE : Hid (R = none) := Lib.hid (toksN_bad s f m e k _ ks R ⟨.inl k2, hme⟩ HX2.out)
                have d4 : ((k.at_ : Int) == e) = true := by rw [hat]; simpa using hme
                clear k2 hme hat
                go_wp2
                go_ret2
                exact ⟨HB3.out.alloc HB3.out.size _, .inl ⟨HE.out, rfl⟩⟩
              · have HNB : Hid (¬ ((k.kind = 2 ∨ k.kind = 3) ∧ ((m : Nat) : Int) = e)) := Lib.hid (fun h => hme h.2)
                have HEE : Hid ((m2 : Int) = if k.kind = 2 ∨ k.kind = 3 then (m2 : Int) else e) := Lib.hid (by rw [if_pos (.inl k2)])
                have d4 : ((k.at_ : Int) == e) = false := by rw [hat]; simpa using hme
                clear k2 hme hat
                go_wp2_with (at_builtin; go_loud (refine step_append rfl (.tmp 61) (.tmp 63) 23 23 rfl u5 (.slice (some ⟨(w3.alloc (Obj.cells #[.int .i64 k.kind, .string ⟨k.text.toArray⟩, .int .i64 (k.at_ : Int)] 31)).heap.size, 0, none⟩) 1 1) v1 w4 (by first | (go_simp; done) | (go_simp; rfl) | rfl) (by first | (go_simp; done) | (go_simp; rfl) | rfl) HRUN.out ?_))
                go_roundw
                case rel => exact ⟨m2, f, _, ks ++ [k], rfl, by omega, by omega, hm2, by simp; omega, HR4.out, HB4.out, by omega, HO4.out, toksN_on s f m m2 e _ k ks R hm2 HNB.out HEE.out HX2.out⟩
                case measure =>
                  rw [HR0.out.pos, HR4.out.pos]
                  omega
            · have d2 : (k.kind == 2) = false := by simpa using k2
              by_cases k3 : k.kind = 3
              · have d3 : (k.kind == 3) = true := by rw [k3]; decide
                by_cases hme : (m : Int) = e
                · have HE : Hid (R = none) := Lib.hid (toksN_bad s f m e k _ ks R ⟨.inr k3, hme⟩ HX2.out)
                  have d4 : ((k.at_ : Int) == e) = true := by rw [hat]; simpa using hme
                  clear k2 k3 hme hat
                  go_wp2
                  go_ret2
                  exact ⟨HB3.out.alloc HB3.out.size _, .inl ⟨HE.out, rfl⟩⟩
                · have HNB : Hid (¬ ((k.kind = 2 ∨ k.kind = 3) ∧ ((m : Nat) : Int) = e)) := Lib.hid (fun h => hme h.2)
                  have HEE : Hid ((m2 : Int) = if k.kind = 2 ∨ k.kind = 3 then (m2 : Int) else e) := Lib.hid (by rw [if_pos (.inr k3)])
                  have d4 : ((k.at_ : Int) == e) = false := by rw [hat]; simpa using hme
                  clear k2 k3 hme hat
                  go_wp2_with (at_builtin; go_loud (refine step_append rfl (.tmp 61) (.tmp 63) 23 23 rfl u5 (.slice (some ⟨(w3.alloc (Obj.cells #[.int .i64 k.kind, .string ⟨k.text.toArray⟩, .int .i64 (k.at_ : Int)] 31)).heap.size, 0, none⟩) 1 1) v1 w4 (by first | (go_simp; done) | (go_simp; rfl) | rfl) (by first | (go_simp; done) | (go_simp; rfl) | rfl) HRUN.out ?_))
                  go_roundw
                  case rel => exact ⟨m2, f, _, ks ++ [k], rfl, by omega, by omega, hm2, by simp; omega, HR4.out, HB4.out, by omega, HO4.out, toksN_on s f m m2 e _ k ks R hm2 HNB.out HEE.out HX2.out⟩
                  case measure =>
                    rw [HR0.out.pos, HR4.out.pos]
                    omega
              · have d3 : (k.kind == 3) = false := by simpa using k3
                have HNB : Hid (¬ ((k.kind = 2 ∨ k.kind = 3) ∧ ((m : Nat) : Int) = e)) := Lib.hid (fun h => by rcases h.1 with h | h; exact k2 h; exact k3 h)
                have HEE : Hid (e = if k.kind = 2 ∨ k.kind = 3 then (m2 : Int) else e) := Lib.hid (by rw [if_neg (fun h => by rcases h with h | h; exact k2 h; exact k3 h)])
                clear k2 k3 hat
                go_wp2_with (at_builtin; go_loud (refine step_append rfl (.tmp 61) (.tmp 63) 23 23 rfl u5 (.slice (some ⟨(w3.alloc (Obj.cells #[.int .i64 k.kind, .string ⟨k.text.toArray⟩, .int .i64 (k.at_ : Int)] 31)).heap.size, 0, none⟩) 1 1) v1 w4 (by first | (go_simp; done) | (go_simp; rfl) | rfl) (by first | (go_simp; done) | (go_simp; rfl) | rfl) HRUN.out ?_))
                go_roundw
                case rel => exact ⟨m2, f, _, ks ++ [k], rfl, by omega, by omega, hm2, by simp; omega, HR4.out, HB4.out, by omega, HO4.out, toksN_on s f m m2 e _ k ks R hm2 HNB.out HEE.out HX2.out⟩
                case measure =>
                  rw [HR0.out.pos, HR4.out.pos]
                  omega
        · have hme2 : m = s.size := by omega
          have HE : Hid (R = some ks) := Lib.hid (HS2.out (by rw [hs0, drop_end s m (by omega)]))
          have heq : ((m : Int) == (s.size : Int)) = true := by simp only [beq_iff_eq]; omega
          clear hme hme2 hs0
          go_wp2
          go_ret2
          exact ⟨HB2.out, .inr ⟨ks, _, HE.out, rfl, HO2.out⟩⟩
end Go.Proofs.YtjecdciabpjgcaaDoor.Lx
