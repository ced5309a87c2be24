/-
  Words that are written with any space between are read again as they were. No program in sight.
-/
import Derived.Test.YtjecdciabpjgcaaDoorLxY
namespace Go.Proofs.YtjecdciabpjgcaaDoor.Lx
set_option linter.unusedVariables false
set_option linter.unusedSimpArgs false
open Go.RowKit Go.Proofs.YtjecdciabpjgcaaDoor.Lb

/-- A word as it is written. -/
def wrd (k : Tok) : List UInt8 := if k.kind = 3 then quo k.text else k.text
structure Wd (k : Tok) : Prop where mk ::
  (out : (k.kind = 0 ∧ k.text = [40]) ∨ (k.kind = 1 ∧ k.text = [41]) ∨ (k.kind = 2 ∧ k.text ≠ [] ∧ ∀ c ∈ k.text, isSign c = true) ∨ k.kind = 3)
theorem esc_shrink (l b : List UInt8) (n : Nat) (h : esc l = some (b, n)) : b.length ≤ n := by
  cases l with
  | nil => cases h
  | cons c t =>
    simp only [esc] at h
    split at h
    · simp only [Option.some.injEq, Prod.mk.injEq] at h; obtain ⟨rfl, rfl⟩ := h; simp
    split at h
    · simp only [Option.some.injEq, Prod.mk.injEq] at h; obtain ⟨rfl, rfl⟩ := h; simp
    split at h
    · simp only [Option.some.injEq, Prod.mk.injEq] at h; obtain ⟨rfl, rfl⟩ := h; simp
    split at h
    · simp only [Option.some.injEq, Prod.mk.injEq] at h; obtain ⟨rfl, rfl⟩ := h; simp
    split at h
    · simp only [Option.some.injEq, Prod.mk.injEq] at h; obtain ⟨rfl, rfl⟩ := h; simp
    split at h
    · simp only [Option.some.injEq, Prod.mk.injEq] at h; obtain ⟨rfl, rfl⟩ := h; simp
    split at h
    · split at h
      · rename_i hds
        obtain ⟨_, hr⟩ := hds
        have hne : 1 ≤ (List.takeWhile (fun x => x != 125) (List.drop 2 (c :: t))).length := by
          cases hd : List.takeWhile (fun x => x != 125) (List.drop 2 (c :: t)) with
          | nil => rw [hd] at hr; exact absurd hr (by decide)
          | cons x y => simp
        split at h
        · cases h
        · split at h
          · simp only [Option.some.injEq, Prod.mk.injEq] at h
            obtain ⟨rfl, rfl⟩ := h
            have := utf8_len (by assumption)
            have h4 := fun n => utf8_len n
            refine Nat.le_trans (h4 _) ?_
            omega
          · cases h
      · cases h
    · split at h
      · cases h
      · split at h
        · simp only [Option.some.injEq, Prod.mk.injEq] at h; obtain ⟨rfl, rfl⟩ := h; simp
        · cases h
theorem str_shrink : ∀ (f : Nat) (l out x r : List UInt8), str f l out = some (x, r) → x.length + r.length + 1 ≤ out.length + l.length
  | 0, l, out, x, r, h => by cases h
  | f + 1, [], out, x, r, h => by cases h
  | f + 1, c :: t, out, x, r, h => by
    by_cases h1 : c = 34
    · subst h1
      rw [str_end] at h
      simp only [Option.some.injEq, Prod.mk.injEq] at h
      obtain ⟨rfl, rfl⟩ := h
      simp only [List.length_cons]
      omega
    · by_cases h2 : c < 32 ∨ c = 127
      · rw [str_bad f c t out h1 h2] at h; cases h
      · by_cases h3 : c = 92
        · subst h3
          rw [str_esc] at h
          split at h
          · cases h
          · rename_i b n he
            have i := str_shrink f _ _ _ _ h
            have e1 := esc_shrink _ _ _ he
            have e2 := (esc_pos _ _ _ he).2
            simp only [List.length_append, List.length_drop, List.length_cons] at i ⊢
            omega
        · rw [str_on f c t out h1 h2 h3] at h
          have i := str_shrink f _ _ _ _ h
          simp only [List.length_append, List.length_cons, List.length_nil] at i ⊢
          omega
theorem nxt_wd (p : Nat) (l : List UInt8) (k : Tok) (r : List UInt8) (h : nxt p l = some (k, r)) : Wd k ∧ k.text.length + r.length ≤ l.length := by
  cases l with
  | nil => cases h
  | cons c t =>
    by_cases h1 : c = 40
    · subst h1
      simp only [nxt] at h
      rw [if_pos True.intro] at h
      simp only [Option.some.injEq, Prod.mk.injEq] at h
      obtain ⟨rfl, rfl⟩ := h
      exact ⟨⟨.inl ⟨rfl, rfl⟩⟩, by simp; omega⟩
    by_cases h2 : c = 41
    · subst h2
      simp only [nxt] at h
      rw [if_neg (by decide), if_pos True.intro] at h
      simp only [Option.some.injEq, Prod.mk.injEq] at h
      obtain ⟨rfl, rfl⟩ := h
      exact ⟨⟨.inr (.inl ⟨rfl, rfl⟩)⟩, by simp; omega⟩
    by_cases h3 : c = 34
    · subst h3
      rw [nxt_str] at h
      split at h
      · cases h
      · rename_i x r' hs
        have i := str_shrink _ _ _ _ _ hs
        simp only [Option.some.injEq, Prod.mk.injEq] at h
        obtain ⟨rfl, rfl⟩ := h
        exact ⟨⟨.inr (.inr (.inr rfl))⟩, by simp at i ⊢; omega⟩
    · rw [nxt_at p c t h1 h2 h3] at h
      split at h
      · cases h
      · rename_i hne
        simp only [Option.some.injEq, Prod.mk.injEq] at h
        obtain ⟨rfl, rfl⟩ := h
        refine ⟨⟨.inr (.inr (.inl ⟨rfl, hne, fun x hx => ?_⟩))⟩, ?_⟩
        · exact mem_tw isSign _ _ hx
        · have := congrArg List.length (List.takeWhile_append_dropWhile (p := isSign) (l := c :: t))
          rw [List.length_append] at this
          show (List.takeWhile isSign (c :: t)).length + _ ≤ _
          omega
where
  mem_tw (p : UInt8 → Bool) : ∀ (l : List UInt8) (x : UInt8), x ∈ l.takeWhile p → p x = true
    | [], x, h => by cases h
    | c :: t, x, h => by
      rw [List.takeWhile_cons] at h
      split at h
      · rcases List.mem_cons.1 h with h | h
        · subst h; assumption
        · exact mem_tw p t x h
      · cases h
def txl (ks : List Tok) : Nat := (ks.map fun k => k.text.length).sum
theorem toks_wd (N : Nat) : ∀ (f : Nat) (l : List UInt8) (e : Int) (ks : List Tok), toks N f l e = some ks → (∀ k ∈ ks, Wd k) ∧ txl ks ≤ l.length
  | 0, l, e, ks, h => by cases h
  | f + 1, l, e, ks, h => by
    simp only [toks] at h
    cases hs : spc (l.length + 1) l with
    | none => rw [hs] at h; cases h
    | some l1 =>
      have hl := spc_len _ _ _ hs
      rw [hs] at h
      cases l1 with
      | nil =>
        simp only [Option.some.injEq] at h
        subst h
        exact ⟨fun k hk => absurd hk (List.not_mem_nil), by simp [txl]⟩
      | cons c t =>
        simp only at h
        cases hn : nxt (N - (c :: t).length) (c :: t) with
        | none => rw [hn] at h; cases h
        | some kr =>
          obtain ⟨k, r⟩ := kr
          have hw := nxt_wd _ _ _ _ hn
          rw [hn] at h
          simp only at h
          split at h
          · cases h
          · generalize hE : (if k.kind = 2 ∨ k.kind = 3 then ((N - r.length : Nat) : Int) else e) = E at h
            cases ht : toks N f r E with
            | none => rw [ht] at h; cases h
            | some ks' =>
              rw [ht] at h
              simp only [Option.some.injEq] at h
              subst h
              have ih := toks_wd N f r E ks' ht
              refine ⟨fun x hx => ?_, ?_⟩
              · rcases List.mem_cons.1 hx with hx | hx
                · subst hx; exact hw.1
                · exact ih.1 x hx
              · have := ih.2
                have := hw.2
                simp only [txl, List.map_cons, List.sum_cons] at *
                omega
/-- What stands between. -/
def btwL : List (List UInt8) := [[32], [10], [9, 13], [32, 59, 59, 32, 120, 32, 40, 10], [32, 40, 59, 32, 40, 59, 32, 59, 41, 32, 34, 32, 59, 41], [32, 40, 59, 59, 41, 32]]
def btw (j : Nat) : List UInt8 := btwL.getD j []
def endS : List UInt8 := [32, 59, 59, 32, 101, 110, 100]
structure Hd (l : List UInt8) : Prop where mk ::
  (out : ∃ c t, l = c :: t ∧ isWs c = false ∧ Lib.hasPrefix l [59, 59] = false ∧ Lib.hasPrefix l [40, 59] = false)
theorem Hd.spc {l : List UInt8} (h : Hd l) (f : Nat) : spc (f + 1) l = some l := by
  obtain ⟨c, t, rfl, h1, h2, h3⟩ := h.out
  exact spc_end f c t h1 h2 h3
theorem spc_btw (j : Nat) (hj : j < 6) (l : List UInt8) (h : Hd l) : spc ((btw j ++ l).length + 1) (btw j ++ l) = some l := by
  obtain ⟨n, hn⟩ : ∃ n, l.length = n + 1 := by
    obtain ⟨c, t, rfl, _⟩ := h.out
    exact ⟨t.length, rfl⟩
  have hj : j = 0 ∨ j = 1 ∨ j = 2 ∨ j = 3 ∨ j = 4 ∨ j = 5 := by omega
  rcases hj with rfl | rfl | rfl | rfl | rfl | rfl
  · show spc (l.length + 1 + 1) (32 :: l) = _
    exact (spc_ws _ _ _ rfl).trans (h.spc _)
  · show spc (l.length + 1 + 1) (10 :: l) = _
    exact (spc_ws _ _ _ rfl).trans (h.spc _)
  · show spc (l.length + 1 + 1 + 1) (9 :: 13 :: l) = _
    exact (spc_ws _ _ _ rfl).trans ((spc_ws _ _ _ rfl).trans (h.spc _))
  · show spc (l.length + 8 + 1) (32 :: 59 :: 59 :: 32 :: 120 :: 32 :: 40 :: 10 :: l) = _
    refine (spc_ws _ _ _ rfl).trans ((spc_line _ _ _ rfl rfl).trans ?_)
    show spc (l.length + 6 + 1) (10 :: l) = _
    exact (spc_ws _ _ _ rfl).trans (h.spc _)
  · show spc (l.length + 14 + 1) (32 :: 40 :: 59 :: 32 :: 40 :: 59 :: 32 :: 59 :: 41 :: 32 :: 34 :: 32 :: 59 :: 41 :: l) = _
    refine (spc_ws _ _ _ rfl).trans ((spc_com _ _ _ rfl rfl rfl).trans ?_)
    have : cm ((40 :: 59 :: 32 :: 40 :: 59 :: 32 :: 59 :: 41 :: 32 :: 34 :: 32 :: 59 :: 41 :: l).length + 1) 0 (40 :: 59 :: 32 :: 40 :: 59 :: 32 :: 59 :: 41 :: 32 :: 34 :: 32 :: 59 :: 41 :: l) = some l := by
      show cm (l.length + 5 + 9) 0 _ = _
      generalize l.length + 5 = F
      rw [cm_open _ _ _ rfl]
      simp only [List.drop_succ_cons, List.drop_zero]
      rw [cm_on _ _ _ (by simp) rfl rfl]
      simp only [List.drop_succ_cons, List.drop_zero]
      rw [cm_open _ _ _ rfl]
      simp only [List.drop_succ_cons, List.drop_zero]
      rw [cm_on _ _ _ (by simp) rfl rfl]
      simp only [List.drop_succ_cons, List.drop_zero]
      rw [cm_shut _ _ _ rfl rfl, if_neg (by decide)]
      simp only [List.drop_succ_cons, List.drop_zero]
      rw [cm_on _ _ _ (by simp) rfl rfl]
      simp only [List.drop_succ_cons, List.drop_zero]
      rw [cm_on _ _ _ (by simp) rfl rfl]
      simp only [List.drop_succ_cons, List.drop_zero]
      rw [cm_on _ _ _ (by simp) rfl rfl]
      simp only [List.drop_succ_cons, List.drop_zero]
      rw [cm_shut _ _ _ rfl rfl, if_pos rfl]
      rfl
    rw [this]
    exact h.spc _
  · show spc (l.length + 6 + 1) (32 :: 40 :: 59 :: 59 :: 41 :: 32 :: l) = _
    refine (spc_ws _ _ _ rfl).trans ((spc_com _ _ _ rfl rfl rfl).trans ?_)
    have : cm ((40 :: 59 :: 59 :: 41 :: 32 :: l).length + 1) 0 (40 :: 59 :: 59 :: 41 :: 32 :: l) = some (32 :: l) := by
      show cm (l.length + 4 + 2) 0 _ = _
      generalize l.length + 4 = F
      rw [cm_open _ _ _ rfl]
      simp only [List.drop_succ_cons, List.drop_zero]
      rw [cm_shut _ _ _ rfl rfl, if_pos rfl]
      rfl
    rw [this]
    show spc (l.length + 5) (32 :: l) = _
    exact (spc_ws (l.length + 4) _ _ rfl).trans (h.spc _)
theorem str_quo2 (rest : List UInt8) : ∀ (l : List UInt8) (f : Nat) (out : List UInt8), (l.flatMap quo1 ++ 34 :: rest).length < f → str f (l.flatMap quo1 ++ 34 :: rest) out = some (out ++ l, rest)
  | l, 0, out, h => absurd h (Nat.not_lt_zero _)
  | [], f + 1, out, h => by
    rw [List.append_nil]
    exact str_end f rest out
  | c :: l, f + 1, out, h => by
    have hx := UInt8.toNat_lt c
    rw [List.flatMap_cons, List.append_assoc] at h ⊢
    by_cases hq : c < 32 ∨ 126 < c ∨ c = 34 ∨ c = 92
    · have e : quo1 c = [92, hexc (c.toNat / 16), hexc (c.toNat % 16)] := by unfold quo1; rw [if_pos hq]
      rw [e] at h ⊢
      simp only [List.cons_append, List.nil_append] at h ⊢
      rw [str_esc, esc_hexc _ _ (by omega) (by omega)]
      simp only
      have hc : (16 * (c.toNat / 16) + c.toNat % 16).toUInt8 = c := by
        rw [show 16 * (c.toNat / 16) + c.toNat % 16 = c.toNat from by omega]
        simp
      rw [hc]
      have ih := str_quo2 rest l f (out ++ [c]) (by simp only [List.length_cons] at h; omega)
      rw [show (hexc (c.toNat / 16) :: hexc (c.toNat % 16) :: (l.flatMap quo1 ++ 34 :: rest)).drop 2 = l.flatMap quo1 ++ 34 :: rest from rfl, ih]
      simp
    · have e : quo1 c = [c] := by unfold quo1; rw [if_neg hq]
      rw [e] at h ⊢
      simp only [List.cons_append, List.nil_append] at h ⊢
      have h1 : c ≠ 34 := fun h => hq (.inr (.inr (.inl h)))
      have h2 : c ≠ 92 := fun h => hq (.inr (.inr (.inr h)))
      have h3 : ¬ (c < 32 ∨ c = 127) := by
        rintro (h | h)
        · exact hq (.inl h)
        · exact hq (.inr (.inl (by rw [h]; decide)))
      rw [str_on f c _ out h1 h3 h2, str_quo2 rest l f (out ++ [c]) (by simp only [List.length_cons] at h; omega)]
      simp
def Sp (l : List UInt8) : Prop := ∃ c t, l = c :: t ∧ isWs c = true
theorem ws_not (c : UInt8) (h : isWs c = true) : isSign c = false ∧ c ≠ 59 := by
  have : ∀ n : Fin 256, isWs n.val.toUInt8 = true → isSign n.val.toUInt8 = false ∧ n.val.toUInt8 ≠ 59 := by decide +kernel
  have := this ⟨c.toNat, c.toNat_lt⟩
  simp at this
  exact this h
theorem sign_not (c : UInt8) (h : isSign c = true) : isWs c = false ∧ c ≠ 59 ∧ c ≠ 40 ∧ c ≠ 41 ∧ c ≠ 34 ∧ c.toNat < 128 := by
  have : ∀ n : Fin 256, isSign n.val.toUInt8 = true → isWs n.val.toUInt8 = false ∧ n.val.toUInt8 ≠ 59 ∧ n.val.toUInt8 ≠ 40 ∧ n.val.toUInt8 ≠ 41 ∧ n.val.toUInt8 ≠ 34 ∧ n.val.toUInt8.toNat < 128 := by decide +kernel
  have := this ⟨c.toNat, c.toNat_lt⟩
  simp at this
  simpa using this h
theorem pre2_ne (a b c : UInt8) (t : List UInt8) (h : c ≠ a) : Lib.hasPrefix (c :: t) [a, b] = false := by
  simp [Lib.hasPrefix, List.isPrefixOf]
  exact fun h' => absurd h'.symm h
theorem tw_all (p : UInt8 → Bool) (x : UInt8) (t : List UInt8) (hx : p x = false) : ∀ l : List UInt8, (∀ c ∈ l, p c = true) → (l ++ x :: t).takeWhile p = l ∧ (l ++ x :: t).dropWhile p = x :: t
  | [], _ => by simp [hx]
  | c :: l, h => by
    have hc := h c (by simp)
    have ih := tw_all p x t hx l (fun y hy => h y (by simp [hy]))
    simp [hc, ih.1, ih.2]
theorem wrd_hd (k : Tok) (hk : Wd k) (rest : List UInt8) (hr : Sp rest) : Hd (wrd k ++ rest) := by
  obtain ⟨x, t, rfl, hx⟩ := hr
  obtain ⟨_, h59⟩ := ws_not x hx
  rcases hk.out with ⟨h1, h2⟩ | ⟨h1, h2⟩ | ⟨h1, h2, h3⟩ | h1
  · refine ⟨40, x :: t, by simp [wrd, h1, h2], by decide, by simp [wrd, h1, h2, Lib.hasPrefix, List.isPrefixOf], ?_⟩
    simp [wrd, h1, h2, Lib.hasPrefix, List.isPrefixOf]
    exact fun h => h59 h.symm
  · exact ⟨41, x :: t, by simp [wrd, h1, h2], by decide, by simp [wrd, h1, h2, Lib.hasPrefix, List.isPrefixOf], by simp [wrd, h1, h2, Lib.hasPrefix, List.isPrefixOf]⟩
  · cases ht : k.text with
    | nil => exact absurd ht h2
    | cons c u =>
      rw [ht] at h3
      obtain ⟨s1, s2, s3, _⟩ := sign_not c (h3 c (by simp))
      have e : wrd k ++ x :: t = c :: (u ++ x :: t) := by simp [wrd, h1, ht]
      rw [e]
      exact ⟨c, _, rfl, s1, pre2_ne _ _ _ _ s2, pre2_ne _ _ _ _ s3⟩
  · have e : wrd k ++ x :: t = 34 :: (k.text.flatMap quo1 ++ [34] ++ x :: t) := by simp [wrd, h1, quo]
    rw [e]
    exact ⟨34, _, rfl, by decide, pre2_ne _ _ _ _ (by decide), pre2_ne _ _ _ _ (by decide)⟩
theorem nxt_wrd (p : Nat) (k : Tok) (hk : Wd k) (rest : List UInt8) (hr : Sp rest) : nxt p (wrd k ++ rest) = some (⟨k.kind, k.text, p⟩, rest) := by
  obtain ⟨x, t, rfl, hx⟩ := hr
  obtain ⟨hsx, _⟩ := ws_not x hx
  rcases hk.out with ⟨h1, h2⟩ | ⟨h1, h2⟩ | ⟨h1, h2, h3⟩ | h1
  · have e : wrd k ++ x :: t = 40 :: x :: t := by simp [wrd, h1, h2]
    rw [e, h1, h2]
    simp only [nxt]
    rw [if_pos True.intro]
  · have e : wrd k ++ x :: t = 41 :: x :: t := by simp [wrd, h1, h2]
    rw [e, h1, h2]
    simp only [nxt]
    rw [if_neg (by decide), if_pos True.intro]
  · obtain ⟨e1, e2⟩ := tw_all isSign x t hsx k.text h3
    have e : wrd k ++ x :: t = k.text ++ x :: t := by simp [wrd, h1]
    rw [e]
    cases ht : k.text with
    | nil => exact absurd ht h2
    | cons c u =>
      rw [ht] at h3 e1 e2
      obtain ⟨_, _, s3, s4, s5, _⟩ := sign_not c (h3 c (by simp))
      rw [List.cons_append] at e1 e2 ⊢
      rw [nxt_at p c _ s3 s4 s5, e1, e2, if_neg (by simp), h1]
  · have e : wrd k ++ x :: t = 34 :: (k.text.flatMap quo1 ++ 34 :: x :: t) := by simp [wrd, h1, quo]
    rw [e, nxt_str, str_quo2 (x :: t) k.text _ [] (by omega), h1]
    rfl
/-- The words, each behind what is between. -/
def jn (J : Nat → Nat) : Nat → List Tok → List UInt8
  | _, [] => []
  | i, k :: ks => btw (J i) ++ wrd k ++ jn J (i + 1) ks
theorem btw_sp (j : Nat) (hj : j < 6) (l : List UInt8) : Sp (btw j ++ l) := by
  have hj : j = 0 ∨ j = 1 ∨ j = 2 ∨ j = 3 ∨ j = 4 ∨ j = 5 := by omega
  rcases hj with rfl | rfl | rfl | rfl | rfl | rfl <;> exact ⟨_, _, rfl, rfl⟩
theorem jn_sp (J : Nat → Nat) (hJ : ∀ i, J i < 6) (i : Nat) (ks : List Tok) : Sp (jn J i ks ++ endS) := by
  cases ks with
  | nil => exact ⟨_, _, rfl, rfl⟩
  | cons k ks =>
    show Sp (btw (J i) ++ wrd k ++ jn J (i + 1) ks ++ endS)
    rw [List.append_assoc, List.append_assoc]
    exact btw_sp _ (hJ i) _
def kt (k : Tok) : Int × List UInt8 := (k.kind, k.text)
theorem btw_pos (j : Nat) (hj : j < 6) : 1 ≤ (btw j).length ∧ (btw j).length ≤ 14 := by
  have hj : j = 0 ∨ j = 1 ∨ j = 2 ∨ j = 3 ∨ j = 4 ∨ j = 5 := by omega
  rcases hj with rfl | rfl | rfl | rfl | rfl | rfl <;> exact ⟨by decide, by decide⟩
theorem toks_jn (N : Nat) (J : Nat → Nat) (hJ : ∀ i, J i < 6) : ∀ (ks : List Tok) (i f : Nat) (e : Int), (∀ k ∈ ks, Wd k) → ks.length < f → (jn J i ks ++ endS).length ≤ N → e ≤ ((N - (jn J i ks ++ endS).length : Nat) : Int) →
    ∃ ks', toks N f (jn J i ks ++ endS) e = some ks' ∧ ks'.map kt = ks.map kt
  | ks, i, 0, e, _, hf, _, _ => absurd hf (Nat.not_lt_zero _)
  | [], i, f + 1, e, _, _, _, _ => ⟨[], toks_end N f _ e rfl, rfl⟩
  | k :: ks, i, f + 1, e, hw, hf, hN, he => by
    have hk := hw k (by simp)
    have hr := jn_sp J hJ (i + 1) ks
    have e1 : jn J i (k :: ks) ++ endS = btw (J i) ++ (wrd k ++ (jn J (i + 1) ks ++ endS)) := by
      show btw (J i) ++ wrd k ++ jn J (i + 1) ks ++ endS = _
      simp only [List.append_assoc]
    have hhd := wrd_hd k hk _ hr
    have hsp := spc_btw (J i) (hJ i) _ hhd
    obtain ⟨c, t, hct, _⟩ := hhd.out
    rw [e1] at hN he ⊢
    have hb := (btw_pos _ (hJ i)).1
    have hlen : (btw (J i) ++ (wrd k ++ (jn J (i + 1) ks ++ endS))).length = (btw (J i)).length + (wrd k ++ (jn J (i + 1) ks ++ endS)).length := List.length_append
    have hlen2 : (wrd k ++ (jn J (i + 1) ks ++ endS)).length = (wrd k).length + (jn J (i + 1) ks ++ endS).length := List.length_append
    have hn := nxt_wrd (N - (wrd k ++ (jn J (i + 1) ks ++ endS)).length) k hk _ hr
    obtain ⟨ks', h1, h2⟩ := toks_jn N J hJ ks (i + 1) f (if k.kind = 2 ∨ k.kind = 3 then ((N - (jn J (i + 1) ks ++ endS).length : Nat) : Int) else e) (fun x hx => hw x (by simp [hx])) (by simp at hf; omega) (by omega) (by split <;> omega)
    refine ⟨⟨k.kind, k.text, N - (wrd k ++ (jn J (i + 1) ks ++ endS)).length⟩ :: ks', ?_, by rw [List.map_cons, h2]; rfl⟩
    simp only [toks]
    rw [hsp]
    have hneq : ¬ (((N - (wrd k ++ (jn J (i + 1) ks ++ endS)).length : Nat) : Int) = e) := by omega
    rw [hct] at hn hneq ⊢
    simp only
    rw [hn]
    simp only
    rw [if_neg (fun h => hneq h.2), h1]
theorem wrd_len (k : Tok) : (wrd k).length ≤ 3 * k.text.length + 2 := by
  unfold wrd
  split
  · have h : (k.text.flatMap quo1).length ≤ 3 * k.text.length := by
      generalize k.text = l
      induction l with
      | nil => simp
      | cons c l ih =>
        have : (quo1 c).length ≤ 3 := by unfold quo1; split <;> simp
        rw [List.flatMap_cons, List.length_append, List.length_cons]
        omega
    unfold quo
    simp only [List.length_append, List.length_singleton]
    omega
  · omega
theorem jn_len (J : Nat → Nat) (hJ : ∀ i, J i < 6) : ∀ (ks : List Tok) (i : Nat), (jn J i ks).length ≤ 16 * ks.length + 3 * txl ks
  | [], i => by simp [jn]
  | k :: ks, i => by
    have ih := jn_len J hJ ks (i + 1)
    have h1 := (btw_pos _ (hJ i)).2
    have h2 := wrd_len k
    show (btw (J i) ++ wrd k ++ jn J (i + 1) ks).length ≤ _
    simp only [List.length_append, List.length_cons, txl, List.map_cons, List.sum_cons] at *
    omega
theorem btw_ascii (j : Nat) (hj : j < 6) : ∀ x ∈ btw j, x.toNat < 128 := by
  have : ∀ j : Fin 6, (btw j.val).all (fun x => decide (x.toNat < 128)) = true := by decide +kernel
  intro x hx
  simpa using List.all_eq_true.1 (this ⟨j, hj⟩) x hx
theorem wrd_ascii (k : Tok) (hk : Wd k) : ∀ x ∈ wrd k, x.toNat < 128 := by
  intro x hx
  unfold wrd at hx
  rcases hk.out with ⟨h1, h2⟩ | ⟨h1, h2⟩ | ⟨h1, h2, h3⟩ | h1
  · rw [if_neg (by omega), h2] at hx; simp at hx; rw [hx]; decide
  · rw [if_neg (by omega), h2] at hx; simp at hx; rw [hx]; decide
  · rw [if_neg (by omega)] at hx; exact (sign_not x (h3 x hx)).2.2.2.2.2
  · rw [if_pos h1] at hx; exact quo_ascii _ x hx
theorem jn_ascii (J : Nat → Nat) (hJ : ∀ i, J i < 6) : ∀ (ks : List Tok) (i : Nat), (∀ k ∈ ks, Wd k) → ∀ x ∈ jn J i ks, x.toNat < 128
  | [], i, _, x, hx => by cases hx
  | k :: ks, i, hw, x, hx => by
    have hx : x ∈ btw (J i) ++ wrd k ++ jn J (i + 1) ks := hx
    rcases List.mem_append.1 hx with hx | hx
    · rcases List.mem_append.1 hx with hx | hx
      · exact btw_ascii _ (hJ i) x hx
      · exact wrd_ascii k (hw k (by simp)) x hx
    · exact jn_ascii J hJ ks (i + 1) (fun y hy => hw y (by simp [hy])) x hx
theorem tokF_wd (s : ByteArray) (ks : List Tok) (h : tokF s = some ks) : (∀ k ∈ ks, Wd k) ∧ txl ks ≤ s.size ∧ ks.length ≤ s.size := by
  have hl := tokF_len s ks h
  unfold tokF at h
  split at h
  · have := toks_wd _ _ _ _ _ h
    rw [len_data] at this
    exact ⟨this.1, this.2, hl⟩
  · cases h
theorem tokF_jn (J : Nat → Nat) (hJ : ∀ i, J i < 6) (ks : List Tok) (hw : ∀ k ∈ ks, Wd k) :
    ∃ ks', tokF ⟨(jn J 0 ks ++ endS).toArray⟩ = some ks' ∧ ks'.map kt = ks.map kt := by
  have hsz : (⟨(jn J 0 ks ++ endS).toArray⟩ : ByteArray).size = (jn J 0 ks ++ endS).length := by
    show (jn J 0 ks ++ endS).toArray.size = _
    rw [List.size_toArray]
  have hval := valid_ascii ⟨(jn J 0 ks ++ endS).toArray⟩ (fun j hj => by
    have hm : (⟨(jn J 0 ks ++ endS).toArray⟩ : ByteArray)[j] ∈ jn J 0 ks ++ endS := by
      have : (⟨(jn J 0 ks ++ endS).toArray⟩ : ByteArray)[j] = (jn J 0 ks ++ endS)[j]'(by rw [hsz] at hj; exact hj) := rfl
      rw [this]
      exact List.getElem_mem _
    rcases List.mem_append.1 hm with h | h
    · exact jn_ascii J hJ ks 0 hw _ h
    · have : endS.all (fun x => decide (x.toNat < 128)) = true := by decide +kernel
      simpa using List.all_eq_true.1 this _ h) (⟨(jn J 0 ks ++ endS).toArray⟩ : ByteArray).size 0
  unfold tokF
  rw [if_pos hval, hsz]
  show ∃ ks', toks (jn J 0 ks ++ endS).length ((jn J 0 ks ++ endS).length + 1) (jn J 0 ks ++ endS) (-1) = some ks' ∧ _
  have hl : ks.length ≤ (jn J 0 ks).length := by
    have : ∀ (l : List Tok) (i : Nat), l.length ≤ (jn J i l).length := by
      intro l
      induction l with
      | nil => intro i; simp
      | cons k l ih =>
        intro i
        have := ih (i + 1)
        have := (btw_pos _ (hJ i)).1
        show _ ≤ (btw (J i) ++ wrd k ++ jn J (i + 1) l).length
        simp only [List.length_append, List.length_cons]
        omega
    exact this ks 0
  exact toks_jn _ J hJ ks 0 _ (-1) hw (by rw [List.length_append]; omega) (Nat.le_refl _) (by omega)
end Go.Proofs.YtjecdciabpjgcaaDoor.Lx
