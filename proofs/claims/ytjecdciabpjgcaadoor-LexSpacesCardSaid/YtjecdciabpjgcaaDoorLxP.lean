/-
  Brackets alone: their words and their trees. No program in sight.
-/
import Derived.Test.YtjecdciabpjgcaaDoorLxU
namespace Go.Proofs.YtjecdciabpjgcaaDoor.Lx
set_option linter.unusedVariables false
set_option linter.unusedSimpArgs false
open Go.RowKit Go.Proofs.YtjecdciabpjgcaaDoor.Lb

theorem valid_ascii (s : ByteArray) (h : ∀ (j : Nat) (hj : j < s.size), (s[j]).toNat < 128) : ∀ (b pos : Nat), validG s b pos = true := by
  intro b
  induction b with
  | zero => intro pos; rfl
  | succ b ih =>
    intro pos
    by_cases hp : pos < s.size
    · have hd := decode_ascii s pos hp (h pos hp)
      have hb : badAt s pos = false := by
        unfold badAt
        rw [hd]
        have := h pos hp
        have e : (((s[pos]).toNat : Int) == 65533) = false := by simp only [beq_eq_false_iff_ne, ne_eq]; omega
        simp only [e, Bool.false_and]
      unfold validG
      rw [if_pos hp, hb, if_neg (by simp)]
      exact ih _
    · exact valid_end s _ _ hp
/-- a open ones, then b closed ones. -/
def brs (a b : Nat) : List UInt8 := List.replicate a 40 ++ List.replicate b 41
theorem brs_len (a b : Nat) : (brs a b).length = a + b := by unfold brs; simp
theorem brs_open (a b : Nat) : brs (a + 1) b = 40 :: brs a b := rfl
theorem brs_close (b : Nat) : brs 0 (b + 1) = 41 :: brs 0 b := rfl
theorem spc_open (f a b : Nat) : spc (f + 1) (40 :: brs a b) = some (40 :: brs a b) := by
  refine spc_end f 40 _ (by decide) rfl ?_
  cases a with
  | zero => cases b with
    | zero => rfl
    | succ b => rfl
  | succ a => rfl
theorem spc_close (f b : Nat) : spc (f + 1) (41 :: brs 0 b) = some (41 :: brs 0 b) := spc_end f 41 _ (by decide) rfl rfl
theorem toks_close (N : Nat) (e : Int) : ∀ (b f : Nat), b < f → ∃ ks, toks N f (brs 0 b) e = some ks ∧ ks.map Tok.kind = List.replicate b 1
  | b, 0, h => absurd h (Nat.not_lt_zero _)
  | 0, f + 1, h => ⟨[], rfl, rfl⟩
  | b + 1, f + 1, h => by
    obtain ⟨ks, h1, h2⟩ := toks_close N e b f (by omega)
    refine ⟨⟨1, [41], N - (41 :: brs 0 b).length⟩ :: ks, ?_, by rw [List.map_cons, h2]; rfl⟩
    simp only [toks]
    rw [brs_close, spc_close]
    simp only [nxt]
    rw [if_neg (by decide), if_pos trivial]
    simp only
    rw [if_neg (fun h => absurd h.1 (by decide)), if_neg (by decide), h1]
theorem toks_open (N : Nat) (e : Int) : ∀ (a b f : Nat), a + b < f → ∃ ks, toks N f (brs a b) e = some ks ∧ ks.map Tok.kind = List.replicate a 0 ++ List.replicate b 1
  | a, b, 0, h => absurd h (Nat.not_lt_zero _)
  | 0, b, f + 1, h => by
    obtain ⟨ks, h1, h2⟩ := toks_close N e b (f + 1) (by omega)
    exact ⟨ks, h1, by rw [h2]; rfl⟩
  | a + 1, b, f + 1, h => by
    obtain ⟨ks, h1, h2⟩ := toks_open N e a b f (by omega)
    refine ⟨⟨0, [40], N - (40 :: brs a b).length⟩ :: ks, ?_, by rw [List.map_cons, h2]; rfl⟩
    simp only [toks]
    rw [brs_open, spc_open]
    simp only [nxt]
    rw [if_pos trivial]
    simp only
    rw [if_neg (fun h => absurd h.1 (by decide)), if_neg (by decide), h1]
theorem mach_close : ∀ (ks : List Tok) (b m : Nat) (f : F), ks.map Tok.kind = List.replicate b 1 → b ≤ m →
    if b = m then ∃ g, mach ks (f :: List.replicate m .nil) = (0, g) ∧ g.len = (if b = 0 then f.len else 1) else mach ks (f :: List.replicate m .nil) = (71, .nil)
  | [], b, m, f, hk, hb => by
    have h0 : b = 0 := by
      cases b with
      | zero => rfl
      | succ b => cases hk
    subst h0
    cases m with
    | zero => rw [if_pos rfl]; exact ⟨f, rfl, by rw [if_pos rfl]⟩
    | succ m => rw [if_neg (by omega)]; rfl
  | k :: ks, 0, m, f, hk, hb => by cases hk
  | k :: ks, b + 1, m, f, hk, hb => by
    rw [List.map_cons, List.replicate_succ] at hk
    injection hk with hk1 hk2
    cases m with
    | zero => omega
    | succ m =>
      have ih := mach_close ks b m (.cons 4 [] f .nil) hk2 (by omega)
      have e : mach (k :: ks) (f :: List.replicate (m + 1) .nil) = mach ks (.cons 4 [] f .nil :: List.replicate m .nil) := by
        rw [List.replicate_succ]
        simp only [mach]
        rw [hk1, if_neg (by decide), if_pos rfl]
        rfl
      rw [e]
      by_cases hbm : b = m
      · rw [if_pos hbm] at ih
        rw [if_pos (by omega)]
        obtain ⟨g, h1, h2⟩ := ih
        refine ⟨g, h1, ?_⟩
        rw [if_neg (by omega), h2]
        split <;> rfl
      · rw [if_neg hbm] at ih
        rw [if_neg (by omega)]
        exact ih
theorem mach_open : ∀ (ks : List Tok) (a b m : Nat), ks.map Tok.kind = List.replicate a 0 ++ List.replicate b 1 → m ≤ 1000 → ∀ R, mach ks (List.replicate (m + 1) .nil) = R →
    (1000 < m + a → R = (72, .nil)) ∧ (m + a ≤ 1000 → ∃ k2, k2.map Tok.kind = List.replicate b 1 ∧ mach k2 (List.replicate (m + a + 1) .nil) = R)
  | ks, 0, b, m, hk, hm, R, hR => ⟨fun h => by omega, fun _ => ⟨ks, by simpa using hk, hR⟩⟩
  | [], a + 1, b, m, hk, hm, R, hR => by
    rw [List.replicate_succ] at hk
    cases hk
  | k :: ks, a + 1, b, m, hk, hm, R, hR => by
    rw [List.map_cons, List.replicate_succ, List.cons_append] at hk
    injection hk with hk1 hk2
    simp only [mach, List.length_replicate] at hR
    rw [if_pos hk1] at hR
    by_cases he : m + 1 = 1001
    · rw [if_pos he] at hR
      exact ⟨fun _ => hR.symm, fun h => by omega⟩
    · rw [if_neg he] at hR
      have ih := mach_open ks a b (m + 1) hk2 (by omega) R hR
      refine ⟨fun h => ih.1 (by omega), fun h => ?_⟩
      have := ih.2 (by omega)
      rw [show m + (a + 1) + 1 = m + 1 + a + 1 from by omega]
      exact this
/-- What brackets alone come to. -/
theorem trees_brs (a b : Nat) (hb : b ≤ a) : (1000 < a → treesF ⟨(brs a b).toArray⟩ = (72, .nil)) ∧ (a ≤ 1000 → b < a → treesF ⟨(brs a b).toArray⟩ = (71, .nil)) ∧
    (a ≤ 1000 → b = a → ∃ g, treesF ⟨(brs a b).toArray⟩ = (0, g) ∧ g.len = (if a = 0 then 0 else 1)) := by
  have hsz : (⟨(brs a b).toArray⟩ : ByteArray).size = a + b := by
    show (brs a b).toArray.size = _
    rw [List.size_toArray, brs_len]
  have hval := valid_ascii ⟨(brs a b).toArray⟩ (fun j hj => by
    have hm : (⟨(brs a b).toArray⟩ : ByteArray)[j] ∈ brs a b := by
      have : (⟨(brs a b).toArray⟩ : ByteArray)[j] = (brs a b)[j]'(by rw [brs_len]; rw [hsz] at hj; exact hj) := rfl
      rw [this]
      exact List.getElem_mem _
    have hx : ∀ x ∈ brs a b, x.toNat < 128 := by
      intro x hx
      unfold brs at hx
      rcases List.mem_append.1 hx with h | h
      · rw [List.eq_of_mem_replicate h]; decide
      · rw [List.eq_of_mem_replicate h]; decide
    exact hx _ hm) (⟨(brs a b).toArray⟩ : ByteArray).size 0
  obtain ⟨ks, h1, h2⟩ := toks_open (⟨(brs a b).toArray⟩ : ByteArray).size (-1) a b ((⟨(brs a b).toArray⟩ : ByteArray).size + 1) (by rw [hsz]; omega)
  have ht : tokF ⟨(brs a b).toArray⟩ = some ks := by
    unfold tokF
    rw [if_pos hval]
    exact h1
  have hT : treesF ⟨(brs a b).toArray⟩ = mach ks (List.replicate (0 + 1) .nil) := by
    unfold treesF
    rw [ht]
    rfl
  have ho := mach_open ks a b 0 h2 (by omega) _ hT.symm
  refine ⟨fun h => ho.1 (by omega), fun h hba => ?_, fun h hba => ?_⟩
  · obtain ⟨k2, h3, h4⟩ := ho.2 (by omega)
    rw [← h4, List.replicate_succ]
    have := mach_close k2 b (0 + a) .nil h3 (by omega)
    rw [if_neg (by omega)] at this
    exact this
  · obtain ⟨k2, h3, h4⟩ := ho.2 (by omega)
    have := mach_close k2 b (0 + a) .nil h3 (by omega)
    rw [if_pos (by omega)] at this
    obtain ⟨g, h5, h6⟩ := this
    refine ⟨g, ?_, ?_⟩
    · rw [← h4, List.replicate_succ]; exact h5
    · rw [h6, hba]; rfl
end Go.Proofs.YtjecdciabpjgcaaDoor.Lx
