/-
  What is quoted is read as it was. No program in sight.
-/
import Derived.Test.YtjecdciabpjgcaaDoorLxP
namespace Go.Proofs.YtjecdciabpjgcaaDoor.Lx
set_option linter.unusedVariables false
set_option linter.unusedSimpArgs false
open Go.RowKit Go.Proofs.YtjecdciabpjgcaaDoor.Lb

theorem hexc_all : ((List.range 16).all fun d => ishex (hexc d) && dval (hexc d) == d && decide ((hexc d).toNat < 128) && !([116, 110, 114, 34, 39, 92, 117] : List UInt8).contains (hexc d)) = true := by kernel_rfl
theorem hexc_at (d : Nat) (h : d < 16) : ishex (hexc d) = true ∧ dval (hexc d) = d ∧ (hexc d).toNat < 128 ∧ hexc d ≠ 116 ∧ hexc d ≠ 110 ∧ hexc d ≠ 114 ∧ hexc d ≠ 34 ∧ hexc d ≠ 39 ∧ hexc d ≠ 92 ∧ hexc d ≠ 117 := by
  have := List.all_eq_true.1 hexc_all d (List.mem_range.2 h)
  simp only [Bool.and_eq_true, beq_iff_eq, decide_eq_true_eq, Bool.not_eq_true', List.contains_eq_mem, List.mem_cons, List.not_mem_nil, or_false, decide_eq_false_iff_not, not_or] at this
  obtain ⟨⟨⟨h1, h2⟩, h3⟩, h4, h5, h6, h7, h8, h9, h10⟩ := this
  exact ⟨h1, h2, h3, h4, h5, h6, h7, h8, h9, h10⟩
theorem esc_hexc (q r : Nat) (hq : q < 16) (hr : r < 16) (t : List UInt8) : esc (hexc q :: hexc r :: t) = some ([(16 * q + r).toUInt8], 2) := by
  obtain ⟨a1, a2, _, a4, a5, a6, a7, a8, a9, a10⟩ := hexc_at q hq
  obtain ⟨b1, b2, _⟩ := hexc_at r hr
  have hp : Lib.hasPrefix (hexc q :: hexc r :: t) [117, 123] = false := by
    unfold Lib.hasPrefix
    rw [List.isPrefixOf_cons_cons]
    have : (117 == hexc q) = false := by rw [beq_eq_false_iff_ne]; exact fun h => a10 h.symm
    rw [this]
    rfl
  simp only [esc]
  rw [if_neg a4, if_neg a5, if_neg a6, if_neg a7, if_neg a8, if_neg a9, hp, if_neg (by decide)]
  rw [if_pos ⟨a1, b1⟩, a2, b2]
theorem str_quo : ∀ (l : List UInt8) (f : Nat) (out : List UInt8), (l.flatMap quo1 ++ [34]).length < f → str f (l.flatMap quo1 ++ [34]) out = some (out ++ l, [])
  | l, 0, out, h => absurd h (Nat.not_lt_zero _)
  | [], f + 1, out, h => by
    rw [List.append_nil]
    exact str_end f [] out
  | c :: l, f + 1, out, h => by
    have hx := UInt8.toNat_lt c
    rw [List.flatMap_cons, List.append_assoc] at h ⊢
    by_cases hq : c < 32 ∨ 126 < c ∨ c = 34 ∨ c = 92
    · have e : quo1 c = [92, hexc (c.toNat / 16), hexc (c.toNat % 16)] := by unfold quo1; rw [if_pos hq]
      rw [e] at h ⊢
      simp only [List.cons_append, List.nil_append] at h ⊢
      rw [str_esc, esc_hexc _ _ (by omega) (by omega)]
      simp only
      have hc : (16 * (c.toNat / 16) + c.toNat % 16).toUInt8 = c := by
        rw [show 16 * (c.toNat / 16) + c.toNat % 16 = c.toNat from by omega]
        simp
      rw [hc]
      have ih := str_quo l f (out ++ [c]) (by simp only [List.length_cons] at h; omega)
      rw [show (hexc (c.toNat / 16) :: hexc (c.toNat % 16) :: (l.flatMap quo1 ++ [34])).drop 2 = l.flatMap quo1 ++ [34] from rfl, ih]
      simp
    · have e : quo1 c = [c] := by unfold quo1; rw [if_neg hq]
      rw [e] at h ⊢
      simp only [List.cons_append, List.nil_append] at h ⊢
      have h1 : c ≠ 34 := fun h => hq (.inr (.inr (.inl h)))
      have h2 : c ≠ 92 := fun h => hq (.inr (.inr (.inr h)))
      have h3 : ¬ (c < 32 ∨ c = 127) := by
        rintro (h | h)
        · exact hq (.inl h)
        · exact hq (.inr (.inl (by rw [h]; decide)))
      rw [str_on f c _ out h1 h3 h2, str_quo l f (out ++ [c]) (by simp only [List.length_cons] at h; omega)]
      simp
theorem quo_ascii (l : List UInt8) : ∀ x ∈ quo l, x.toNat < 128 := by
  intro x hx
  unfold quo at hx
  simp only [List.mem_append, List.mem_singleton, List.mem_flatMap] at hx
  rcases hx with (h | ⟨c, _, h⟩) | h
  · rw [h]; decide
  · have hc := UInt8.toNat_lt c
    unfold quo1 at h
    split at h
    · simp only [List.mem_cons, List.not_mem_nil, or_false] at h
      rcases h with h | h | h
      · rw [h]; decide
      · rw [h]; exact (hexc_at _ (by omega)).2.2.1
      · rw [h]; exact (hexc_at _ (by omega)).2.2.1
    · rename_i hn
      simp only [List.mem_singleton] at h
      subst h
      rcases Nat.lt_or_ge 126 x.toNat with h | h
      · exact absurd (.inr (.inl (UInt8.lt_iff_toNat_lt.2 h))) hn
      · omega
  · rw [h]; decide
/-- A quoted text is one word: the text. -/
theorem tokF_quo (l : List UInt8) : tokF ⟨(quo l).toArray⟩ = some [⟨3, l, 0⟩] := by
  have hsz : (⟨(quo l).toArray⟩ : ByteArray).size = (quo l).length := by
    show (quo l).toArray.size = _
    rw [List.size_toArray]
  have hval := valid_ascii ⟨(quo l).toArray⟩ (fun j hj => by
    have hm : (⟨(quo l).toArray⟩ : ByteArray)[j] ∈ quo l := by
      have : (⟨(quo l).toArray⟩ : ByteArray)[j] = (quo l)[j]'(by rw [hsz] at hj; exact hj) := rfl
      rw [this]
      exact List.getElem_mem _
    exact quo_ascii l _ hm) (⟨(quo l).toArray⟩ : ByteArray).size 0
  unfold tokF
  rw [if_pos hval, hsz]
  show toks (quo l).length ((quo l).length + 1) (quo l) (-1) = _
  have hq : quo l = 34 :: (l.flatMap quo1 ++ [34]) := by unfold quo; simp
  have hlen : ∃ m, (quo l).length = m + 1 := ⟨(l.flatMap quo1 ++ [34]).length, by rw [hq]; rfl⟩
  obtain ⟨m, hm⟩ := hlen
  have hsp : spc ((quo l).length + 1) (quo l) = some (34 :: (l.flatMap quo1 ++ [34])) := by
    rw [hq]
    exact spc_end _ 34 _ (by decide) rfl rfl
  have hst := str_quo l ((l.flatMap quo1 ++ [34]).length + 1) [] (by omega)
  have hn : nxt ((quo l).length - (34 :: (l.flatMap quo1 ++ [34])).length) (34 :: (l.flatMap quo1 ++ [34])) = some (⟨3, l, 0⟩, []) := by
    rw [nxt_str, hst, ← hq, Nat.sub_self]
    rfl
  simp only [toks]
  rw [hsp]
  simp only
  rw [hn]
  simp only
  rw [if_neg (by rw [← hq, Nat.sub_self]; rintro ⟨_, h⟩; cases h), hm]
  simp only [toks]
  rfl
end Go.Proofs.YtjecdciabpjgcaaDoor.Lx
