/-
  Rows of values (four cells each) and slices.Repeat over them (store). No condition beyond those that the lemmas state.
-/
import Derived.Test.YtlllbgmnheikgaaStE
namespace Go.Proofs.Ytlllbgmnheikgaa.St
set_option linter.unusedVariables false
set_option linter.unusedSimpArgs false
open Go.RowKit Go.Proofs.YtlllbgmnheikgaaW.PrintWords Go.Proofs.Ytlllbgmnheikgaa.PStoreNone

/-- A value's first cells. -/
def zero4 : Value := .agg #[.int .i64 0, .int .u64 0, .int .u64 0, .bool false]
theorem info26 : (Try.prog.info? 26).map (fun i => (i.zero, i.size, i.bytes)) = some (some zero4, 4, 32) := by kernel_rfl
theorem size26 : (Try.prog.info? 26).map (·.size) = some 4 := by kernel_rfl
/-- A slice of values that is read. -/
structure Reads4 (w : World) (A : Option Addr) (m : Nat) (ys : List Value) : Prop where
  len : ys.length = m * 4
  one : ∀ u ∈ ys, u.oneCell' = true
  at_ : 0 < m → ∃ ad, A = some ad ∧ ∀ j u, ys[j]? = some u → w.cell? (ad.add j) = some u
theorem reads4_take {w : World} {A : Option Addr} {m k : Nat} {ys : List Value} (h : Reads4 w A m ys) (hk : k ≤ m) : Reads4 w A k (ys.take (k * 4)) :=
  ⟨by rw [List.length_take, h.len]; omega, fun u hu => h.one u (List.mem_of_mem_take hu), fun hp => by
    obtain ⟨ad, e, hc⟩ := h.at_ (by omega)
    refine ⟨ad, e, fun j u hj => hc j u ?_⟩
    rw [List.getElem?_take] at hj
    split at hj
    · exact hj
    · cases hj⟩
theorem run_copy4 (w : World) (ty : TypeId) (b o dLen dCap : Nat) (a : Addr) (sLen sCap : Nat) (cs : List Value) (hn : cs.length = Nat.min sLen dLen * 4)
    (hsrc : ∀ j v, cs[j]? = some v → w.cell? (a.add j) = some v) (hc : ∀ j, j < cs.length → (w.cell? ⟨b, o + j, none⟩).isSome = true) (hf : ∀ j, j < cs.length → w.frozen? ⟨b, o + j, none⟩ = false) (h1 : ∀ v ∈ cs, v.oneCell' = true) :
    (Builtin.copy_ #[38, 38] ty #[.slice (some ⟨b, o, none⟩) dLen dCap, .slice (some a) sLen sCap]).run Try.prog w = .ok (goInt ((Nat.min sLen dLen : Nat) : Int)) (w.setCells b o cs) := by
  have hl := run_loadCells_list (P := Try.prog) w a cs hsrc
  have hst := run_storeCells_cells (P := Try.prog) b o cs 0 w (by simpa using hc) (by simpa using hf) h1
  have hs := size26
  cases hq : Try.prog.info? 26 with
  | none => simp [hq] at hs
  | some i =>
    have hi : i.size = 4 := by simpa [hq] using hs
    simp [Builtin.copy_, run_underlying Try.underlying38, Builtin.lenOf, Builtin.firstCells, sizeOf, typeInfo, hq, hi, ← hn, hl, hst]
theorem run_copy4_none (w : World) (ty : TypeId) (d a : Option Addr) (dLen dCap sLen sCap : Nat) (hn : Nat.min sLen dLen = 0) :
    (Builtin.copy_ #[38, 38] ty #[.slice d dLen dCap, .slice a sLen sCap]).run Try.prog w = .ok (goInt 0) w := by
  have hs := size26
  cases hq : Try.prog.info? 26 with
  | none => simp [hq] at hs
  | some i =>
    have hl : ∀ (x : Addr), (loadCells x 0).run Try.prog w = .ok #[] w := fun x => by simpa using run_loadCells_list (P := Try.prog) w x [] (by simp)
    cases d <;> cases a <;> simp [Builtin.copy_, run_underlying Try.underlying38, Builtin.lenOf, Builtin.firstCells, sizeOf, typeInfo, hq, hn, storeCells, hl]

/-- copy(v[p:], ys), v a row of one's own. -/
theorem copy_at4 (W : World) (base n c p m c2 : Nat) (A A2 : Option Addr) (xs ys : List Value) (ty : TypeId) (hpn : p ≤ n)
    (HO : W.ownsRow base 26 4 (.slice A n c) n xs) (HR : Reads4 W A2 m ys) :
    ∃ w1, (Builtin.copy_ #[38, 38] ty #[.slice (if c = p then A else A.map (·.add (p * 4))) (n - p) (c - p), .slice A2 m c2]).run Try.prog W = .ok (goInt ((min m (n - p) : Nat) : Int)) w1 ∧
      w1.ownsRow base 26 4 (.slice A n c) n (xs.take (p * 4) ++ (ys.take (min m (n - p) * 4) ++ xs.drop ((p + min m (n - p)) * 4))) ∧ W.grownBy w1 (Value.slice A n c).ownBlock := by
  have hm := HR.len
  have hxl : xs.length = n * 4 := HO.1
  rcases Nat.eq_zero_or_pos (min m (n - p)) with h0 | hp
  · refine ⟨W, ?_, ?_, World.grownBy.refl W _⟩
    · rw [h0]; exact run_copy4_none W ty _ _ _ _ _ _ h0
    · rw [h0, Nat.zero_mul, List.take_zero, List.nil_append, Nat.add_zero, List.take_append_drop]; exact HO
  · obtain ⟨ad, rfl, hc⟩ := HR.at_ (by omega)
    rcases HO.2 with ⟨_, hx0⟩ | ⟨g, cap, cur, hv, hb, hh, hnc, hcm, hcs, htake⟩
    · omega
    obtain ⟨rfl, rfl⟩ : A = some ⟨g, 0, none⟩ ∧ c = cap := by injection hv with h1 _ h3; exact ⟨h1, h3⟩
    obtain ⟨k, hk⟩ : ∃ k, k = min m (n - p) := ⟨_, rfl⟩
    rw [← hk] at hp ⊢
    have hkl : (ys.take (k * 4)).length = k * 4 := by rw [List.length_take]; omega
    have hD : (if c = p then (some ⟨g, 0, none⟩ : Option Addr) else (some (⟨g, 0, none⟩ : Addr)).map (·.add (p * 4))) = some ⟨g, p * 4, none⟩ := by
      rw [if_neg (by omega)]; simp [Addr.add]; intro h; omega
    have hR := reads4_take HR (k := k) (by omega)
    obtain ⟨ad', e', hsrc⟩ := hR.at_ hp
    injection e' with e'
    subst e'
    have hr := run_copy4 W ty g (p * 4) (n - p) (c - p) ad m c2 (ys.take (k * 4)) (by rw [hkl, hk]) hsrc
      (fun j hj => by rw [cell_of_row W g _ cur 26 (0, 0) hh]; simp; omega) (fun j _ => blk_frozen hh _) hR.one
    obtain ⟨cur', h3, h4, h5⟩ := setCells_row (ys.take (k * 4)) (p * 4) W cur hh (by rw [hkl]; omega)
    obtain ⟨s1, s2, s3, s4⟩ := setCells_same g (ys.take (k * 4)) (p * 4) W
    refine ⟨_, by rw [hD, hr, hk], ?_, ⟨s1, s2, s3, by rw [s4]; exact Nat.le_refl _, fun i _ hi => setCells_far _ _ i (fun he => hi (by rw [he]; simp [Value.ownBlock]))⟩⟩
    refine ⟨by simp only [List.length_append, List.length_take, List.length_drop]; omega, .inr ⟨g, c, cur', rfl, hb, h3, hnc, hcm, by rw [h4, hcs], ?_⟩⟩
    rw [h5, hkl]
    have e1 : cur.toList.take (p * 4) = xs.take (p * 4) := by
      rw [← htake, List.take_take]; congr 1; omega
    have e2 : (cur.toList.drop (p * 4 + k * 4)).take (n * 4 - (p * 4 + k * 4)) = xs.drop ((p + k) * 4) := by
      rw [← List.drop_take, htake, Nat.add_mul]
    have hgen : ∀ L1 L2 L3 : List Value, L1.length = p * 4 → L2.length = k * 4 → (L1 ++ L2 ++ L3).take (n * 4) = L1 ++ (L2 ++ L3.take (n * 4 - (p * 4 + k * 4))) := fun L1 L2 L3 a b => by
      rw [List.append_assoc, List.take_append, List.take_append, a, b, List.take_of_length_le (l := L1) (by omega), List.take_of_length_le (l := L2) (by omega), Nat.sub_sub]
    rw [hgen _ _ _ (by rw [e1, List.length_take]; omega) hkl, e1, e2]
theorem own_reads4 {W : World} {base n c : Nat} {A : Option Addr} {xs : List Value} (h : W.ownsRow base 26 4 (.slice A n c) n xs) (h1 : ∀ u ∈ xs, u.oneCell' = true) : Reads4 W A n xs ∧ n ≤ c := by
  rcases h.2 with ⟨hv, h0⟩ | ⟨g, cap, cur, hv, hb, hh, hnc, hcm, hcs, htake⟩
  · exact ⟨⟨h.1, h1, fun q => by omega⟩, by omega⟩
  · have hv2 := hv
    injection hv with e1 _ e3
    subst e1
    exact ⟨⟨h.1, h1, fun _ => ⟨_, rfl, fun j u hj => h.cells (g := g) rfl j u hj⟩⟩, by omega⟩
end Go.Proofs.Ytlllbgmnheikgaa.St
