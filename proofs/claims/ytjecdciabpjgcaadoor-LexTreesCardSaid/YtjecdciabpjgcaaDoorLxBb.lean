/-
  The reference's trees, Same and the law's model (the print's functions) in closed form, against the plain machine of trees. No program in sight.
-/
import Derived.Test.YtjecdciabpjgcaaDoorLxU
import Derived.Test.YtjecdciabpjgcaaDoorPLxx6
import Derived.Test.YtjecdciabpjgcaaDoorPLxx7
namespace Go.Proofs.YtjecdciabpjgcaaDoor.Lx
set_option linter.unusedVariables false
set_option linter.unusedSimpArgs false
open Go.RowKit Go.Proofs.YtjecdciabpjgcaaDoorW.PrintWords Go.Proofs.YtjecdciabpjgcaaDoor.PLx Go.Proofs.YtjecdciabpjgcaaDoor.Lb

def F.tr : F → List S62
  | .nil => []
  | .cons k t c r => ⟨k, ⟨t.toArray⟩, c.tr⟩ :: r.tr
theorem F.tr_len : ∀ f : F, f.tr.length = f.len
  | .nil => rfl
  | .cons k t c r => by simp only [F.tr, F.len, List.length_cons, F.tr_len r]
theorem F.tr_app : ∀ f g : F, (f.app g).tr = f.tr ++ g.tr
  | .nil, g => rfl
  | .cons k t c r, g => by simp only [F.tr, F.app, F.tr_app r g, List.cons_append]
def F.cost : F → Nat
  | .nil => 2
  | .cons _ _ c r => c.cost + r.cost + 1
theorem F.cost2 : ∀ f : F, 2 ≤ f.cost
  | .nil => Nat.le_refl _
  | .cons _ _ c r => by have := F.cost2 c; have := F.cost2 r; simp only [F.cost]; omega
theorem F.len_cost : ∀ f : F, f.len ≤ f.cost
  | .nil => by simp [F.len]
  | .cons _ _ c r => by have := F.len_cost r; simp only [F.cost, F.len]; omega
theorem F.cost_app : ∀ f g : F, (f.app g).cost + 2 = f.cost + g.cost
  | .nil, g => by simp only [F.app, F.cost]; omega
  | .cons k t c r, g => by have := F.cost_app r g; simp only [F.app, F.cost]; omega
theorem drop_get {α : Type} (l : List α) (i : Nat) (x : α) (t : List α) (d : α) (h : l.drop i = x :: t) : i < l.length ∧ l.getD i d = x ∧ l.drop (i + 1) = t := by
  have hl : i < l.length := by
    rcases Nat.lt_or_ge i l.length with h1 | h1
    · exact h1
    · rw [List.drop_of_length_le h1] at h; cases h
  refine ⟨hl, ?_, ?_⟩
  · have := List.drop_eq_getElem_cons hl
    rw [h] at this
    rw [List.getD_eq_getElem?_getD, List.getElem?_eq_getElem hl]
    exact (List.cons.inj this).1.symm
  · have := List.drop_eq_getElem_cons hl
    rw [h] at this
    exact (List.cons.inj this).2.symm
theorem w64n (n : Nat) (h : n ≤ 1000000000000) : wrap64 ((n : Int) + 1) = ((n + 1 : Nat) : Int) := by unfold wrap64; omega
/-- The law's model, at what is left of a row. -/
theorem model_l (M : Nat) (hM : M ≤ 1000000000000) : ∀ (c : Nat) (f g : F) (i k : Nat) (acc : List S62), g.cost ≤ c → f.to.drop i = g.to → i + g.len = f.len → f.len ≤ M → g.cost ≤ M → acc.length = i → g.cost ≤ k → bodkinlaw18_model.l0 k f.to acc (i : Int) = some (acc ++ g.tr)
  | 0, f, g, i, k, acc, hc, _, _, _, _, _, _ => by have := g.cost2; omega
  | c + 1, f, .nil, i, k, acc, hc, hd, hl, hf, hg, ha, hk => by
    obtain ⟨k, rfl⟩ : ∃ m, k = m + 1 := ⟨k - 1, by simp only [F.cost] at hk; omega⟩
    simp only [bodkinlaw18_model.l0]
    rw [if_neg (by rw [F.to_len]; simp only [F.len] at hl; omega)]
    simp only [F.tr, List.append_nil]
  | c + 1, f, .cons kd tx kids rest, i, k, acc, hc, hd, hl, hf, hg, ha, hk => by
    obtain ⟨k, rfl⟩ : ∃ m, k = m + 1 := ⟨k - 1, by simp only [F.cost] at hk; omega⟩
    simp only [F.cost] at hc hg hk
    simp only [F.len] at hl
    have c1 := kids.cost2
    have c2 := rest.cost2
    obtain ⟨h1, h2, h3⟩ := drop_get f.to i _ _ z48 hd
    simp only [bodkinlaw18_model.l0]
    rw [if_pos (by omega), if_pos (by omega)]
    have hr : rd_T48 f.to (i : Int) = ⟨kd, ⟨tx.toArray⟩, kids.to⟩ := by unfold rd_T48; rw [Int.toNat_natCast]; exact h2
    rw [hr]
    simp only
    obtain ⟨k2, rfl⟩ : ∃ m, k = m + 1 := ⟨k - 1, by omega⟩
    have hm : bodkinlaw18_model.f (k2 + 1) kids.to = some kids.tr := by
      simp only [bodkinlaw18_model.f]
      have := model_l M hM c kids kids 0 k2 [] (by omega) rfl (by omega) (by have := kids.len_cost; omega) (by omega) rfl (by omega)
      simpa using this
    rw [hm]
    simp only [Option.bind_some]
    rw [if_pos (by omega), w64n i (by omega)]
    have := model_l M hM c f rest (i + 1) (k2 + 1) (acc ++ [⟨kd, ⟨tx.toArray⟩, kids.tr⟩]) (by omega) h3 (by omega) hf (by omega) (by simp [ha]) (by omega)
    rw [this]
    simp [F.tr]
theorem model_f (f : F) (k : Nat) (hf : f.cost ≤ 1000000000000) (hk : f.cost + 1 ≤ k) : bodkinlaw18_model.f k f.to = some f.tr := by
  obtain ⟨k, rfl⟩ : ∃ m, k = m + 1 := ⟨k - 1, by omega⟩
  simp only [bodkinlaw18_model.f]
  have := model_l 1000000000000 (Nat.le_refl _) f.cost f f 0 k [] (Nat.le_refl _) rfl (by omega) (by have := f.len_cost; omega) hf rfl (by omega)
  simpa using this
/-- Trees are the same as themselves. -/
theorem same_l (M : Nat) (hM : M ≤ 1000000000000) : ∀ (c : Nat) (f g : F) (i k : Nat), g.cost ≤ c → f.tr.drop i = g.tr → i + g.len = f.len → f.len ≤ M → g.cost ≤ M → g.cost ≤ k → bodkinref18_Same.l0 k f.tr f.tr (i : Int) = some true := by
  intro c
  induction c with
  | zero => intro f g i k hc; have := g.cost2; omega
  | succ c ih =>
    intro f g i k hc hd hl hf hg hk
    cases g with
    | nil =>
      obtain ⟨k, rfl⟩ : ∃ m, k = m + 1 := ⟨k - 1, by simp only [F.cost] at hk; omega⟩
      simp only [bodkinref18_Same.l0]
      rw [if_neg (by rw [F.tr_len]; simp only [F.len] at hl; omega)]
    | cons kd tx kids rest =>
      obtain ⟨k, rfl⟩ : ∃ m, k = m + 1 := ⟨k - 1, by simp only [F.cost] at hk; omega⟩
      simp only [F.cost] at hc hg hk
      simp only [F.len] at hl
      have c1 := kids.cost2
      have c2 := rest.cost2
      obtain ⟨h1, h2, h3⟩ := drop_get f.tr i _ _ z62 hd
      obtain ⟨k2, hk2⟩ : ∃ m, k = m + 1 := ⟨k - 1, by omega⟩
      have hm : bodkinref18_Same.f k kids.tr kids.tr = some true := by
        rw [hk2]
        have h := ih kids kids 0 k2 (by omega) rfl (by omega) (by have := kids.len_cost; omega) (by omega) (by omega)
        simp only [bodkinref18_Same.f, if_true]
        exact h
      have h := ih f rest (i + 1) k (by omega) h3 (by omega) hf (by omega) (by omega)
      have hr : rd_T62 f.tr (i : Int) = ⟨kd, ⟨tx.toArray⟩, kids.tr⟩ := by unfold rd_T62; rw [Int.toNat_natCast]; exact h2
      simp only [bodkinref18_Same.l0]
      rw [if_pos (by omega), if_pos (by omega), if_pos (by omega), hr]
      simp only
      rw [hm]
      simp only [Option.bind_some, if_true]
      rw [w64n i (by omega)]
      exact h
theorem same_f (f : F) (k : Nat) (hf : f.cost ≤ 1000000000000) (hk : f.cost + 1 ≤ k) : bodkinref18_Same.f k f.tr f.tr = some true := by
  obtain ⟨k, rfl⟩ : ∃ m, k = m + 1 := ⟨k - 1, by omega⟩
  simp only [bodkinref18_Same.f, if_true]
  exact same_l 1000000000000 (Nat.le_refl _) f.cost f f 0 k (Nat.le_refl _) rfl (by omega) (by have := f.len_cost; omega) hf (by omega)
def sTok (k : Tok) : S32 := ⟨k.kind, ⟨k.text.toArray⟩, (k.at_ : Int)⟩
/-- The reference's trees from a place on, against the machine. -/
def TrP (ks : List Tok) (p d : Nat) (f : F) (res : List S62 × Int × Int) : Prop :=
  (∃ e : Int, e ≠ 0 ∧ res = ([], 0, e) ∧ ∀ st : List F, st.length = d → mach (ks.drop p) (f :: st) = (e, .nil)) ∨
  (∃ (f' : F) (q9 : Nat), res = (f'.tr, (q9 : Int), 0) ∧
    ((d = 0 ∧ mach (ks.drop p) [f] = (0, f')) ∨ (d ≠ 0 ∧ p < q9 ∧ q9 ≤ ks.length ∧ ∀ (g : F) (st : List F), st.length + 1 = d → mach (ks.drop p) (f :: g :: st) = mach (ks.drop q9) (g.app (.cons 4 [] f' .nil) :: st))))
theorem len_sTok (ks : List Tok) : (ks.map sTok).length = ks.length := List.length_map ..
theorem trees_l (ks : List Tok) (hks : ks.length ≤ 1000000000) : ∀ (c p d k : Nat) (f : F), ks.length - p ≤ c → p ≤ ks.length → d ≤ 1000 → f.len ≤ p → 2 * c + 2 ≤ k →
    ∃ res, bodkinref18_trees.l0 k (ks.map sTok) (p : Int) (d : Int) f.tr = some res ∧ TrP ks p d f res := by
  intro c
  induction c using Nat.strongRecOn with
  | _ c ih =>
  intro p d k f hc hp hd hf hk
  obtain ⟨k, rfl⟩ : ∃ m, k = m + 1 := ⟨k - 1, by omega⟩
  by_cases hlt : p < ks.length
  · have hdr := List.drop_eq_getElem_cons hlt
    generalize hK : ks[p] = K at hdr
    have hrd : rd_T32 (ks.map sTok) (p : Int) = sTok K := by
      unfold rd_T32
      rw [Int.toNat_natCast, List.getD_eq_getElem?_getD, List.getElem?_map, List.getElem?_eq_getElem hlt, hK]
      rfl
    have hfl : f.tr.length < 2932031007402 := by rw [F.tr_len]; omega
    simp only [bodkinref18_trees.l0]
    rw [if_pos (by rw [len_sTok]; omega), if_pos (by omega), hrd]
    by_cases k1 : K.kind = 1
    · rw [if_pos (show (sTok K).f0 = 1 from k1)]
      by_cases hd0 : d = 0
      · rw [if_pos (by omega)]
        refine ⟨_, rfl, .inl ⟨71, by decide, rfl, fun st hst => ?_⟩⟩
        have : st = [] := List.length_eq_zero_iff.1 (by omega)
        subst this
        rw [hdr]
        simp only [mach]
        rw [if_neg (by omega), if_pos k1]
      · rw [if_neg (by omega), w64n p (by omega)]
        refine ⟨_, rfl, .inr ⟨f, p + 1, rfl, .inr ⟨hd0, by omega, by omega, fun g st hst => ?_⟩⟩⟩
        rw [hdr]
        simp only [mach]
        rw [if_neg (by omega), if_pos k1]
    · rw [if_neg (show ¬ (sTok K).f0 = 1 from k1)]
      by_cases k0 : K.kind = 0
      · rw [if_pos (show (sTok K).f0 = 0 from k0)]
        by_cases hd1 : d = 1000
        · rw [if_pos (by omega)]
          refine ⟨_, rfl, .inl ⟨72, by decide, rfl, fun st hst => ?_⟩⟩
          rw [hdr]
          simp only [mach]
          rw [if_pos k0, if_pos (by simp; omega)]
        · rw [if_neg (by omega), w64n p (by omega), w64n d (by omega)]
          obtain ⟨k2, rfl⟩ : ∃ m, k = m + 1 := ⟨k - 1, by omega⟩
          obtain ⟨res, hres, hP⟩ := ih (c - 1) (by omega) (p + 1) (d + 1) k2 .nil (by omega) (by omega) (by omega) (by simp [F.len]) (by omega)
          have hfe : bodkinref18_trees.f (k2 + 1) (ks.map sTok) ((p + 1 : Nat) : Int) ((d + 1 : Nat) : Int) = some res := by
            simp only [bodkinref18_trees.f]
            exact hres
          rw [hfe]
          simp only [Option.bind_some]
          have hopen : ∀ st : List F, st.length = d → mach (ks.drop p) (f :: st) = mach (ks.drop (p + 1)) (.nil :: f :: st) := fun st hst => by
            rw [hdr]
            simp only [mach]
            rw [if_pos k0, if_neg (by simp; omega)]
          rcases hP with ⟨e, he, rfl, hm⟩ | ⟨f', q9, rfl, h0 | ⟨_, h1, h2, hm⟩⟩
          · simp only
            rw [if_neg he]
            exact ⟨_, rfl, .inl ⟨e, he, rfl, fun st hst => by rw [hopen st hst]; exact hm (f :: st) (by simp [hst])⟩⟩
          · omega
          · simp only
            rw [if_pos True.intro, if_pos hfl]
            have happ : f.tr ++ [(⟨4, (⟨#[]⟩ : ByteArray), f'.tr⟩ : S62)] = (f.app (.cons 4 [] f' .nil)).tr := by rw [F.tr_app]; rfl
            rw [happ]
            obtain ⟨res2, hr2, hP2⟩ := ih (ks.length - q9) (by omega) q9 d (k2 + 1) (f.app (.cons 4 [] f' .nil)) (Nat.le_refl _) h2 hd (by rw [F.len_app]; simp only [F.len]; omega) (by omega)
            refine ⟨res2, hr2, ?_⟩
            have hstep : ∀ st : List F, st.length = d → mach (ks.drop p) (f :: st) = mach (ks.drop q9) (f.app (.cons 4 [] f' .nil) :: st) := fun st hst => (hopen st hst).trans (hm f st (by omega))
            rcases hP2 with ⟨e, he, rfl, hm2⟩ | ⟨f2, to2, rfl, ⟨h0, hm2⟩ | ⟨h0, h3, h4, hm2⟩⟩
            · exact .inl ⟨e, he, rfl, fun st hst => (hstep st hst).trans (hm2 st hst)⟩
            · exact .inr ⟨f2, to2, rfl, .inl ⟨h0, (hstep [] (by simp [h0])).trans hm2⟩⟩
            · exact .inr ⟨f2, to2, rfl, .inr ⟨h0, by omega, h4, fun g st hst => (hstep (g :: st) (by simpa using hst)).trans (hm2 g st hst)⟩⟩
      · rw [if_neg (show ¬ (sTok K).f0 = 0 from k0), if_pos hfl, w64n p (by omega)]
        have happ : f.tr ++ [(⟨(sTok K).f0, (sTok K).f1, ([] : List S62)⟩ : S62)] = (f.app (.cons K.kind K.text .nil .nil)).tr := by rw [F.tr_app]; rfl
        rw [happ]
        obtain ⟨res2, hr2, hP2⟩ := ih (c - 1) (by omega) (p + 1) d k (f.app (.cons K.kind K.text .nil .nil)) (by omega) (by omega) hd (by rw [F.len_app]; simp only [F.len]; omega) (by omega)
        refine ⟨res2, hr2, ?_⟩
        have hstep : ∀ st : List F, mach (ks.drop p) (f :: st) = mach (ks.drop (p + 1)) (f.app (.cons K.kind K.text .nil .nil) :: st) := fun st => by
          rw [hdr]
          simp only [mach]
          rw [if_neg k0, if_neg k1]
        rcases hP2 with ⟨e, he, rfl, hm2⟩ | ⟨f2, to2, rfl, ⟨h0, hm2⟩ | ⟨h0, h3, h4, hm2⟩⟩
        · exact .inl ⟨e, he, rfl, fun st hst => (hstep st).trans (hm2 st hst)⟩
        · exact .inr ⟨f2, to2, rfl, .inl ⟨h0, (hstep []).trans hm2⟩⟩
        · exact .inr ⟨f2, to2, rfl, .inr ⟨h0, by omega, h4, fun g st hst => (hstep (g :: st)).trans (hm2 g st hst)⟩⟩
  · have hpe : ks.drop p = [] := List.drop_of_length_le (by omega)
    simp only [bodkinref18_trees.l0]
    rw [if_neg (by rw [len_sTok]; omega)]
    by_cases hd0 : d = 0
    · rw [if_neg (by omega)]
      exact ⟨_, rfl, .inr ⟨f, p, rfl, .inl ⟨hd0, by rw [hpe]; rfl⟩⟩⟩
    · rw [if_pos (by omega)]
      refine ⟨_, rfl, .inl ⟨71, by decide, rfl, fun st hst => ?_⟩⟩
      rw [hpe]
      cases st with
      | nil => simp at hst; omega
      | cons g st => rfl
theorem trees_f (ks : List Tok) (hks : ks.length ≤ 1000000000) (k : Nat) (hk : 2 * ks.length + 3 ≤ k) : ∃ q9 : Int, bodkinref18_trees.f k (ks.map sTok) 0 0 = some ((mach ks [.nil]).2.tr, q9, (mach ks [.nil]).1) := by
  obtain ⟨k, rfl⟩ : ∃ m, k = m + 1 := ⟨k - 1, by omega⟩
  simp only [bodkinref18_trees.f]
  obtain ⟨res, hr, hP⟩ := trees_l ks hks ks.length 0 0 k .nil (by omega) (by omega) (by omega) (by simp [F.len]) (by omega)
  have hr' : bodkinref18_trees.l0 k (ks.map sTok) 0 0 [] = some res := hr
  rw [hr']
  rcases hP with ⟨e, he, rfl, hm⟩ | ⟨f', q9, rfl, ⟨_, hm⟩ | ⟨h0, _⟩⟩
  · have := hm [] rfl
    rw [List.drop_zero] at this
    rw [this]
    exact ⟨0, rfl⟩
  · rw [List.drop_zero] at hm
    rw [hm]
    exact ⟨q9, rfl⟩
  · exact absurd rfl h0
theorem mach_cost : ∀ (ks : List Tok) (st : List F), (mach ks st).2.cost ≤ (st.map F.cost).sum + 3 * ks.length + 2
  | [], st => by
    cases st with
    | nil => simp [mach, F.cost]
    | cons f st => cases st with
      | nil => simp [mach]
      | cons g st => simp [mach, F.cost]
  | k :: ks, st => by
    simp only [mach]
    split
    · split
      · simp [F.cost]
      · have := mach_cost ks (.nil :: st)
        simp only [List.map_cons, List.sum_cons, F.cost, List.length_cons] at this ⊢
        omega
    · split
      · split
        · rename_i f g st'
          have := mach_cost ks (g.app (.cons 4 [] f .nil) :: st')
          have h2 := F.cost_app g (.cons 4 [] f .nil)
          simp only [List.map_cons, List.sum_cons, F.cost, List.length_cons] at this h2 ⊢
          omega
        · simp [F.cost]
      · split
        · rename_i f st'
          have := mach_cost ks (f.app (.cons k.kind k.text .nil .nil) :: st')
          have h2 := F.cost_app f (.cons k.kind k.text .nil .nil)
          simp only [List.map_cons, List.sum_cons, F.cost, List.length_cons] at this h2 ⊢
          omega
        · simp [F.cost]
end Go.Proofs.YtjecdciabpjgcaaDoor.Lx
