/-
  A slice of values that came in, as it is read. No condition.
-/
import Derived.Test.YtlllbgmnheikgaaTa
namespace Go.Proofs.Ytlllbgmnheikgaa.St
set_option linter.unusedVariables false
set_option linter.unusedSimpArgs false
open Go.ChangeShapes Go.WideShapes Go.Deep Go.RowKit Go.Proofs.YtlllbgmnheikgaaW.PrintWords Go.Proofs.Ytlllbgmnheikgaa.PStoreNone
theorem reads4_of {w : World} {a : Addr} {len : Nat} (f : Nat → V4) (h : ∀ i, i < len → ∀ j u, (vc (f i))[j]? = some u → w.cell? ((a.add (i * 4)).add j) = some u) : Reads4 w (some a) len (cl ((List.range len).map f)) := by
  have hl : ((List.range len).map f).length = len := by rw [List.length_map, List.length_range]
  refine ⟨by rw [cl_len, hl], cl_one _, fun _ => ⟨a, rfl, fun k u hk => ?_⟩⟩
  have hkl : k < len * 4 := by
    rcases Nat.lt_or_ge k (len * 4) with q | q
    · exact q
    · rw [List.getElem?_eq_none (by rw [cl_len, hl]; exact q)] at hk; cases hk
  have e : k = k / 4 * 4 + k % 4 := by omega
  rw [e, cl_get _ (k / 4) (k % 4) (by rw [hl]; omega) (by omega)] at hk
  rw [e, ← Go.Proofs.YtlllbgmnheikgaaW.PrintWords.add_add]
  refine h (k / 4) (by omega) (k % 4) u ?_
  rw [← hk]
  congr 1
  simp
section
variable {H : Type} {enc : TypeId × Value → H} {w : World} {base : Nat} {held : Bool}
theorem vals_open {fuel : Nat} {cs : List Value} {x : DataW H × List MemPlace} (h : DataW.trod enc Try.prog w base (fun _ => true) held fuel 38 cs = some x) :
    ∃ (S : Option Addr) (len cap : Nat), cs = [.slice S len cap] ∧ ∃ l : List V4, len = l.length ∧ Reads4 w S l.length (cl l) ∧ l.length ≤ cap := by
  rcases open_slice Try.underlying38 h with ⟨h0, _⟩ | ⟨a, len, cap, m, n, D, Pl, hcs, hb, hl, hm, hmm, hx, hi⟩
  · exact ⟨none, 0, 0, h0, [], rfl, ⟨rfl, cl_one _, fun h => by cases h⟩, Nat.le_refl _⟩
  · have hmc : m = cap := by rw [hmm]; rfl
    have hC : Try.prog.cellsOf 26 = 4 := by kernel_rfl
    have one : ∀ i, i < len → ∃ v : V4, ∀ j u, (vc v)[j]? = some u → w.cell? ((a.add (i * 4)).add j) = some u := by
      intro i him
      obtain ⟨cs', hc, ht'⟩ := hi i (by omega)
      rw [hC] at hc
      obtain ⟨_, hcl, hat⟩ := World.cells?_some hc
      obtain ⟨ys6, n6, _, _, hl6, hyl6, hf6⟩ := DataW.trod_struct Try.underlying26 ht'
      have hyl6' : ys6.length = 4 := hyl6
      have q0 : DataW.trod enc Try.prog w base (fun _ => true) held n6 3 ((cs'.drop 0).take (Try.prog.cellsOf 3)) = ys6[0]? := hf6 0 _ rfl
      rw [show Try.prog.cellsOf 3 = 1 from by kernel_rfl, one_cell (i := 0) (by omega), List.getElem?_eq_getElem (by rw [hyl6']; decide)] at q0
      obtain ⟨z0, e0, _, _⟩ := DataW.trod_int Try.underlying3 q0
      have q1 : DataW.trod enc Try.prog w base (fun _ => true) held n6 24 ((cs'.drop 1).take (Try.prog.cellsOf 24)) = ys6[1]? := hf6 1 _ rfl
      rw [show Try.prog.cellsOf 24 = 1 from by kernel_rfl, one_cell (i := 1) (by omega), List.getElem?_eq_getElem (by rw [hyl6']; decide)] at q1
      obtain ⟨z1, e1, _, _⟩ := DataW.trod_int Try.underlying24 q1
      have q2 : DataW.trod enc Try.prog w base (fun _ => true) held n6 24 ((cs'.drop 2).take (Try.prog.cellsOf 24)) = ys6[2]? := hf6 2 _ rfl
      rw [show Try.prog.cellsOf 24 = 1 from by kernel_rfl, one_cell (i := 2) (by omega), List.getElem?_eq_getElem (by rw [hyl6']; decide)] at q2
      obtain ⟨z2, e2, _, _⟩ := DataW.trod_int Try.underlying24 q2
      have q3 : DataW.trod enc Try.prog w base (fun _ => true) held n6 4 ((cs'.drop 3).take (Try.prog.cellsOf 4)) = ys6[3]? := hf6 3 _ rfl
      rw [show Try.prog.cellsOf 4 = 1 from by kernel_rfl, one_cell (i := 3) (by omega), List.getElem?_eq_getElem (by rw [hyl6']; decide)] at q3
      obtain ⟨z3, e3, _⟩ := DataW.trod_bool Try.underlying4 q3
      simp only [List.cons.injEq, and_true] at e0 e1 e2 e3
      refine ⟨(z0, z1, z2, z3), fun j u hj => ?_⟩
      have hjl : j < 4 := by
        rcases Nat.lt_or_ge j 4 with q | q
        · exact q
        · rw [List.getElem?_eq_none (by rw [vc_len]; exact q)] at hj; cases hj
      rw [hat j hjl, List.getElem?_eq_getElem (by omega), ← hj]
      rcases j with _ | _ | _ | _ | j
      · exact congrArg some e0
      · exact congrArg some e1
      · exact congrArg some e2
      · exact congrArg some e3
      · omega
    have hch : ∃ f : Nat → V4, ∀ i, i < len → ∀ j u, (vc (f i))[j]? = some u → w.cell? ((a.add (i * 4)).add j) = some u := by
      refine ⟨fun i => if h : i < len then Classical.choose (one i h) else (0, 0, 0, false), fun i h => ?_⟩
      simp only [dif_pos h]
      exact Classical.choose_spec (one i h)
    obtain ⟨f, hf⟩ := hch
    have hll : ((List.range len).map f).length = len := by rw [List.length_map, List.length_range]
    refine ⟨some a, len, cap, hcs, (List.range len).map f, hll.symm, ?_, by rw [hll]; exact hl⟩
    rw [hll]
    exact reads4_of f hf
end
end Go.Proofs.Ytlllbgmnheikgaa.St
