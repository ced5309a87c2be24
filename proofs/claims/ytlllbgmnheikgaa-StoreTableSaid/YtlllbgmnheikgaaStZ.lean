/-
  The walk of the reference's Vals (store), and what StoreTable holds between two acts. No condition but that the rows of values are read.
-/
import Derived.Test.YtlllbgmnheikgaaStY
namespace Go.Proofs.Ytlllbgmnheikgaa.St
set_option linter.unusedVariables false
set_option linter.unusedSimpArgs false
open Go.RowKit Go.Proofs.YtlllbgmnheikgaaW.PrintWords Go.Proofs.Ytlllbgmnheikgaa.PStoreNone

structure RefT (w : World) (v0 : Value) (l0 l : List V4) (r : Int) (e : Ending) (w' : World) : Prop where mk ::
  (out : ∃ v, e = .returned (.tuple #[v, .int .i64 r]) ∧ Below w.heap.size w w' ∧ ((v = v0 ∧ l = l0) ∨ w'.ownsRow w.heap.size 26 4 v l.length (cl l)))
set_option maxRecDepth 100000 in
theorem valsR_bad1 (w : World) (A : Option Addr) (c : Nat) (xs : List V4) (p f n : Nat) (A2 : Option Addr) (c2 : Nat) (ys : List V4)
    (hx : xs.length ≤ 140737488351232) (hy : ys.length ≤ 140737488351232) (b2 : Bool) (hb1 : inB f n ys.length = false) (hb2 : inB p n xs.length = b2) :
    Calls Try.prog 24 #[.slice A xs.length c, .int .u64 (p : Int), .int .u64 (f : Int), .int .u64 (n : Int), .slice A2 ys.length c2] w (RefT w (.slice A xs.length c) xs xs 45) := by
  have HB1 := Lib.hid hb1
  have HB2 := Lib.hid hb2
  clear hb1 hb2
  go_enter Try.func24, Try.ntmps24
  go_wp2_with (first | (go_at_call 22; ((with_reducible refine (inR_c f n ys.length false HB1.out _ (by omega)).mono ?_)); rintro e w1 ⟨rfl, rfl⟩) | (go_at_call 22; ((with_reducible refine (inR_c p n xs.length b2 HB2.out _ (by omega)).mono ?_)); rintro e w2 ⟨rfl, rfl⟩))
  go_ret2
  exact ⟨_, rfl, Below.refl _ _, .inl ⟨rfl, rfl⟩⟩
set_option maxRecDepth 100000 in
theorem valsR_bad2 (w : World) (A : Option Addr) (c : Nat) (xs : List V4) (p f n : Nat) (A2 : Option Addr) (c2 : Nat) (ys : List V4)
    (hx : xs.length ≤ 140737488351232) (hy : ys.length ≤ 140737488351232) (hb1 : inB f n ys.length = true) (hb2 : inB p n xs.length = false) :
    Calls Try.prog 24 #[.slice A xs.length c, .int .u64 (p : Int), .int .u64 (f : Int), .int .u64 (n : Int), .slice A2 ys.length c2] w (RefT w (.slice A xs.length c) xs xs 45) := by
  have HB1 := Lib.hid hb1
  have HB2 := Lib.hid hb2
  clear hb1 hb2
  go_enter Try.func24, Try.ntmps24
  go_wp2_with (first | (go_at_call 22; ((with_reducible refine (inR_c f n ys.length true HB1.out _ (by omega)).mono ?_)); rintro e w1 ⟨rfl, rfl⟩) | (go_at_call 22; ((with_reducible refine (inR_c p n xs.length false HB2.out _ (by omega)).mono ?_)); rintro e w2 ⟨rfl, rfl⟩))
  go_ret2
  exact ⟨_, rfl, Below.refl _ _, .inl ⟨rfl, rfl⟩⟩
theorem reads4_first {w : World} {A : Option Addr} {k : Nat} {l : List V4} (h : Reads4 w A l.length (cl l)) (hk : k ≤ l.length) : Reads4 w A k (cl (l.take k)) := by
  rw [← cl_take]; exact reads4_take h hk
set_option maxRecDepth 100000 in
theorem valsR_ok (w : World) (A : Option Addr) (c : Nat) (xs : List V4) (p f n : Nat) (A2 : Option Addr) (c2 : Nat) (ys : List V4)
    (hxr : Reads4 w A xs.length (cl xs)) (hxc : xs.length ≤ c) (hx : xs.length ≤ 1000000) (hr : Reads4 w A2 ys.length (cl ys)) (hc2 : ys.length ≤ c2) (hy : ys.length ≤ 1000000) (hb1 : inB f n ys.length = true) (hb2 : inB p n xs.length = true) (h1 : f + n ≤ ys.length) (h2 : p + n ≤ xs.length) :
    Calls Try.prog 24 #[.slice A xs.length c, .int .u64 (p : Int), .int .u64 (f : Int), .int .u64 (n : Int), .slice A2 ys.length c2] w (RefT w (.slice A xs.length c) xs (xs.take p ++ ((ys.drop f).take n ++ xs.drop (p + n))) 0) := by
  have ht := take38u A xs.length c p (by omega)
  have hm := mid38 A2 ys.length c2 f n hc2 h1
  have hd := cut38u A xs.length c (p + n) h2
  have hR1 := reads4_first hxr (k := p) (by omega)
  have hR2 := reads4_cut hr hc2 h1
  have hR3 := reads4_cut hxr hxc (f := p + n) (k := xs.length - (p + n)) (by omega)
  rw [List.take_of_length_le (l := xs.drop (p + n)) (by rw [List.length_drop]; omega)] at hR3
  obtain ⟨D, hD⟩ : ∃ D, D = (if c = p + n then A else A.map (·.add ((p + n) * 4))) := ⟨_, rfl⟩
  obtain ⟨D2, hD2⟩ : ∃ D2, D2 = (if c2 = f then A2 else A2.map (·.add (f * 4))) := ⟨_, rfl⟩
  rw [← hD] at hd hR3
  rw [← hD2] at hm hR2
  have e1 : ((p + n : Nat) : Int) = (p : Int) + (n : Int) := by omega
  rw [e1] at hd
  obtain ⟨v1, w1, r1, o1, q1, _⟩ := append_r4 w w.heap.size 0 p c A (.slice none 0 0) [] (cl (xs.take p)) (own_nil _ _ _ _) hR1 (by omega) (Nat.le_refl _)
  rw [Nat.zero_add, List.nil_append] at o1
  have b1 : Below w.heap.size w w1 := (Below.refl _ _).grown q1 (Nat.le_refl _) (fun k hk => by cases hk)
  obtain ⟨v2, w2, r2, o2, q2, _⟩ := append_r4 w1 w.heap.size p n (c2 - f) D2 v1 (cl (xs.take p)) (cl ((ys.drop f).take n)) o1 (reads4_below hR2 b1) (by omega) b1.size
  have b2 := b1.grown q2 b1.size (own_base o1)
  obtain ⟨v3, w3, r3, o3, q3, _⟩ := append_r4 w2 w.heap.size (p + n) (xs.length - (p + n)) (c - (p + n)) D v2 _ (cl (xs.drop (p + n))) o2 (reads4_below hR3 b2) (by omega) b2.size
  have b3 := b2.grown q3 b2.size (own_base o2)
  have HR1 := Lib.hid r1
  have HR2 := Lib.hid r2
  have HR3 := Lib.hid r3
  have HO3 := Lib.hid o3
  have HB3 := Lib.hid b3
  have HB1 := Lib.hid hb1
  have HB2 := Lib.hid hb2
  have H2 := Lib.hid h2
  have H1 := Lib.hid h1
  have hs1 : IntKind.u64.wrap ((f : Int) + (n : Int)) = (f : Int) + (n : Int) := by rw [IntKind.wrap_u64]; omega
  have hs2 : IntKind.u64.wrap ((p : Int) + (n : Int)) = (p : Int) + (n : Int) := by rw [IntKind.wrap_u64]; omega
  clear hD hD2 hR1 hR2 hR3 hb1 hb2 hr hxr e1 r1 r2 r3 o1 o2 o3 b1 b2 b3 q1 q2 q3
  go_enter Try.func24, Try.ntmps24
  go_wp2_with (first | (go_at_call 22; ((with_reducible refine (inR_c f n ys.length true HB1.out _ (by omega)).mono ?_)); rintro e w1' ⟨rfl, rfl⟩) | (go_at_call 22; ((with_reducible refine (inR_c p n xs.length true HB2.out _ (by omega)).mono ?_)); rintro e w2' ⟨rfl, rfl⟩) | (at_builtin; go_loud (first | (refine step_append rfl (.tmp 32) (.tmp 35) 38 38 rfl (.slice none 0 0) (.slice A p c) v1 w1 (by first | (go_simp; done) | (go_simp; rfl) | rfl) (by first | (go_simp; done) | (go_simp; rfl) | rfl) HR1.out ?_) | (refine step_append rfl (.tmp 37) (.tmp 43) 38 38 rfl v1 (.slice D2 n (c2 - f)) v2 w2 (by first | (go_simp; done) | (go_simp; rfl) | rfl) (by first | (go_simp; done) | (go_simp; rfl) | rfl) HR2.out ?_) | (refine step_append rfl (.tmp 45) (.tmp 50) 38 38 rfl v2 (.slice D (xs.length - (p + n)) (c - (p + n))) v3 w3 (by first | (go_simp; done) | (go_simp; rfl) | rfl) (by first | (go_simp; done) | (go_simp; rfl) | rfl) HR3.out ?_))))
  go_ret2
  refine ⟨v3, rfl, HB3.out, .inr ?_⟩
  have := HO3.out
  have h2' := H2.out
  have h1' := H1.out
  rw [← cl_app, ← cl_app, List.append_assoc] at this
  have e : (xs.take p ++ ((ys.drop f).take n ++ xs.drop (p + n))).length = p + n + (xs.length - (p + n)) := by simp only [List.length_append, List.length_take, List.length_drop]; omega
  rw [e]; exact this
theorem valsR_c (w : World) (A : Option Addr) (c : Nat) (xs : List V4) (p f n : Nat) (A2 : Option Addr) (c2 : Nat) (ys : List V4)
    (hxr : Reads4 w A xs.length (cl xs)) (hxc : xs.length ≤ c) (hx : xs.length ≤ 1000000) (hr : Reads4 w A2 ys.length (cl ys)) (hc2 : ys.length ≤ c2) (hy : ys.length ≤ 1000000) :
    Calls Try.prog 24 #[.slice A xs.length c, .int .u64 (p : Int), .int .u64 (f : Int), .int .u64 (n : Int), .slice A2 ys.length c2] w (RefT w (.slice A xs.length c) xs (initV p f n ys xs) (tabE p f n ys.length xs.length)) := by
  unfold initV tabE
  rcases h1 : inB f n ys.length with _ | _
  · rw [if_neg (by simp), if_neg (by simp)]
    exact valsR_bad1 w A c xs p f n A2 c2 ys (by omega) (by omega) _ h1 rfl
  · rcases h2 : inB p n xs.length with _ | _
    · rw [if_neg (by simp), if_neg (by simp)]
      exact valsR_bad2 w A c xs p f n A2 c2 ys (by omega) (by omega) h1 h2
    · rw [if_pos ⟨rfl, rfl⟩, if_pos ⟨rfl, rfl⟩]
      have q1 := h1
      have q2 := h2
      simp only [inB, decide_eq_true_eq] at q1 q2
      exact valsR_ok w A c xs p f n A2 c2 ys hxr hxc hx hr hc2 hy h1 h2 (by omega) (by omega)
end Go.Proofs.Ytlllbgmnheikgaa.St
