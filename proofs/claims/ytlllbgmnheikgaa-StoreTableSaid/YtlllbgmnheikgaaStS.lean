/-
  The walks of the reference's In, Bytes, Fill (store). No condition but that the rows are read.
-/
import Derived.Test.YtlllbgmnheikgaaStP
namespace Go.Proofs.Ytlllbgmnheikgaa.St
set_option linter.unusedVariables false
set_option linter.unusedSimpArgs false
open Go.RowKit Go.Proofs.YtlllbgmnheikgaaW.PrintWords Go.Proofs.Ytlllbgmnheikgaa.PStoreNone

theorem inR_c (a n k : Nat) (r : Bool) (hr : inB a n k = r) (w : World) (hk : k ≤ 140737488355328) :
    Calls Try.prog 22 #[.int .u64 (a : Int), .int .u64 (n : Int), .int .i64 (k : Int)] w fun e w' => e = .returned (.bool r) ∧ w = w' := by
  have hw : IntKind.u64.wrap (k : Int) = (k : Int) := by rw [IntKind.wrap_u64]; omega
  unfold inB at hr
  have hkb : (k : Int) ≤ 140737488355328 := by omega
  by_cases h1 : (a : Int) ≤ (k : Int)
  · by_cases h2 : (n : Int) ≤ (k : Int)
    · have hw2 : IntKind.u64.wrap ((k : Int) - (n : Int)) = (k : Int) - (n : Int) := by rw [IntKind.wrap_u64]; omega
      by_cases h3 : (a : Int) ≤ (k : Int) - (n : Int)
      · obtain rfl : r = true := by rw [← hr]; exact decide_eq_true ⟨h1, by omega⟩
        clear hr
        go_enter Try.func22, Try.ntmps22
        go_wp2
        go_ret
        exact ⟨rfl, rfl⟩
      · obtain rfl : r = false := by rw [← hr]; exact decide_eq_false (fun h => h3 (by omega))
        have h3' : (k : Int) - (n : Int) < (a : Int) := by omega
        clear hr h3
        go_enter Try.func22, Try.ntmps22
        go_wp2
        go_ret
        exact ⟨by simp; omega, rfl⟩
    · obtain rfl : r = false := by rw [← hr]; exact decide_eq_false (fun h => h2 (by omega))
      have h2' : (k : Int) < (n : Int) := by omega
      clear hr h2
      go_enter Try.func22, Try.ntmps22
      go_wp2
      go_ret
      exact ⟨by simp, rfl⟩
  · obtain rfl : r = false := by rw [← hr]; exact decide_eq_false (fun h => h1 h.1)
    have h1' : (k : Int) < (a : Int) := by omega
    clear hr h1
    go_enter Try.func22, Try.ntmps22
    go_wp2
    go_ret
    exact ⟨by simp, rfl⟩
theorem take29 (A : Option Addr) (n c p : Nat) (hp : p ≤ c) : ∀ W : World, (Instr.slice 29 (.slice A n c) none (some (.int .u64 (p : Int))) none).run Try.prog W = .ok (.slice A p c) W := by
  intro W
  obtain ⟨i0, hi, hz0, hz1, hz2⟩ := info_parts info5
  have ht := Try.underlying29
  have hel : Try.prog.elem 29 = 5 := by simp [Program.elem, ht]
  have hu : Try.prog.underlying 29 = some (.slice (Try.prog.elem 29)) := by rw [hel]; exact ht
  rw [run_slice_h W 29 A n c hu .u64 (p : Int) (Int.natCast_nonneg _) (by omega), hel]
  simp [sizeOf, typeInfo, hi, hz1, sliced, Result.andThen]
  intro h; cases A <;> simp [Addr.add]
structure RefQ (w : World) (base : Nat) (v0 : Value) (xs : List Int) (r : Int) (e : Ending) (w' : World) : Prop where mk ::
  (out : ∃ v, e = .returned (.tuple #[v, .int .i64 r]) ∧ w'.ownsRow base 5 1 v xs.length (nums .u8 xs) ∧ Below w.heap.size w w' ∧ (v.ownBlock = v0.ownBlock ∨ ∀ k, v.ownBlock = some k → w.heap.size ≤ k))
set_option maxRecDepth 100000 in
theorem bytesR_bad1 (w : World) (base : Nat) (v : Value) (xs : List Int) (A : Option Addr) (c : Nat) (hv : v = .slice A xs.length c) (H : w.ownsRow base 5 1 v xs.length (nums .u8 xs)) (p f n : Nat) (A2 : Option Addr) (c2 : Nat) (ys : List Int)
    (hx : xs.length ≤ 140737488351232) (hy : ys.length ≤ 140737488351232) (b2 : Bool) (hb1 : inB f n ys.length = false) (hb2 : inB p n xs.length = b2) :
    Calls Try.prog 16 #[v, .int .u64 (p : Int), .int .u64 (f : Int), .int .u64 (n : Int), .slice A2 ys.length c2] w (RefQ w base v xs 44) := by
  subst hv
  have HH := Lib.hid H
  have HB1 := Lib.hid hb1
  have HB2 := Lib.hid hb2
  clear H hb1 hb2
  go_enter Try.func16, Try.ntmps16
  go_wp2_with (first | (go_at_call 22; ((with_reducible refine (inR_c f n ys.length false HB1.out _ (by omega)).mono ?_)); rintro e w1 ⟨rfl, rfl⟩) | (go_at_call 22; ((with_reducible refine (inR_c p n xs.length b2 HB2.out _ (by omega)).mono ?_)); rintro e w2 ⟨rfl, rfl⟩))
  go_ret2
  exact ⟨_, rfl, HH.out, Below.refl _ _, .inl rfl⟩
set_option maxRecDepth 100000 in
theorem bytesR_bad2 (w : World) (base : Nat) (v : Value) (xs : List Int) (A : Option Addr) (c : Nat) (hv : v = .slice A xs.length c) (H : w.ownsRow base 5 1 v xs.length (nums .u8 xs)) (p f n : Nat) (A2 : Option Addr) (c2 : Nat) (ys : List Int)
    (hx : xs.length ≤ 140737488351232) (hy : ys.length ≤ 140737488351232) (hb1 : inB f n ys.length = true) (hb2 : inB p n xs.length = false) :
    Calls Try.prog 16 #[v, .int .u64 (p : Int), .int .u64 (f : Int), .int .u64 (n : Int), .slice A2 ys.length c2] w (RefQ w base v xs 44) := by
  subst hv
  have HH := Lib.hid H
  have HB1 := Lib.hid hb1
  have HB2 := Lib.hid hb2
  clear H hb1 hb2
  go_enter Try.func16, Try.ntmps16
  go_wp2_with (first | (go_at_call 22; ((with_reducible refine (inR_c f n ys.length true HB1.out _ (by omega)).mono ?_)); rintro e w1 ⟨rfl, rfl⟩) | (go_at_call 22; ((with_reducible refine (inR_c p n xs.length false HB2.out _ (by omega)).mono ?_)); rintro e w2 ⟨rfl, rfl⟩))
  go_ret2
  exact ⟨_, rfl, HH.out, Below.refl _ _, .inl rfl⟩
set_option maxRecDepth 100000 in
theorem bytesR_ok (w : World) (base : Nat) (v : Value) (xs : List Int) (A : Option Addr) (c : Nat) (hv : v = .slice A xs.length c) (H : w.ownsRow base 5 1 v xs.length (nums .u8 xs)) (p f n : Nat) (A2 : Option Addr) (c2 : Nat) (ys : List Int)
    (hx : xs.length ≤ 140737488351232) (hr : ReadsInt w .u8 A2 ys.length ys) (hc2 : ys.length ≤ c2) (hy : ys.length ≤ 140737488351232) (hb : base ≤ w.heap.size) (hb1 : inB f n ys.length = true) (hb2 : inB p n xs.length = true) (h1 : f + n ≤ ys.length) (h2 : p + n ≤ xs.length) :
    Calls Try.prog 16 #[v, .int .u64 (p : Int), .int .u64 (f : Int), .int .u64 (n : Int), .slice A2 ys.length c2] w (RefQ w base v (xs.take p ++ ((ys.drop f).take n ++ xs.drop (p + n))) 0) := by
  subst hv
  have hxc : xs.length ≤ c := by
    rcases H.2 with ⟨hv, h0⟩ | ⟨g', cap, cur, hv, _, _, hnc, _⟩
    · omega
    · injection hv with _ _ h3; omega
  have hxr := own_reads' H
  have ht := take29 A xs.length c p (by omega)
  have hm := mid29 A2 ys.length c2 f n hc2 h1
  have hd := cut29 A xs.length c (p + n) h2
  obtain ⟨D, hD⟩ : ∃ D, D = (if c = p + n then A else A.map (·.add (p + n))) := ⟨_, rfl⟩
  obtain ⟨D2, hD2⟩ : ∃ D2, D2 = (if c2 = f then A2 else A2.map (·.add f)) := ⟨_, rfl⟩
  have hR1 := hxr.take_ p (by omega)
  have hR2 := (hr.drop_ (c := c2) f (by omega) hc2).take_ n (by omega)
  have hR3 := hxr.drop_ (c := c) (p + n) h2 hxc
  rw [← hD] at hd hR3
  rw [← hD2] at hm hR2
  have e1 : ((p + n : Nat) : Int) = (p : Int) + (n : Int) := by omega
  rw [e1] at hd
  have HR1 := Lib.hid hR1
  have HR2 := Lib.hid hR2
  have HR3 := Lib.hid hR3
  have l1 : (xs.take p).length = p := by rw [List.length_take]; omega
  have l2 : ((ys.drop f).take n).length = n := by rw [List.length_take, List.length_drop]; omega
  have HL1 := Lib.hid l1
  have HL2 := Lib.hid l2
  have HB1 := Lib.hid hb1
  have HB2 := Lib.hid hb2
  have HB := Lib.hid hb
  have hs1 : IntKind.u64.wrap ((f : Int) + (n : Int)) = (f : Int) + (n : Int) := by rw [IntKind.wrap_u64]; omega
  have hs2 : IntKind.u64.wrap ((p : Int) + (n : Int)) = (p : Int) + (n : Int) := by rw [IntKind.wrap_u64]; omega
  clear H hxr hD hD2 hR1 hR2 hR3 l1 l2 hb1 hb2 hr e1 hb
  go_enter Try.func16, Try.ntmps16
  go_wp2_with (first | (go_at_call 22; ((with_reducible refine (inR_c f n ys.length true HB1.out _ (by omega)).mono ?_)); rintro e w1 ⟨rfl, rfl⟩) | (go_at_call 22; ((with_reducible refine (inR_c p n xs.length true HB2.out _ (by omega)).mono ?_)); rintro e w2 ⟨rfl, rfl⟩) | (at_builtin; go_loud (first | (refine print_append_row (w0 := w) w.heap.size rfl (.tmp 32) (.tmp 35) 29 5 .u8 1 rfl Try.underlying29 info5 (by decide) (.slice none 0 0) [] (xs.take p) A p c (by first | (go_simp; done) | (go_simp; rfl) | rfl) (by first | (go_simp; done) | (go_simp; rfl) | rfl) (own_nil _ _ _ _) HR1.out (Below.refl _ _) (Nat.le_refl _) (by simp; omega) ?_; intro v1 w1 hown hbl hg hat; have HO1 := Lib.hid hown; have HX1 := Lib.hid hbl; clear hown hbl hg hat) | (refine print_append_row (w0 := w) w.heap.size rfl (.tmp 37) (.tmp 43) 29 5 .u8 1 rfl Try.underlying29 info5 (by decide) v1 ([] ++ xs.take p) ((ys.drop f).take n) D2 n (c2 - f) (by first | (go_simp; done) | (go_simp; rfl) | rfl) (by first | (go_simp; done) | (go_simp; rfl) | rfl) HO1.out (HR2.out.below HX1.out) HX1.out HX1.out.size (by have := HL1.out; simp only [List.nil_append]; omega) ?_; intro v2 w2 hown hbl hg hat; have HO2 := Lib.hid hown; have HX2 := Lib.hid hbl; clear hown hbl hg hat) | (refine print_append_row (w0 := w) w.heap.size rfl (.tmp 45) (.tmp 50) 29 5 .u8 1 rfl Try.underlying29 info5 (by decide) v2 ([] ++ xs.take p ++ (ys.drop f).take n) (xs.drop (p + n)) D (xs.length - (p + n)) (c - (p + n)) (by first | (go_simp; done) | (go_simp; rfl) | rfl) (by first | (go_simp; done) | (go_simp; rfl) | rfl) HO2.out (HR3.out.below HX2.out) HX2.out HX2.out.size (by have := HL1.out; have := HL2.out; simp only [List.nil_append, List.length_append]; omega) ?_; intro v3 w3 hown hbl hg hat; have HO3 := Lib.hid hown; have HX3 := Lib.hid hbl; clear hown hbl hg hat))))
  go_ret2
  refine ⟨v3, rfl, ?_, HX3.out, .inr fun k hk => own_base HO3.out k hk⟩
  have := own_less HO3.out HB.out
  simpa using this
theorem bytesR_c (w : World) (base : Nat) (v : Value) (xs : List Int) (H : w.ownsRow base 5 1 v xs.length (nums .u8 xs)) (p f n : Nat) (A2 : Option Addr) (c2 : Nat) (ys : List Int)
    (hx : xs.length ≤ 140737488351232) (hr : ReadsInt w .u8 A2 ys.length ys) (hc2 : ys.length ≤ c2) (hy : ys.length ≤ 140737488351232) (hb : base ≤ w.heap.size) :
    Calls Try.prog 16 #[v, .int .u64 (p : Int), .int .u64 (f : Int), .int .u64 (n : Int), .slice A2 ys.length c2] w (RefQ w base v (initF p f n ys xs) (initE p f n ys.length xs.length)) := by
  obtain ⟨A, c, hv⟩ := own_slice H
  unfold initF initE
  rcases h1 : inB f n ys.length with _ | _
  · rw [if_neg (by simp), if_neg (by simp)]
    exact bytesR_bad1 w base v xs A c hv H p f n A2 c2 ys hx hy _ h1 rfl
  · rcases h2 : inB p n xs.length with _ | _
    · rw [if_neg (by simp), if_neg (by simp)]
      exact bytesR_bad2 w base v xs A c hv H p f n A2 c2 ys hx hy h1 h2
    · rw [if_pos ⟨rfl, rfl⟩, if_pos ⟨rfl, rfl⟩]
      have q1 := h1
      have q2 := h2
      simp only [inB, decide_eq_true_eq] at q1 q2
      exact bytesR_ok w base v xs A c hv H p f n A2 c2 ys hx hr hc2 hy hb h1 h2 (by omega) (by omega)
def FillR (w : World) (v : Value) (p n : Nat) (ch : Int) (xs : List Int) (i : Value) (wr : World) : Prop :=
  ∃ k : Nat, i = .int .u64 ((p + k : Nat) : Int) ∧ k ≤ n ∧ wr.ownsRow w.heap.size 5 1 v xs.length (nums .u8 (fillX p k ch xs)) ∧ Below w.heap.size w wr
set_option maxRecDepth 100000 in
theorem fillR_ok (w : World) (base : Nat) (v : Value) (xs : List Int) (A : Option Addr) (c : Nat) (hv : v = .slice A xs.length c) (H : w.ownsRow base 5 1 v xs.length (nums .u8 xs)) (p n : Nat) (ch : Int)
    (hx : xs.length ≤ 140737488351232) (hb : base ≤ w.heap.size) (hb1 : inB p n xs.length = true) (h2 : p + n ≤ xs.length) :
    Calls Try.prog 18 #[v, .int .u64 (p : Int), .int .u8 ch, .int .u64 (n : Int)] w (RefQ w base v (fillX p n ch xs) 0) := by
  subst hv
  have HR := Lib.hid (own_reads' H)
  have HB1 := Lib.hid hb1
  have HB := Lib.hid hb
  have hs2 : IntKind.u64.wrap ((p : Int) + (n : Int)) = (p : Int) + (n : Int) := by rw [IntKind.wrap_u64]; omega
  have HP := Lib.hid h2
  clear H hb1 hb h2
  go_enter Try.func18, Try.ntmps18
  go_wp2_with (first | (go_at_call 22; ((with_reducible refine (inR_c p n xs.length true HB1.out _ (by omega)).mono ?_)); rintro e w1 ⟨rfl, rfl⟩) | (at_builtin; go_loud (refine print_append_row (w0 := w) w.heap.size rfl (.tmp 21) (.tmp 22) 29 5 .u8 1 rfl Try.underlying29 info5 (by decide) (.slice none 0 0) [] xs A xs.length c (by first | (go_simp; done) | (go_simp; rfl) | rfl) (by first | (go_simp; done) | (go_simp; rfl) | rfl) (own_nil _ _ _ _) HR.out (Below.refl _ _) (Nat.le_refl _) (by simp; omega) ?_; intro v1 w1 hown hbl hg hat; have HO1 := Lib.hid (show w1.ownsRow w.heap.size 5 1 v1 xs.length (nums .u8 xs) from by simpa using hown); have HX1 := Lib.hid hbl; clear hown hbl hg hat)))
  go_loopw [12] (FillR w v1 p n ch xs) (fun i _ => p + n - (intOf i).toNat)
  case atStart => exact ⟨0, by simp, Nat.zero_le _, by rw [fillX_zero]; exact HO1.out, HX1.out⟩
  case round =>
    obtain ⟨k, rfl, hk, hown, hbl⟩ := hrel
    have HO := Lib.hid hown
    have HX := Lib.hid hbl
    have hp2 := HP.out
    by_cases hlt : k < n
    · obtain ⟨g2, cap, rfl, hg2, _⟩ := hown.form (by omega)
      have hfl := fillX_len (p := p) (k := k) (ch := ch) (xs := xs) (by omega)
      obtain ⟨hc1, hf1⟩ := own_at hown ((p + k : Nat) : Int) (by omega) (by omega)
      rw [Int.toNat_natCast] at hc1 hf1
      have hset := Lib.hid (own_store hown ((p + k : Nat) : Int) ch)
      have hlt1 : ((p + k : Nat) : Int) < (p : Int) + (n : Int) := by omega
      have hlt2 : ((p + k : Nat) : Int) < (xs.length : Int) := by omega
      have HG2 := Lib.hid hg2
      have HFL := Lib.hid hfl
      obtain ⟨m, hm⟩ : ∃ m, m = p + k := ⟨_, rfl⟩
      rw [← hm] at hc1 hf1 hset hlt1 hlt2 ⊢
      have HMM := Lib.hid hm
      clear hown hbl hg2 hfl hm hp2
      go_wp2
      go_roundw
      case rel =>
        have hs := hset.out
        rw [Int.toNat_natCast, HMM.out, fillX_succ (by have := HP.out; omega)] at hs
        exact ⟨k + 1, by rw [HMM.out]; go_num, by omega, by rw [HMM.out]; exact hs.1, by rw [HMM.out]; exact HX.out.grown hs.2 HX.out.size (fun q hq => own_base HO.out q (by simpa [Value.ownBlock] using hq))⟩
      case measure => simp [intOf]; have := HMM.out; omega
    · have hkn : k = n := by omega
      subst hkn
      have hge : (p : Int) + (k : Int) ≤ ((p + k : Nat) : Int) := by omega
      clear hlt hown hbl
      go_wp2
      go_ret2
      have hl := fillX_len (p := p) (k := k) (ch := ch) (xs := xs) hp2
      refine ⟨v1, rfl, ?_, HX.out, .inr fun q hq => own_base HO.out q hq⟩
      rw [hl]
      exact own_less HO.out HB.out
set_option maxRecDepth 100000 in
theorem fillR_bad (w : World) (base : Nat) (v : Value) (xs : List Int) (A : Option Addr) (c : Nat) (hv : v = .slice A xs.length c) (H : w.ownsRow base 5 1 v xs.length (nums .u8 xs)) (p n : Nat) (ch : Int)
    (hx : xs.length ≤ 140737488351232) (hb1 : inB p n xs.length = false) :
    Calls Try.prog 18 #[v, .int .u64 (p : Int), .int .u8 ch, .int .u64 (n : Int)] w (RefQ w base v xs 44) := by
  subst hv
  have HH := Lib.hid H
  have HB1 := Lib.hid hb1
  clear H hb1
  go_enter Try.func18, Try.ntmps18
  go_wp2_with (first | (go_at_call 22; ((with_reducible refine (inR_c p n xs.length false HB1.out _ (by omega)).mono ?_)); rintro e w1 ⟨rfl, rfl⟩))
  go_ret2
  exact ⟨_, rfl, HH.out, Below.refl _ _, .inl rfl⟩
theorem fillR_c (w : World) (base : Nat) (v : Value) (xs : List Int) (H : w.ownsRow base 5 1 v xs.length (nums .u8 xs)) (p n : Nat) (ch : Int) (hx : xs.length ≤ 140737488351232) (hb : base ≤ w.heap.size) :
    Calls Try.prog 18 #[v, .int .u64 (p : Int), .int .u8 ch, .int .u64 (n : Int)] w (RefQ w base v (fillF p n ch xs) (fillE p n xs.length)) := by
  obtain ⟨A, c, hv⟩ := own_slice H
  unfold fillF fillE
  rcases h1 : inB p n xs.length with _ | _
  · rw [if_neg (by simp), if_neg (by simp)]
    exact fillR_bad w base v xs A c hv H p n ch hx h1
  · rw [if_pos rfl, if_pos rfl]
    have q := h1
    simp only [inB, decide_eq_true_eq] at q
    exact fillR_ok w base v xs A c hv H p n ch hx hb h1 (by omega)
end Go.Proofs.Ytlllbgmnheikgaa.St
