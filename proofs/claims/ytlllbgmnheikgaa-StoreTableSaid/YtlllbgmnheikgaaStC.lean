/-
  The walks of a memory's Fill, Read (store). No condition but that the memory's block is one, its bytes a row of one's own.
-/
import Derived.Test.YtlllbgmnheikgaaStB
import Derived.Lib.SliceRun
namespace Go.Proofs.Ytlllbgmnheikgaa.St
set_option linter.unusedVariables false
set_option linter.unusedSimpArgs false
open Go.RowKit Go.Proofs.YtlllbgmnheikgaaW.PrintWords Go.Proofs.Ytlllbgmnheikgaa.PStoreNone

/-- So many bytes filled from a place on. -/
def fillX (p k : Nat) (ch : Int) (xs : List Int) : List Int := xs.take p ++ (List.replicate k ch ++ xs.drop (p + k))
theorem fillX_len {p k : Nat} {ch : Int} {xs : List Int} (h : p + k ≤ xs.length) : (fillX p k ch xs).length = xs.length := by
  unfold fillX; simp only [List.length_append, List.length_take, List.length_replicate, List.length_drop]; omega
theorem fillX_zero (p : Nat) (ch : Int) (xs : List Int) : fillX p 0 ch xs = xs := by unfold fillX; simp
theorem fillX_succ {p k : Nat} {ch : Int} {xs : List Int} (h : p + k < xs.length) : (fillX p k ch xs).set (p + k) ch = fillX p (k + 1) ch xs := by
  unfold fillX
  have l1 : (xs.take p).length = p := by rw [List.length_take]; omega
  rw [List.set_append_right _ _ (by rw [l1]; omega), l1, List.set_append_right _ _ (by rw [List.length_replicate]; omega), List.length_replicate, show p + k - p - k = 0 by omega]
  rw [List.drop_eq_getElem_cons h, List.set_cons_zero, List.replicate_succ', ← List.append_assoc, List.append_assoc, List.append_assoc]
  simp [Nat.add_assoc]
def fillE (p n : Nat) (k : Nat) : Int := if inB p n k = true then 0 else 44
def fillF (p n : Nat) (ch : Int) (xs : List Int) : List Int := if inB p n xs.length = true then fillX p n ch xs else xs
theorem MemI.set {w : World} {base g g2 c : Nat} {mn mx : Int} {hs : Bool} {xs : List Int} (H : MemI w base g mn mx hs (.slice (some ⟨g2, 0, none⟩) xs.length c) xs) (i : Nat) (x : Int) :
    MemI (w.setCell ⟨g2, i, none⟩ (.int .u8 x)) base g mn mx hs (.slice (some ⟨g2, 0, none⟩) xs.length c) (xs.set i x) ∧ w.grownBy (w.setCell ⟨g2, i, none⟩ (.int .u8 x)) (some g2) := by
  have h := own_store H.own (i : Int) x
  rw [Int.toNat_natCast] at h
  refine ⟨⟨?_, by rw [List.length_set]; exact h.1, H.ge, by rw [List.length_set]; exact H.len⟩, h.2⟩
  exact (h.2.block g (blk_lt H.blk) H.ne).trans H.blk
def FillRel (w : World) (base g : Nat) (mn mx : Int) (hs : Bool) (v : Value) (p n : Nat) (ch : Int) (xs : List Int) (i : Value) (wr : World) : Prop :=
  ∃ k : Nat, i = .int .u64 k ∧ k ≤ n ∧ MemI wr base g mn mx hs v (fillX p k ch xs) ∧ w.grownBy wr v.ownBlock
set_option maxRecDepth 100000 in
theorem fill_ok (w : World) (base g : Nat) (mn mx : Int) (hs : Bool) (A : Option Addr) (c : Nat) (xs : List Int) (H : MemI w base g mn mx hs (.slice A xs.length c) xs) (p n : Nat) (ch : Int) (hb : inB p n xs.length = true) (h2 : p + n ≤ xs.length) :
    Calls Try.prog 17 #[.pointer (some ⟨g, 0, none⟩), .int .u64 (p : Int), .int .u8 ch, .int .u64 (n : Int)] w (InitQ w base g mn mx hs (.slice A xs.length c) (fillX p n ch xs) 0) := by
  have HH := Lib.hid H
  have HB := Lib.hid hb
  have hcB := H.cellB
  have HL := Lib.hid H.len
  have HP := Lib.hid h2
  have hlt : xs.length ≤ 140737488355328 := by have := H.len; omega
  clear H hb
  go_enter Try.func17, Try.ntmps17
  go_wp2_with (go_at_call 32; refine (in_b (p : Int) (n : Int) xs.length _ true HB.out (by omega) hlt).mono ?_; rintro e w1 ⟨rfl, hb⟩; have HW := Lib.hid hb; clear hb hcB)
  go_loopw [24] (FillRel w base g mn mx hs (.slice A xs.length c) p n ch xs) (fun i _ => n - (intOf i).toNat)
  case atStart => exact ⟨0, rfl, Nat.zero_le _, by rw [fillX_zero]; exact HH.out.below HW.out, grown_of_below HW.out⟩
  case round =>
    obtain ⟨k, rfl, hk, hm, hg⟩ := hrel
    have HM := Lib.hid hm
    have HG := Lib.hid hg
    have hcB := hm.cellB
    clear hm hg
    by_cases hlt2 : k < n
    · have hfl := fillX_len (p := p) (k := k) (ch := ch) (xs := xs) (by omega)
      have hown := HM.out.own
      rw [hfl] at hown
      obtain ⟨g2, cap, hv, hg2, _⟩ := hown.form (by omega)
      obtain ⟨rfl, _, rfl⟩ : A = some ⟨g2, 0, none⟩ ∧ True ∧ c = cap := by injection hv with h1 _ h3; exact ⟨h1, trivial, h3⟩
      clear hv
      obtain ⟨hc1, hf1⟩ := own_at hown ((p + k : Nat) : Int) (by omega) (by omega)
      rw [Int.toNat_natCast] at hc1 hf1
      have hsum : IntKind.u64.wrap ((p : Int) + (k : Int)) = ((p + k : Nat) : Int) := by rw [IntKind.wrap_u64]; omega
      have hidx : ((p + k : Nat) : Int) < (xs.length : Int) := by omega
      have HFL := Lib.hid hfl
      clear hown hg2 hfl
      go_wp2
      go_roundw
      case rel =>
        have hs := (show MemI wr base g mn mx _ (.slice (some ⟨g2, 0, none⟩) (fillX p k ch xs).length c) (fillX p k ch xs) from by rw [HFL.out]; exact HM.out).set (p + k) ch
        rw [fillX_succ (by omega), HFL.out] at hs
        exact ⟨k + 1, by go_num, by omega, hs.1, grown_trans HG.out hs.2⟩
      case measure => simp [intOf]; omega
    · have hkn : k = n := by omega
      have hge : (n : Int) ≤ k := by omega
      clear hlt2
      subst hkn
      go_wp2
      go_ret
      exact ⟨rfl, HM.out, HG.out⟩
set_option maxRecDepth 100000 in
theorem fill_bad (w : World) (base g : Nat) (mn mx : Int) (hs : Bool) (A : Option Addr) (c : Nat) (xs : List Int) (H : MemI w base g mn mx hs (.slice A xs.length c) xs) (p n : Nat) (ch : Int) (hb : inB p n xs.length = false) :
    Calls Try.prog 17 #[.pointer (some ⟨g, 0, none⟩), .int .u64 (p : Int), .int .u8 ch, .int .u64 (n : Int)] w (InitQ w base g mn mx hs (.slice A xs.length c) xs 44) := by
  have HH := Lib.hid H
  have HB := Lib.hid hb
  have hcB := H.cellB
  have hlt : xs.length ≤ 140737488355328 := by have := H.len; omega
  clear H hb
  go_enter Try.func17, Try.ntmps17
  go_wp2_with (go_at_call 32; refine (in_b (p : Int) (n : Int) xs.length _ false HB.out (by omega) hlt).mono ?_; rintro e w1 ⟨rfl, hb⟩; have HW := Lib.hid hb; clear hb hcB)
  go_ret
  exact ⟨rfl, HH.out.below HW.out, grown_of_below HW.out⟩
theorem fill_c (w : World) (base g : Nat) (mn mx : Int) (hs : Bool) (v : Value) (xs : List Int) (H : MemI w base g mn mx hs v xs) (p n : Nat) (ch : Int) :
    Calls Try.prog 17 #[.pointer (some ⟨g, 0, none⟩), .int .u64 (p : Int), .int .u8 ch, .int .u64 (n : Int)] w (InitQ w base g mn mx hs v (fillF p n ch xs) (fillE p n xs.length)) := by
  obtain ⟨A, c, rfl⟩ := own_slice H.own
  unfold fillF fillE
  rcases h1 : inB p n xs.length with _ | _
  · rw [if_neg (by simp), if_neg (by simp)]
    exact fill_bad w base g mn mx hs A c xs H p n ch h1
  · rw [if_pos rfl, if_pos rfl]
    have q := h1
    simp only [inB, decide_eq_true_eq] at q
    exact fill_ok w base g mn mx hs A c xs H p n ch h1 (by omega)

structure RowQ (w : World) (ys : List Int) (e : Ending) (w' : World) : Prop where mk ::
  (out : ∃ v, e = .returned v ∧ w'.ownsRow w.heap.size 5 1 v ys.length (nums .u8 ys) ∧ Below w.heap.size w w')
set_option maxRecDepth 100000 in
theorem clone_c (A : Option Addr) (c : Nat) (ys : List Int) (w : World) (hr : ReadsInt w .u8 A ys.length ys) (hy : ys.length ≤ 140737488351232) :
    Calls Try.prog 33 #[.slice A ys.length c] w (RowQ w ys) := by
  cases A with
  | none =>
    obtain rfl : ys = [] := by
      cases ys with
      | nil => rfl
      | cons x t => obtain ⟨ad, h, _⟩ := hr.2.2 (by simp); cases h
    clear hr
    have q29 : (∀ w : World, (binOp .eql 29 (.slice none 0 c) (.slice none 0 0)).run Try.prog w = .ok (.bool true) w) := fun w => Go.Lib.run_eql_slice_nil w _ _ none _ c _ _ Try.underlying29
    go_enter Try.func33, Try.ntmps33
    go_wp2
    go_ret
    exact ⟨_, rfl, own_nil _ _ _ _, Below.refl _ _⟩
  | some ad =>
    have HR := Lib.hid hr
    have HY := Lib.hid hy
    have HL : Hid ((([] : List Int).length + ys.length) * 1 ≤ 140737488355328) := Lib.hid (by simp; omega)
    clear hr hy
    have q29 : (∀ w : World, (binOp .eql 29 (.slice (some ad) ys.length c) (.slice none 0 0)).run Try.prog w = .ok (.bool false) w) := fun w => Go.Lib.run_eql_slice_nil w _ _ (some ad) _ c _ _ Try.underlying29
    go_enter Try.func33, Try.ntmps33
    go_wp2_with (at_builtin; go_loud (refine print_append_row (w0 := w) w.heap.size rfl (.tmp 5) (.tmp 6) 29 5 .u8 1 rfl Try.underlying29 info5 (by decide) (.slice (some ⟨w.heap.size, 0, none⟩) 0 0) [] ys (some ad) ys.length c (by first | (go_simp; done) | (go_simp; rfl) | rfl) (by first | (go_simp; done) | (go_simp; rfl) | rfl) (own_lit w w.heap.size 5 .u8 [] (Nat.le_refl _) (by decide)) (HR.out.allocS _) ((Below.refl _ _).alloc (Nat.le_refl _) _) (by show w.heap.size ≤ (w.heap.push _).size; simp) HL.out ?_; intro v1 w1 hown hbl hg hat; have HO := Lib.hid hown; have HB := Lib.hid hbl; clear hown hbl hg hat))
    go_ret
    exact ⟨_, rfl, by simpa using HO.out, HB.out⟩
end Go.Proofs.Ytlllbgmnheikgaa.St
