/-
  The walks of a memory's Read, and of memories that are none (store). No condition but that the memory's block is one, its bytes a row of one's own.
-/
import Derived.Test.YtlllbgmnheikgaaStC
namespace Go.Proofs.Ytlllbgmnheikgaa.St
set_option linter.unusedVariables false
set_option linter.unusedSimpArgs false
open Go.RowKit Go.Proofs.YtlllbgmnheikgaaW.PrintWords Go.Proofs.Ytlllbgmnheikgaa.PStoreNone

structure ReadQ (w : World) (ys : List Int) (r : Int) (e : Ending) (w' : World) : Prop where mk ::
  (out : ∃ v, e = .returned (.tuple #[v, .int .i64 r]) ∧ w'.ownsRow w.heap.size 5 1 v ys.length (nums .u8 ys) ∧ Below w.heap.size w w')
set_option maxRecDepth 100000 in
theorem read_ok (w : World) (base g : Nat) (mn mx : Int) (hs : Bool) (A : Option Addr) (c : Nat) (xs : List Int) (H : MemI w base g mn mx hs (.slice A xs.length c) xs) (p n : Nat) (hb : inB p n xs.length = true) (h2 : p + n ≤ xs.length) :
    Calls Try.prog 21 #[.pointer (some ⟨g, 0, none⟩), .int .u64 (p : Int), .int .i64 (n : Int)] w (ReadQ w ((xs.drop p).take n) 0) := by
  have HH := Lib.hid H
  have HB := Lib.hid hb
  have hcB := H.cellB
  have hlt0 := H.len
  have hlt : xs.length ≤ 140737488355328 := by omega
  have hmid := mid29 A xs.length c p n H.reads.2 h2
  obtain ⟨D, hD⟩ : ∃ D, D = (if c = p then A else A.map (·.add p)) := ⟨_, rfl⟩
  rw [← hD] at hmid
  have HRC : Hid (∀ w3, Below w.heap.size w w3 → ReadsInt w3 .u8 D n ((xs.drop p).take n)) := Lib.hid (fun w3 hb => by
    have := ((H.reads.1.below hb).drop_ (c := c) p (by omega) H.reads.2).take_ n (by omega)
    rw [hD]; exact this)
  have hyl : ((xs.drop p).take n).length = n := by rw [List.length_take, List.length_drop]; omega
  obtain ⟨ys, hys⟩ : ∃ ys, ys = (xs.drop p).take n := ⟨_, rfl⟩
  rw [← hys] at HRC hyl ⊢
  have hsum : IntKind.u64.wrap ((p : Int) + (n : Int)) = (p : Int) + (n : Int) := by rw [IntKind.wrap_u64]; omega
  have HYL := Lib.hid hyl
  clear H hb hD hys hyl
  go_enter Try.func21, Try.ntmps21
  go_wp2_with (first | (go_at_call 32; refine (in_b (p : Int) (n : Int) xs.length _ true HB.out (by omega) hlt).mono ?_; rintro e w1 ⟨rfl, hb⟩; clear hcB; have hcB := (HH.out.below hb).cellB; have HW := Lib.hid hb; clear hb) | (go_at_call 33; have hcl := clone_c D (c - p) ys w1 (by rw [HYL.out]; exact HRC.out _ HW.out) (by have h1 := HYL.out; omega); rw [HYL.out] at hcl; refine hcl.mono ?_; intro e w2 hq; obtain ⟨v, he, ho, hb⟩ := hq.out; subst he; have HO := Lib.hid ho; have HW2 := Lib.hid hb; clear hq ho hb hcl))
  go_ret2
  exact ⟨_, rfl, own_less HO.out HW.out.size, HW.out.trans (HW2.out.mono HW.out.size)⟩
set_option maxRecDepth 100000 in
theorem read_bad (w : World) (base g : Nat) (mn mx : Int) (hs : Bool) (A : Option Addr) (c : Nat) (xs : List Int) (H : MemI w base g mn mx hs (.slice A xs.length c) xs) (p n : Nat) (hn : n ≤ 9223372036854775807) (hb : inB p n xs.length = false) :
    Calls Try.prog 21 #[.pointer (some ⟨g, 0, none⟩), .int .u64 (p : Int), .int .i64 (n : Int)] w (ReadQ w [] 44) := by
  have HH := Lib.hid H
  have HB := Lib.hid hb
  have hcB := H.cellB
  have hlt : xs.length ≤ 140737488355328 := by have := H.len; omega
  clear H hb
  go_enter Try.func21, Try.ntmps21
  go_wp2_with (first | (go_at_call 32; refine (in_b (p : Int) (n : Int) xs.length _ false HB.out (by omega) hlt).mono ?_; rintro e w1 ⟨rfl, hb⟩; clear hcB; have HW := Lib.hid hb; clear hb))
  go_ret2
  exact ⟨_, rfl, own_nil _ _ _ _, HW.out⟩
theorem read_neg (pt : Value) (p n : Int) (w : World) (hn : n < 0) (g : Nat) :
    Calls Try.prog 21 #[.pointer (some ⟨g, 0, none⟩), .int .u64 p, .int .i64 n] w fun e w' => e = .returned (.tuple #[.slice none 0 0, .int .i64 1]) ∧ w' = w := by
  go_enter Try.func21, Try.ntmps21
  go_wp2
  go_ret2
  exact ⟨rfl, rfl⟩
/-! ### Memories that are none -/
theorem read_nil (p n : Int) (w : World) : Calls Try.prog 21 #[.pointer none, .int .u64 p, .int .i64 n] w fun e w' => e = .returned (.tuple #[.slice none 0 0, .int .i64 1]) ∧ w' = w := by
  go_enter Try.func21, Try.ntmps21
  go_wp2
  go_ret2
  exact ⟨rfl, rfl⟩
theorem fill_nil (p n ch : Int) (w : World) : Calls Try.prog 17 #[.pointer none, .int .u64 p, .int .u8 ch, .int .u64 n] w fun e w' => e = .returned (.int .i64 1) ∧ w' = w := by
  go_enter Try.func17, Try.ntmps17
  go_wp2
  go_ret
  exact ⟨rfl, rfl⟩
theorem init_nil (p f n : Int) (s : Value) (w : World) : Calls Try.prog 20 #[.pointer none, .int .u64 p, .int .u64 f, .int .u64 n, s] w fun e w' => e = .returned (.int .i64 1) ∧ w' = w := by
  go_enter Try.func20, Try.ntmps20
  go_wp2
  go_ret
  exact ⟨rfl, rfl⟩
theorem copy_nil (p f n : Int) (w : World) : Calls Try.prog 19 #[.pointer none, .int .u64 p, .int .u64 f, .int .u64 n] w fun e w' => e = .returned (.int .i64 1) ∧ w' = w := by
  go_enter Try.func19, Try.ntmps19
  go_wp2
  go_ret
  exact ⟨rfl, rfl⟩
theorem grow_nil (n m : Int) (w : World) : Calls Try.prog 10 #[.pointer none, .int .u64 n, .int .i64 m] w fun e w' => e = .returned (.int .i64 0) ∧ w' = w := by
  go_enter Try.func10, Try.ntmps10
  go_wp2
  go_ret
  exact ⟨rfl, rfl⟩
theorem write_nil (p : Int) (A : Option Addr) (n c : Nat) (w : World) (hn : n ≤ 140737488355328) : Calls Try.prog 15 #[.pointer none, .int .u64 p, .slice A n c] w fun e w' => e = .returned (.int .i64 1) ∧ w' = w := by
  go_enter Try.func15, Try.ntmps15
  go_wp2_with (go_at_call 20; refine (init_nil _ _ _ _ _).mono ?_; rintro e w1 ⟨rfl, rfl⟩)
  go_ret
  exact ⟨rfl, rfl⟩
end Go.Proofs.Ytlllbgmnheikgaa.St
