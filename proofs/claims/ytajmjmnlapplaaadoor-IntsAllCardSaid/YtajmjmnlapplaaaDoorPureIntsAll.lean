/-
  The plain law of IntsAll: what any two come to, and how they stand, by all operations, at all sizes, is the reference's. No condition.
-/
import Derived.Test.YtajmjmnlapplaaaDoorPInmx32
import Derived.Test.YtajmjmnlapplaaaDoorPureRel
namespace Go.Proofs.YtajmjmnlapplaaaDoor.Pure
set_option linter.unusedVariables false
open Go.RowKit Go.Proofs.YtajmjmnlapplaaaDoor.PInts Go.Proofs.YtajmjmnlapplaaaDoor.PInm Go.Proofs.YtajmjmnlapplaaaDoorW.PrintWords Go.Proofs.YtajmjmnlapplaaaDoorW.PrintLast
theorem IntsAll_bin (n a b op : Int) (ho : 1 ≤ op ∧ op ≤ 25) (a0 : 0 ≤ a) (a1 : a < 18446744073709551616) (b0 : 0 ≤ b) (b1 : b < 18446744073709551616)
    (e : Ev (fun k => bodkinlaw02_IntsAll.l1 k a b n (op + 1)) true) : Ev (fun k => bodkinlaw02_IntsAll.l1 k a b n op) true := by
  obtain ⟨r, h1, h2⟩ := agree n op a b a0 a1 b0 b1
  refine ev_then 4 (fun k hk => ?_) e
  conv => lhs; unfold bodkinlaw02_IntsAll.l1
  rw [if_pos (by omega), h1 k hk, h2, wr_i (op + 1) (by omega) (by omega)]
  simp only [Option.bind_some, if_true]
theorem IntsAll_bins (n a b : Int) (a0 : 0 ≤ a) (a1 : a < 18446744073709551616) (b0 : 0 ≤ b) (b1 : b < 18446744073709551616) (d : Nat) :
    ∀ op : Int, 1 ≤ op → op + d = 26 → Ev (fun k => bodkinlaw02_IntsAll.l1 k a b n 26) true → Ev (fun k => bodkinlaw02_IntsAll.l1 k a b n op) true := by
  induction d with
  | zero => intro op h1 h2 e; rw [show op = 26 from by omega]; exact e
  | succ d ih => intro op h1 h2 e; exact IntsAll_bin n a b op (by omega) a0 a1 b0 b1 (ih (op + 1) (by omega) (by omega) e)
theorem IntsAll_rel (n a b op : Int) (ho : 1 ≤ op ∧ op ≤ 10) (a0 : 0 ≤ a) (a1 : a < 18446744073709551616) (b0 : 0 ≤ b) (b1 : b < 18446744073709551616)
    (e : Ev (fun k => bodkinlaw02_IntsAll.l2 k a b n (op + 1)) true) : Ev (fun k => bodkinlaw02_IntsAll.l2 k a b n op) true := by
  obtain ⟨r, h1⟩ := agree_rel n op a b a0 a1 b0 b1
  refine ev_then 101 (fun k hk => ?_) e
  conv => lhs; unfold bodkinlaw02_IntsAll.l2
  rw [if_pos (by omega), (h1 k hk).1, (h1 k hk).2, wr_i (op + 1) (by omega) (by omega)]
  simp only [Option.bind_some, if_true, bne_self_eq_false, Bool.false_eq_true, if_false]
theorem IntsAll_rels (n a b : Int) (a0 : 0 ≤ a) (a1 : a < 18446744073709551616) (b0 : 0 ≤ b) (b1 : b < 18446744073709551616) (d : Nat) :
    ∀ op : Int, 1 ≤ op → op + d = 11 → Ev (fun k => bodkinlaw02_IntsAll.l2 k a b n 11) true → Ev (fun k => bodkinlaw02_IntsAll.l2 k a b n op) true := by
  induction d with
  | zero => intro op h1 h2 e; rw [show op = 11 from by omega]; exact e
  | succ d ih => intro op h1 h2 e; exact IntsAll_rel n a b op (by omega) a0 a1 b0 b1 (ih (op + 1) (by omega) (by omega) e)
theorem IntsAll_size (n a b : Int) (h : R n) (a0 : 0 ≤ a) (a1 : a < 18446744073709551616) (b0 : 0 ≤ b) (b1 : b < 18446744073709551616)
    (e : Ev (fun k => bodkinlaw02_IntsAll.l0 k a b (n * 2)) true) : Ev (fun k => bodkinlaw02_IntsAll.l0 k a b n) true := by
  have hn : 8 ≤ n ∧ n ≤ 64 := by unfold R at h; omega
  have e2 : Ev (fun k => bodkinlaw02_IntsAll.l2 k a b n 11) true := by
    refine ev_then 0 (fun k _ => ?_) e
    conv => lhs; unfold bodkinlaw02_IntsAll.l2
    rw [if_neg (by omega), wr_i (n * 2) (by omega) (by omega)]
  have e1 : Ev (fun k => bodkinlaw02_IntsAll.l1 k a b n 26) true := by
    refine ev_then 0 (fun k _ => ?_) (IntsAll_rels n a b a0 a1 b0 b1 10 1 (by omega) (by omega) e2)
    conv => lhs; unfold bodkinlaw02_IntsAll.l1
    rw [if_neg (by omega)]
  refine ev_then 0 (fun k _ => ?_) (IntsAll_bins n a b a0 a1 b0 b1 25 1 (by omega) (by omega) e1)
  conv => lhs; unfold bodkinlaw02_IntsAll.l0
  rw [if_pos (by omega)]
theorem IntsAll : bodkinlaw02_IntsAll.Pure := by
  intro a b ha hb
  have ha := bounds_u64 ha
  have hb := bounds_u64 hb
  have e : Ev (fun k => bodkinlaw02_IntsAll.l0 k a b 128) true := ⟨1, fun k hk => by
    obtain ⟨k, rfl⟩ : ∃ m, k = m + 1 := ⟨k - 1, by omega⟩
    simp only [bodkinlaw02_IntsAll.l0]
    rw [if_neg (by decide)]⟩
  have s8 := IntsAll_size 8 a b (by unfold R; omega) ha.1 (by omega) hb.1 (by omega)
  have s16 := IntsAll_size 16 a b (by unfold R; omega) ha.1 (by omega) hb.1 (by omega)
  have s32 := IntsAll_size 32 a b (by unfold R; omega) ha.1 (by omega) hb.1 (by omega)
  have s64 := IntsAll_size 64 a b (by unfold R; omega) ha.1 (by omega) hb.1 (by omega)
  rw [show (8 : Int) * 2 = 16 from rfl] at s8
  rw [show (16 : Int) * 2 = 32 from rfl] at s16
  rw [show (32 : Int) * 2 = 64 from rfl] at s32
  rw [show (64 : Int) * 2 = 128 from rfl] at s64
  obtain ⟨K, hK⟩ := s8 (s16 (s32 (s64 e)))
  obtain ⟨J, h1, h2⟩ : ∃ J, K ≤ J ∧ 20 ≤ J := ⟨K + 20, by omega, by omega⟩
  refine ⟨J, ?_⟩
  unfold bodkinlaw02_IntsAll.f
  rw [awake_at J h2]
  simp only [Option.bind_some, if_true]
  exact hK J h1
end Go.Proofs.YtajmjmnlapplaaaDoor.Pure
