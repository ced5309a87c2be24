/-
  The plain law of IntsBits: what is done bit by bit of any two, at all sizes, are the reference's. No condition.
-/
import Derived.Test.YtajmjmnlapplaaaDoorPInmx29
import Derived.Test.YtajmjmnlapplaaaDoorA5
namespace Go.Proofs.YtajmjmnlapplaaaDoor.Pure
set_option linter.unusedVariables false
open Go.RowKit Go.Proofs.YtajmjmnlapplaaaDoor.PInts Go.Proofs.YtajmjmnlapplaaaDoor.PInm Go.Proofs.YtajmjmnlapplaaaDoorW.PrintWords Go.Proofs.YtajmjmnlapplaaaDoorW.PrintLast
theorem IntsBits_op (n a b op : Int) (ho : 8 ≤ op ∧ op ≤ 10) (a0 : 0 ≤ a) (a1 : a < 18446744073709551616) (b0 : 0 ≤ b) (b1 : b < 18446744073709551616)
    (e : Ev (fun k => bodkinlaw02_IntsBits.l1 k a b n (op + 1)) true) : Ev (fun k => bodkinlaw02_IntsBits.l1 k a b n op) true := by
  obtain ⟨r, h1, h2⟩ := agree n op a b a0 a1 b0 b1
  refine ev_then 4 (fun k hk => ?_) e
  conv => lhs; unfold bodkinlaw02_IntsBits.l1
  rw [if_pos (by omega), h1 k hk, h2, wr_i (op + 1) (by omega) (by omega)]
  simp only [Option.bind_some, if_true]
theorem IntsBits_ops (n a b : Int) (a0 : 0 ≤ a) (a1 : a < 18446744073709551616) (b0 : 0 ≤ b) (b1 : b < 18446744073709551616) (d : Nat) :
    ∀ op : Int, 8 ≤ op → op + d = 11 → Ev (fun k => bodkinlaw02_IntsBits.l1 k a b n 11) true → Ev (fun k => bodkinlaw02_IntsBits.l1 k a b n op) true := by
  induction d with
  | zero => intro op h1 h2 e; rw [show op = 11 from by omega]; exact e
  | succ d ih => intro op h1 h2 e; exact IntsBits_op n a b op (by omega) a0 a1 b0 b1 (ih (op + 1) (by omega) (by omega) e)
theorem IntsBits_size (n a b : Int) (h : R n) (a0 : 0 ≤ a) (a1 : a < 18446744073709551616) (b0 : 0 ≤ b) (b1 : b < 18446744073709551616)
    (e : Ev (fun k => bodkinlaw02_IntsBits.l0 k a b (n * 2)) true) : Ev (fun k => bodkinlaw02_IntsBits.l0 k a b n) true := by
  have hn : 8 ≤ n ∧ n ≤ 64 := by unfold R at h; omega
  have e1 : Ev (fun k => bodkinlaw02_IntsBits.l1 k a b n 11) true := by
    refine ev_then 0 (fun k _ => ?_) e
    conv => lhs; unfold bodkinlaw02_IntsBits.l1
    rw [if_neg (by omega), wr_i (n * 2) (by omega) (by omega)]
  refine ev_then 0 (fun k _ => ?_) (IntsBits_ops n a b a0 a1 b0 b1 3 8 (by omega) (by omega) e1)
  conv => lhs; unfold bodkinlaw02_IntsBits.l0
  rw [if_pos (by omega)]
theorem IntsBits : bodkinlaw02_IntsBits.Pure := by
  intro a b ha hb
  have ha := bounds_u64 ha
  have hb := bounds_u64 hb
  have e : Ev (fun k => bodkinlaw02_IntsBits.l0 k a b 128) true := ⟨1, fun k hk => by
    obtain ⟨k, rfl⟩ : ∃ m, k = m + 1 := ⟨k - 1, by omega⟩
    simp only [bodkinlaw02_IntsBits.l0]
    rw [if_neg (by decide)]⟩
  have s8 := IntsBits_size 8 a b (by unfold R; omega) ha.1 (by omega) hb.1 (by omega)
  have s16 := IntsBits_size 16 a b (by unfold R; omega) ha.1 (by omega) hb.1 (by omega)
  have s32 := IntsBits_size 32 a b (by unfold R; omega) ha.1 (by omega) hb.1 (by omega)
  have s64 := IntsBits_size 64 a b (by unfold R; omega) ha.1 (by omega) hb.1 (by omega)
  rw [show (8 : Int) * 2 = 16 from rfl] at s8
  rw [show (16 : Int) * 2 = 32 from rfl] at s16
  rw [show (32 : Int) * 2 = 64 from rfl] at s32
  rw [show (64 : Int) * 2 = 128 from rfl] at s64
  obtain ⟨K, hK⟩ := s8 (s16 (s32 (s64 e)))
  obtain ⟨J, h1, h2⟩ : ∃ J, K ≤ J ∧ 20 ≤ J := ⟨K + 20, by omega, by omega⟩
  refine ⟨J, ?_⟩
  unfold bodkinlaw02_IntsBits.f
  rw [awake_at J h2]
  simp only [Option.bind_some, if_true]
  exact hK J h1
end Go.Proofs.YtajmjmnlapplaaaDoor.Pure
