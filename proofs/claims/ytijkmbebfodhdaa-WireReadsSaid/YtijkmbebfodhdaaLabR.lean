/-
  Labels: equality.
-/
import Derived.Test.YtijkmbebfodhdaaLabA
namespace Go.Proofs.Ytijkmbebfodhdaa
open Go.RowKit
set_option linter.unusedSimpArgs false
set_option linter.unusedVariables false
set_option maxHeartbeats 400000
set_option maxRecDepth 20000

def eqLab (l : Int) (b : Nat) (l' : Int) (b' : Nat) : Bool := l == l' && b == b'
theorem run_equalL (l l' : Int) (b b' : Nat) (w : World) : (Op.equalIn 10000 26 (.agg #[.int .i64 l, .int .u64 (b : Int)]) (.agg #[.int .i64 l', .int .u64 (b' : Int)])).run Try.prog w =
    .ok (eqLab l b l' b') w := by
  go_simp
  unfold eqLab
  by_cases h1 : l = l' <;> by_cases h2 : b = b' <;> simp [h1, h2, Int.natCast_inj]
@[go_sem] theorem run_eqlL (l l' : Int) (b b' : Nat) (w : World) : (binOp .eql 26 (labV l b) (labV l' b')).run Try.prog w = .ok (.bool (eqLab l b l' b')) w := by
  rw [labV_eq, labV_eq, run_eql_struct, run_equalL]; rfl
@[go_sem] theorem run_guardL (op : BinOp) (x y : Operand) (l l' : Int) (b b' : Nat) (w : World) : (eqGuard op 26 x y (labV l b) (labV l' b')).run Try.prog w = .ok () w := by
  rw [labV_eq, labV_eq]
  exact run_eqGuard_agg w op _ x y _ _ (by kernel_rfl)
end Go.Proofs.Ytijkmbebfodhdaa
