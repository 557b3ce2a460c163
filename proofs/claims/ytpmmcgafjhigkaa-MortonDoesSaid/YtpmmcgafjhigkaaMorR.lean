/-
  Rectangles: equality.
-/
import Derived.Test.YtpmmcgafjhigkaaMorB
import Derived.Test.YtpmmcgafjhigkaaLabR
namespace Go.Proofs.Ytpmmcgafjhigkaa
open Go.RowKit
set_option linter.unusedSimpArgs false
set_option linter.unusedVariables false
set_option maxHeartbeats 400000
set_option maxRecDepth 20000

def eqR (a b c d a' b' c' d' : Nat) : Bool := a == a' && (b == b' && (c == c' && d == d'))
theorem run_equalR (a b c d a' b' c' d' : Nat) (w : World) : (Op.equalIn 10000 30 (.agg #[.int .u32 (a : Int), .int .u32 (b : Int), .int .u32 (c : Int), .int .u32 (d : Int)]) (.agg #[.int .u32 (a' : Int), .int .u32 (b' : Int), .int .u32 (c' : Int), .int .u32 (d' : Int)])).run Try.prog w =
    .ok (eqR a b c d a' b' c' d') w := by
  go_simp
  unfold eqR
  by_cases h1 : a = a' <;> by_cases h2 : b = b' <;> by_cases h3 : c = c' <;> by_cases h4 : d = d' <;> simp [h1, h2, h3, h4, Int.natCast_inj]
@[go_sem] theorem run_eqlR (a b c d a' b' c' d' : Nat) (w : World) : (binOp .eql 30 (rectV a b c d) (rectV a' b' c' d')).run Try.prog w = .ok (.bool (eqR a b c d a' b' c' d')) w := by
  rw [rectV_eq, rectV_eq, run_eql_struct, run_equalR]; rfl
@[go_sem] theorem run_guardR (op : BinOp) (x y : Operand) (a b c d a' b' c' d' : Nat) (w : World) : (eqGuard op 30 x y (rectV a b c d) (rectV a' b' c' d')).run Try.prog w = .ok () w := by
  rw [rectV_eq, rectV_eq]
  exact run_eqGuard_agg w op _ x y _ _ (by kernel_rfl)
end Go.Proofs.Ytpmmcgafjhigkaa
