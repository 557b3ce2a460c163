/-
  The heap's laws, continued: an operation that answers a value and writes nothing, wherever it stands.
-/
import Derived.Test.YthcpdjlomdchdaaMem11
namespace Go.Proofs.Ythcpdjlomdchdaa
open Go.RowKit
set_option linter.unusedSimpArgs false
set_option linter.unusedVariables false

theorem ow_value {P : Program} {Q : Exit → Act → World → Prop} {a : Act} {w : World} {K : Act → World → Prop} {o : Oper} {v : Value}
    (h1 : (execOp a.eval o).run P w = .ok (.value v) w) (h : K (a.put o.dst v) w) : Oper.wp P o a w K Q := by
  unfold Oper.wp
  rw [h1]
  exact h
end Go.Proofs.Ythcpdjlomdchdaa
