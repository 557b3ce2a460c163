/-
  The heap's laws, continued: a row that is loaded ahead of a store to it.
-/
import Derived.Test.YthcpdjlomdchdaaMem10
namespace Go.Proofs.Ythcpdjlomdchdaa
open Go.RowKit
set_option linter.unusedSimpArgs false
set_option linter.unusedVariables false

theorem ow_load {P : Program} {Q : Exit → Act → World → Prop} {a : Act} {w0 w : World} {own : List Nat} {L : List (Nat × Obj)} {dst : Option Tmp} {ty : TypeId} {pos : String} {aft : Array Edge} {gd : Option (Nat × Bool)} {K : Act → World → Prop}
    {T U : TypeId} {x : Operand} {b i : Nat} {cs : Array Value} {fr : Nat × Nat} {d : TypeDesc} (hm : Mem w0 own L w) (hL : L[i]? = some (b, .cells cs U fr)) (hx : a.eval x = .pointer (some ⟨b, 0, none⟩))
    (hu : P.underlying T = some d) (hd : (match d with | .struct _ | .array _ _ => true | _ => false) = true) (hi : (P.info? T).map (·.size) = some cs.size)
    (h : K (a.put dst (.agg cs)) w) : Oper.wp P ⟨dst, .load T x, ty, pos, aft, gd⟩ a w K Q := by
  unfold Oper.wp
  rw [ld_row hL hx hu hd hi w hm]
  exact h
end Go.Proofs.Ythcpdjlomdchdaa
