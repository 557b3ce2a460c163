/-
  Equality of two places.
-/
import Derived.Test.YtijkmbebfodhdaaShaI
import Derived.Test.YtijkmbebfodhdaaMem12
import Derived.ChangeKeysEq
import Derived.DeepKeys
namespace Go.Proofs.Ytijkmbebfodhdaa
open Go.RowKit
set_option linter.unusedSimpArgs false
set_option linter.unusedVariables false
set_option maxHeartbeats 400000
set_option maxRecDepth 20000

def eqId (a b : Nat) : Bool := (List.range 20).all fun i => ((dig a i : Nat) : Int) == ((dig b i : Nat) : Int)
theorem eqId_refl (a : Nat) : eqId a a = true := by unfold eqId; simp
theorem run_equalID (a b : Nat) (w : World) : (Op.equalIn 10000 24 (.agg (idC a)) (.agg (idC b))).run Try.prog w = .ok (eqId a b) w := by
  rw [run_equalInts w 9998 undID undByteI sizeByteI (idC a) (idC b) (fun i => ((dig a i : Nat) : Int)) (fun i => ((dig b i : Nat) : Int)) (fun i hi => ⟨rowOf_get _ _ i hi, rowOf_get _ _ i hi⟩)]
  rfl
@[go_sem] theorem run_eqlID (a b : Nat) (w : World) : (binOp .eql 24 (idV a) (idV b)).run Try.prog w = .ok (.bool (eqId a b)) w := by
  rw [idV_eq, idV_eq, run_eql_struct, run_equalID]; rfl
@[go_sem] theorem run_guardID (op : BinOp) (x y : Operand) (a b : Nat) (w : World) : (eqGuard op 24 x y (idV a) (idV b)).run Try.prog w = .ok () w := by
  rw [idV_eq, idV_eq]
  exact run_eqGuard_agg w op _ x y _ _ (by kernel_rfl)
@[go_sem high] theorem run_eqlID_self (a : Nat) (w : World) : (binOp .eql 24 (idV a) (idV a)).run Try.prog w = .ok (.bool true) w := by
  rw [run_eqlID, eqId_refl]
theorem exec_eqlID {dst : Option Nat} {T ty : TypeId} {pos : String} {aft : Array Edge} {gd : Option (Nat × Bool)} (ρ : Operand → Value) (N : Nat) (x y : Operand) (hx : ρ x = idV N) (hy : ρ y = idV N) (w : World) : (execOp ρ ⟨dst, .binOp .eql 24 x y T, ty, pos, aft, gd⟩).run Try.prog w = .ok (.value (.bool true)) w := by
  have heq := run_eqlID_self N w
  have hg := run_guardID .eql x y N N w
  unfold execOp
  simp only [hx, hy]
  go_simp
end Go.Proofs.Ytijkmbebfodhdaa
