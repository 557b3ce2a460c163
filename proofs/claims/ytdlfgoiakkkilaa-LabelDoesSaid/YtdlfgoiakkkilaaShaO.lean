/-
  Sums: equality of two places, of two states.
-/
import Derived.Test.YtdlfgoiakkkilaaShaB
import Derived.ChangeKeysEq
import Derived.DeepKeys
namespace Go.Proofs.Ytdlfgoiakkkilaa
open Go.RowKit
set_option linter.unusedSimpArgs false
set_option linter.unusedVariables false
set_option maxHeartbeats 400000
set_option maxRecDepth 20000

def eqId (a b : Nat) : Bool := (List.range 20).all fun i => ((dig a i : Nat) : Int) == ((dig b i : Nat) : Int)
theorem eqId_refl (a : Nat) : eqId a a = true := by unfold eqId; simp
theorem run_equalID (a b : Nat) (w : World) : (Op.equalIn 10000 29 (.agg (idC a)) (.agg (idC b))).run Try.prog w = .ok (eqId a b) w := by
  rw [run_equalInts w 9998 undID undByteI sizeByteI (idC a) (idC b) (fun i => ((dig a i : Nat) : Int)) (fun i => ((dig b i : Nat) : Int)) (fun i hi => ⟨rowOf_get _ _ i hi, rowOf_get _ _ i hi⟩)]
  rfl
@[go_sem] theorem run_eqlID (a b : Nat) (w : World) : (binOp .eql 29 (idV a) (idV b)).run Try.prog w = .ok (.bool (eqId a b)) w := by
  rw [idV_eq, idV_eq, run_eql_struct, run_equalID]; rfl
@[go_sem] theorem run_guardID (op : BinOp) (x y : Operand) (a b : Nat) (w : World) : (eqGuard op 29 x y (idV a) (idV b)).run Try.prog w = .ok () w := by
  rw [idV_eq, idV_eq]
  exact run_eqGuard_agg w op _ x y _ _ (by kernel_rfl)
def stF (a b c d e : Nat) (i : Nat) : Int := match i with | 0 => a | 1 => b | 2 => c | 3 => d | _ => e
theorem run_equalState (a b c d e : Nat) (w : World) : (Op.equalIn 10000 52 (.agg #[.int .u32 (a : Int), .int .u32 (b : Int), .int .u32 (c : Int), .int .u32 (d : Int), .int .u32 (e : Int)]) (.agg #[.int .u32 (a : Int), .int .u32 (b : Int), .int .u32 (c : Int), .int .u32 (d : Int), .int .u32 (e : Int)])).run Try.prog w = .ok true w := by
  rw [run_equalInts w 9998 undState undU32 sizeU32 _ _ (stF a b c d e) (stF a b c d e) (fun i hi => by
    match i, hi with
    | 0, _ => exact ⟨rfl, rfl⟩
    | 1, _ => exact ⟨rfl, rfl⟩
    | 2, _ => exact ⟨rfl, rfl⟩
    | 3, _ => exact ⟨rfl, rfl⟩
    | 4, _ => exact ⟨rfl, rfl⟩)]
  simp
@[go_sem high] theorem run_eqlState (a b c d e : Nat) (w : World) : (binOp .eql 52 (.agg #[.int .u32 (a : Int), .int .u32 (b : Int), .int .u32 (c : Int), .int .u32 (d : Int), .int .u32 (e : Int)]) (.agg #[.int .u32 (a : Int), .int .u32 (b : Int), .int .u32 (c : Int), .int .u32 (d : Int), .int .u32 (e : Int)])).run Try.prog w = .ok (.bool true) w := by
  rw [run_eql_struct, run_equalState]; rfl
@[go_sem high] theorem run_guardState (op : BinOp) (x y : Operand) (a b : Array Value) (w : World) : (eqGuard op 52 x y (.agg a) (.agg b)).run Try.prog w = .ok () w :=
  run_eqGuard_agg w op _ x y _ _ (by kernel_rfl)
@[go_sem high] theorem run_eqlSt (a b c d e : Nat) (w : World) : (binOp .eql 52 (stV a b c d e) (stV a b c d e)).run Try.prog w = .ok (.bool true) w := by
  rw [stV_eq, run_eqlState]
@[go_sem high] theorem run_guardSt (op : BinOp) (x y : Operand) (a b c d e a' b' c' d' e' : Nat) (w : World) : (eqGuard op 52 x y (stV a b c d e) (stV a' b' c' d' e')).run Try.prog w = .ok () w := by
  rw [stV_eq, stV_eq, run_guardState]
end Go.Proofs.Ytdlfgoiakkkilaa
