/-
  How a state that came in is read; a place is itself.
-/
import Derived.Test.YtdlfgoiakkkilaaOpen
import Derived.Test.YtdlfgoiakkkilaaShaO
import Derived.Test.YtdlfgoiakkkilaaMem12
import Derived.Test.YtdlfgoiakkkilaaShaN
namespace Go.Proofs.Ytdlfgoiakkkilaa
open Go.ChangeShapes Go.WideShapes Go.ChangeAt Go.RowKit
set_option linter.unusedVariables false
set_option maxRecDepth 20000

@[go_sem high] theorem run_eqlID_self (a : Nat) (w : World) : (binOp .eql 29 (idV a) (idV a)).run Try.prog w = .ok (.bool true) w := by
  rw [run_eqlID, eqId_refl]
/-- The cells of a state, by number. -/
def stI (a b c d e : Int) (i : Nat) : Int := match i with | 0 => a | 1 => b | 2 => c | 3 => d | _ => e
theorem run_equalStI (a b c d e : Int) (w : World) : (Op.equalIn 10000 52 (.agg #[.int .u32 a, .int .u32 b, .int .u32 c, .int .u32 d, .int .u32 e]) (.agg #[.int .u32 a, .int .u32 b, .int .u32 c, .int .u32 d, .int .u32 e])).run Try.prog w = .ok true w := by
  rw [run_equalInts w 9998 undState undU32 sizeU32 _ _ (stI a b c d e) (stI a b c d e) (fun i hi => by
    match i, hi with
    | 0, _ => exact ⟨rfl, rfl⟩
    | 1, _ => exact ⟨rfl, rfl⟩
    | 2, _ => exact ⟨rfl, rfl⟩
    | 3, _ => exact ⟨rfl, rfl⟩
    | 4, _ => exact ⟨rfl, rfl⟩)]
  simp
theorem run_eqlStI (a b c d e : Int) (w : World) : (binOp .eql 52 (.agg #[.int .u32 a, .int .u32 b, .int .u32 c, .int .u32 d, .int .u32 e]) (.agg #[.int .u32 a, .int .u32 b, .int .u32 c, .int .u32 d, .int .u32 e])).run Try.prog w = .ok (.bool true) w := by
  rw [run_eql_struct, run_equalStI]; rfl
section
variable {dst : Option Nat} {T ty : TypeId} {pos : String} {aft : Array Edge} {gd : Option (Nat × Bool)}
theorem exec_eqlID (ρ : Operand → Value) (N : Nat) (x y : Operand) (hx : ρ x = idV N) (hy : ρ y = idV N) (w : World) : (execOp ρ ⟨dst, .binOp .eql 29 x y T, ty, pos, aft, gd⟩).run Try.prog w = .ok (.value (.bool true)) w := by
  have heq := run_eqlID_self N w
  have hg := run_guardID .eql x y N N w
  unfold execOp
  simp only [hx, hy]
  go_simp
theorem exec_eqlSt (ρ : Operand → Value) (a b c d e : Int) (x y : Operand) (hx : ρ x = .agg #[.int .u32 a, .int .u32 b, .int .u32 c, .int .u32 d, .int .u32 e]) (hy : ρ y = .agg #[.int .u32 a, .int .u32 b, .int .u32 c, .int .u32 d, .int .u32 e]) (w : World) : (execOp ρ ⟨dst, .binOp .eql 52 x y T, ty, pos, aft, gd⟩).run Try.prog w = .ok (.value (.bool true)) w := by
  have heq := run_equalStI a b c d e w
  have hg := run_guardState .eql x y #[.int .u32 a, .int .u32 b, .int .u32 c, .int .u32 d, .int .u32 e] #[.int .u32 a, .int .u32 b, .int .u32 c, .int .u32 d, .int .u32 e] w
  unfold execOp
  simp only [hx, hy]
  go_simp
theorem exec_eqlStV (ρ : Operand → Value) (a b c d e : Nat) (x y : Operand) (hx : ρ x = stV a b c d e) (hy : ρ y = stV a b c d e) (w : World) : (execOp ρ ⟨dst, .binOp .eql 52 x y T, ty, pos, aft, gd⟩).run Try.prog w = .ok (.value (.bool true)) w := by
  have heq := run_eqlSt a b c d e w
  have hg := run_guardSt .eql x y a b c d e a b c d e w
  unfold execOp
  simp only [hx, hy]
  go_simp
end
theorem open_state {H : Type} {enc : TypeId × Value → H} {W : World} {base : Nat} {s : Nat → Bool} {held : Bool} {v : Value} {d : DataW H} {p : List MemPlace}
    (hv : Value.okWide Try.prog W .any base 52 v) (h : DataW.Trod enc Try.prog W 0 s held 52 v d p) : ∃ a : St, v = a.val ∧ a.ok := by
  unfold Value.okWide at hv
  rw [undState] at hv
  obtain ⟨cs, rfl, hcs, _⟩ := hv
  obtain ⟨fuel, hf⟩ := h
  obtain ⟨xs, m, rfl, _, hl, hxl, hx⟩ := DataW.trod_array undState hf
  have hc1 : Try.prog.cellsOf 50 = 1 := by kernel_rfl
  have hc20 : Try.prog.cellsOf 52 = 5 := by kernel_rfl
  rw [hc20] at hcs
  have each : ∀ i, i < 5 → ∃ n : Nat, n < 2 ^ 32 ∧ cs[i]? = some (.int .u32 (n : Int)) := fun i hi => by
    have h1 := hx i hi
    rw [hc1, Nat.mul_one] at h1
    have hsome : xs[i]? = some (xs[i]'(by omega)) := List.getElem?_eq_getElem _
    rw [hsome] at h1
    obtain ⟨n, e0, _, wn⟩ := DataW.trod_int undU32 h1
    have hw := bounds_u32 wn
    refine ⟨n.toNat, by omega, ?_⟩
    have e1 : (cs.toList.drop i).head? = some (.int .u32 n) := by
      have : ((Value.agg cs).cells.toList.drop i).take 1 = [.int .u32 n] := e0
      have hcells : (Value.agg cs).cells = cs := rfl
      rw [hcells] at this
      cases hd : cs.toList.drop i with
      | nil => rw [hd] at this; simp at this
      | cons x r => rw [hd] at this; simp at this; simp [this]
    rw [List.head?_drop] at e1
    rw [show ((n.toNat : Nat) : Int) = n from by omega]
    simpa using e1
  obtain ⟨a, ha, ea⟩ := each 0 (by omega)
  obtain ⟨b, hb, eb⟩ := each 1 (by omega)
  obtain ⟨c, hc, ec⟩ := each 2 (by omega)
  obtain ⟨d, hd, ed⟩ := each 3 (by omega)
  obtain ⟨e, he, ee⟩ := each 4 (by omega)
  refine ⟨⟨a, b, c, d, e⟩, ?_, ha, hb, hc, hd, he⟩
  rw [St.val_eq]
  congr 1
  apply Array.ext_getElem?
  intro i
  match i with
  | 0 => rw [ea]; rfl
  | 1 => rw [eb]; rfl
  | 2 => rw [ec]; rfl
  | 3 => rw [ed]; rfl
  | 4 => rw [ee]; rfl
  | i + 5 => rw [Array.getElem?_eq_none (by omega)]; rfl
end Go.Proofs.Ytdlfgoiakkkilaa
