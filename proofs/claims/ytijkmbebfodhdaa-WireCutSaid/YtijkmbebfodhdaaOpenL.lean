/-
  How a label that came in is read.
-/
import Derived.Test.YtijkmbebfodhdaaOpen
import Derived.Test.YtijkmbebfodhdaaLabA
import Derived.Lib.SmallJoins
namespace Go.Proofs.Ytijkmbebfodhdaa
open Go.ChangeShapes Go.WideShapes Go.ChangeAt Go.RowKit
set_option linter.unusedVariables false
set_option maxRecDepth 20000

def nofield : Field := default
noncomputable def lf (i : Nat) : Field := labFields.getD i nofield
theorem undLabel2 : Try.prog.underlying 26 = some (.struct #[lf 0, lf 1]) := by kernel_rfl
theorem lf0 : (lf 0).type = 3 := by kernel_rfl
theorem lf1 : (lf 1).type = 22 := by kernel_rfl
theorem open_label {H : Type} {enc : TypeId × Value → H} {W : World} {base : Nat} {s : Nat → Bool} {held : Bool} {v : Value} {d : DataW H} {p : List MemPlace}
    (hv : Value.okWide Try.prog W .any base 26 v) (h : DataW.Trod enc Try.prog W 0 s held 26 v d p) : ∃ (l : Int) (b : Nat), v = labV l b ∧ (b < 2 ^ 64 ∧ (Lit.int .i64 l).wf = true) := by
  obtain ⟨v0, v1, y0, y1, n, rfl, _, _, h0, h1⟩ := Go.Joins.open_agg2 undLabel2 (by kernel_rfl) (by kernel_rfl) hv h
  rw [lf0] at h0
  rw [lf1] at h1
  obtain ⟨l, e0, _, wl⟩ := DataW.trod_int undInt h0
  obtain ⟨b, e1, _, wb⟩ := DataW.trod_int undU64 h1
  obtain ⟨b, rfl, hb⟩ := nat_u64 b wb
  simp only [List.cons.injEq, and_true] at e0 e1
  exact ⟨l, b, by rw [labV_eq, e0, e1], hb, wl⟩
end Go.Proofs.Ytijkmbebfodhdaa
