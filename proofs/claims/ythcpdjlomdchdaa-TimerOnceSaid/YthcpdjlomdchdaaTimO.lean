/-
  How a slice of ints that came in is read.
-/
import Derived.Test.YthcpdjlomdchdaaTimI
import Derived.Test.YthcpdjlomdchdaaOpen
import Derived.ChangeSlices
namespace Go.Proofs.Ythcpdjlomdchdaa
open Go.RowKit
set_option linter.unusedSimpArgs false
set_option linter.unusedVariables false
set_option maxRecDepth 20000

/-- The n ints of a slice, in the world W. -/
def IntsAt (W : World) (c : Option Addr) (n : Nat) : Prop := ∀ i, i < n → ∃ (a : Addr) (z : Int), c = some a ∧ W.cell? (a.add i) = some (.int .i64 z)
theorem open_ints5 {H : Type} {enc : TypeId × Value → H} {W : World} {c : Option Addr} {n cap : Nat} {d : DataW H} {p : List MemPlace}
    (h : DataW.Trod enc Try.prog W 0 (fun _ => true) true 34 (.slice c n cap) d p) : IntsAt W c n := by
  obtain ⟨fuel, hf⟩ := h
  have h1 : Try.prog.cellsOf 3 = 1 := by kernel_rfl
  rcases Go.ChangeShapes.open_ints (t := 34) (e := 3) (k := .i64) (by kernel_rfl) (by kernel_rfl) h1 hf with ⟨hcs, hx⟩ | ⟨a, len', cap', zs, hcs, _, hl, hm, hz, hx, hcell, hwz⟩
  · have hcs' : [Value.slice c n cap] = [.slice none 0 0] := hcs
    simp at hcs'
    obtain ⟨rfl, rfl, rfl⟩ := hcs'
    intro i hi
    omega
  · have hcs' : [Value.slice c n cap] = [.slice (some a) len' cap'] := hcs
    simp at hcs'
    obtain ⟨rfl, rfl, rfl⟩ := hcs'
    intro i hi
    simp only [if_true] at hz
    exact ⟨a, _, rfl, hcell i (by omega)⟩
/-- Its ints, by a function. -/
theorem IntsAt.view {W : World} {c : Option Addr} {n : Nat} (h : IntsAt W c n) : ∃ z : Nat → Int, IntsV W c n z := by
  refine ⟨fun i => match c with | some a => (match W.cell? (a.add i) with | some (.int _ z) => z | _ => 0) | none => 0, fun i hi => ?_⟩
  obtain ⟨a, z, rfl, hz⟩ := h i hi
  exact ⟨a, rfl, by simp only [hz]⟩
end Go.Proofs.Ythcpdjlomdchdaa
