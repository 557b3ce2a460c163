/-
  Places (as in chapter 1's texts): their values and their text.
-/
import Derived.Test.YtijkmbebfodhdaaMem2
import Derived.Test.YtijkmbebfodhdaaChecked
namespace Go.Proofs.Ytijkmbebfodhdaa
open Go.RowKit
set_option linter.unusedSimpArgs false
set_option linter.unusedVariables false
set_option maxHeartbeats 400000
set_option maxRecDepth 20000
attribute [local irreducible] wpQuiet wpList wpAnyH Calls

/-- Digit i (the highest is 0) of a number to the base 256, of twenty digits. -/
def dig (a i : Nat) : Nat := a / 256 ^ (19 - i) % 256
def idC (a : Nat) : Array Value := rowOf 20 fun i => .int .u8 ((dig a i : Nat) : Int)
@[irreducible] def idV (a : Nat) : Value := .agg (idC a)
theorem idV_eq (a : Nat) : idV a = .agg (idC a) := by unfold idV; rfl
theorem idC_size (a : Nat) : (idC a).size = 20 := rowOf_size _ _
theorem idC_one (a : Nat) : (idC a).all (·.oneCell') = true := rowOf_one _ _ fun _ _ => rfl
theorem idV_cells (a : Nat) : (idV a).cells = idC a := by rw [idV_eq]; rfl

theorem zeroID : (Try.prog.info? 24).bind (·.zero) = some (.agg (rowOf 20 fun _ => Value.int .u8 0)) := by
  unfold rowOf; kernel_rfl
theorem sizeID : (Try.prog.info? 24).map (·.size) = some 20 := by kernel_rfl
theorem sizeByteI : (Try.prog.info? 5).map (·.size) = some 1 := by kernel_rfl
theorem undID : Try.prog.underlying 24 = some (.array 20 5) := by kernel_rfl
theorem undByteI : Try.prog.underlying 5 = some (.int .u8) := by kernel_rfl

theorem dig_lt (a i : Nat) : dig a i < 256 := Nat.mod_lt _ (by omega)
/-- A digit's letter. -/
@[irreducible] def hexc (n : Nat) : Nat := if n < 10 then 48 + n else 87 + n
/-- Letter j of a place's text. -/
@[irreducible] def letter (a j : Nat) : Nat := hexc (if j % 2 = 0 then dig a (j / 2) / 16 else dig a (j / 2) % 16)
def textB (a : Nat) : ByteArray := bytesB 40 (letter a)

theorem elByteI : El Try.prog 71 5 1 1 (.int .u8 0) := El.mk (by kernel_rfl) (by kernel_rfl)
theorem undStrI : Try.prog.underlying 9 = some .string := by kernel_rfl
theorem undBytesI : Try.prog.underlying 71 = some (.slice 5) := by kernel_rfl

theorem hex_at : ∀ q : Fin 16, (({ data := #[48, 49, 50, 51, 52, 53, 54, 55, 56, 57, 97, 98, 99, 100, 101, 102] } : ByteArray)[q.1]?).map (fun b => b.toNat) = some (hexc q.1) := by
  unfold hexc; decide +kernel

@[go_sem high] theorem run_indexHex (q : Int) (h0 : 0 ≤ q) (h1 : q < 16) (w : World) : (Instr.index 9 (.string { data := #[48, 49, 50, 51, 52, 53, 54, 55, 56, 57, 97, 98, 99, 100, 101, 102] }) (.int .u8 q)).run Try.prog w = .ok (.int .u8 ((hexc q.toNat : Nat) : Int)) w := by
  have h := hex_at ⟨q.toNat, by omega⟩
  obtain ⟨b, hb, hv⟩ := Option.map_eq_some_iff.1 h
  simp only at hb hv
  simp [Instr.index, asIntOf, run_underlying undStrI, h0, hb, hv]

@[go_sem high] theorem run_indexID (a : Nat) (q : Int) (h0 : 0 ≤ q) (h1 : q < 20) (w : World) : (Instr.index 24 (idV a) (.int .i64 q)).run Try.prog w = .ok (.int .u8 ((dig a q.toNat : Nat) : Int)) w := by
  have hs := sizeByteI
  cases hi : Try.prog.info? 5 with
  | none => simp [hi] at hs
  | some it =>
    have hz : it.size = 1 := by simpa [hi] using hs
    have hp : (part 5 (idC a) q.toNat).run Try.prog w = .ok (.int .u8 ((dig a q.toNat : Nat) : Int)) w :=
      run_part_plain (P := Try.prog) w (by kernel_rfl) (rowOf_get _ _ _ (by omega))
    rw [idV_eq]
    simp [Instr.index, asIntOf, run_underlying undID, h0, h1, sizeOf, typeInfo, hi, hz, hp]

end Go.Proofs.Ytijkmbebfodhdaa
