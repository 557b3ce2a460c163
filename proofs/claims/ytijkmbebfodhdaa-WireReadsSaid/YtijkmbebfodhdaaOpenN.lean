/-
  How a slice of ints that came in is read; a load out of what was there.
-/
import Derived.Test.YtijkmbebfodhdaaOpen
import Derived.Test.YtijkmbebfodhdaaEqI
import Derived.Test.YtijkmbebfodhdaaLabR
import Derived.ChangeSlices
namespace Go.Proofs.Ytijkmbebfodhdaa
open Go.RowKit
set_option linter.unusedSimpArgs false
set_option linter.unusedVariables false
set_option maxRecDepth 20000

/-- The n ints of a slice, in the world W. -/
def IntsAt (W : World) (c : Option Addr) (n : Nat) : Prop := ∀ i, i < n → ∃ (a : Addr) (z : Int), c = some a ∧ W.cell? (a.add i) = some (.int .i64 z)
theorem open_ints5 {H : Type} {enc : TypeId × Value → H} {W : World} {c : Option Addr} {n cap : Nat} {d : DataW H} {p : List MemPlace}
    (h : DataW.Trod enc Try.prog W 0 (fun _ => true) true 49 (.slice c n cap) d p) : IntsAt W c n := by
  obtain ⟨fuel, hf⟩ := h
  have h1 : Try.prog.cellsOf 3 = 1 := by kernel_rfl
  rcases Go.ChangeShapes.open_ints (t := 49) (e := 3) (k := .i64) (by kernel_rfl) (by kernel_rfl) h1 hf with ⟨hcs, hx⟩ | ⟨a, len', cap', zs, hcs, _, hl, hm, hz, hx, hcell, hwz⟩
  · have hcs' : [Value.slice c n cap] = [.slice none 0 0] := hcs
    simp at hcs'
    obtain ⟨rfl, rfl, rfl⟩ := hcs'
    intro i hi
    omega
  · have hcs' : [Value.slice c n cap] = [.slice (some a) len' cap'] := hcs
    simp at hcs'
    obtain ⟨rfl, rfl, rfl⟩ := hcs'
    intro i hi
    simp only [if_true] at hz
    exact ⟨a, _, rfl, hcell i (by omega)⟩
theorem cell_old {w0 w : World} {L : List (Nat × Obj)} (hm : Mem w0 [] L w) {ad : Addr} {v : Value} (h : w0.cell? ad = some v) : w.cell? ad = some v := by
  have hb : ad.block < w0.heap.size := by
    rcases Nat.lt_or_ge ad.block w0.heap.size with h' | h'
    · exact h'
    · simp [World.cell?, Array.getElem?_eq_none h'] at h
  have he := hm.old ad.block hb (by simp)
  simp only [World.cell?] at h ⊢
  rw [he]; exact h
section
variable {P : Program} {ops : Array Oper} {Q : Exit → Act → World → Prop} {rest : List Oper} {a : Act} {w : World} {dst : Option Tmp} {ty : TypeId} {pos : String} {aft : Array Edge} {gd : Option (Nat × Bool)}
theorem wl_loadOld {T : TypeId} {x : Operand} {ad : Addr} {v : Value} {d : TypeDesc} (hw : Region.wanted ⟨dst, .load T x, ty, pos, aft, gd⟩ (yielded ops a.tmps) = true) (hx : a.eval x = .pointer (some ad)) (hcell : w.cell? ad = some v)
    (hu : P.underlying T = some d) (hd : (match d with | .struct _ | .array _ _ => true | _ => false) = false) (h : wpList P ops Q rest (a.put dst v) w) : wpList P ops Q (⟨dst, .load T x, ty, pos, aft, gd⟩ :: rest) a w := by
  have hagg : (isAgg T).run P w = .ok false w := by
    unfold isAgg
    rw [Sem.run_bind, run_underlying hu w]
    cases d <;> simp_all
  have hr : (execOp a.eval ⟨dst, .load T x, ty, pos, aft, gd⟩).run P w = .ok (.value v) w := by
    unfold execOp
    simp [hx, Instr.loadAt, Instr.sureAddr, Sem.run_bind, loadVar, hagg, hcell]
  exact wl_op hw fun K hK => ow_value hr (hK _ _ h)
end
section
variable {dst : Option Nat} {T ty : TypeId} {pos : String} {aft : Array Edge} {gd : Option (Nat × Bool)}
theorem exec_neqID (ρ : Operand → Value) (N : Nat) (x y : Operand) (hx : ρ x = idV N) (hy : ρ y = idV N) (w : World) : (execOp ρ ⟨dst, .binOp .neq 24 x y T, ty, pos, aft, gd⟩).run Try.prog w = .ok (.value (.bool false)) w := by
  have hq := run_equalID N N w
  rw [eqId_refl] at hq
  have heq : (binOp .neq 24 (idV N) (idV N)).run Try.prog w = .ok (.bool false) w := by
    rw [idV_eq, run_neq_struct, hq]; rfl
  have hg := run_guardID .neq x y N N w
  unfold execOp
  simp only [hx, hy]
  go_simp
theorem exec_neqL (ρ : Operand → Value) (l : Int) (b : Nat) (x y : Operand) (hx : ρ x = labV l b) (hy : ρ y = labV l b) (w : World) : (execOp ρ ⟨dst, .binOp .neq 26 x y T, ty, pos, aft, gd⟩).run Try.prog w = .ok (.value (.bool false)) w := by
  have hq := run_equalL l l b b w
  rw [show eqLab l b l b = true from by simp [eqLab]] at hq
  have heq : (binOp .neq 26 (labV l b) (labV l b)).run Try.prog w = .ok (.bool false) w := by
    rw [labV_eq, run_neq_struct, hq]; rfl
  have hg := run_guardL .neq x y l l b b w
  unfold execOp
  simp only [hx, hy]
  go_simp
end
end Go.Proofs.Ytijkmbebfodhdaa
