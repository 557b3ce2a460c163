/-
  The symbolic heap, continued: a string copied over a whole row of bytes.
-/
import Derived.Test.YtijkmbebfodhdaaMem7
import Derived.Test.YtijkmbebfodhdaaTxt
import Derived.Lib.BufferWrite
namespace Go.Proofs.Ytijkmbebfodhdaa
open Go.RowKit
set_option linter.unusedSimpArgs false
set_option linter.unusedVariables false
section
variable {P : Program} {ops : Array Oper} {Q : Exit → Act → World → Prop} {rest : List Oper} {a : Act} {w0 w : World} {own : List Nat} {L : List (Nat × Obj)}
  {dst : Option Tmp} {ty : TypeId} {pos : String} {aft : Array Edge} {gd : Option (Nat × Bool)} {K : Act → World → Prop}
theorem ow_copy_full {T U E V : TypeId} {x y : Operand} {g i n cap : Nat} {cur : Array Value} {f : Nat → Nat} (hm : Mem w0 own L w) (hu : P.underlying T = some (.slice E)) (hs : (P.info? E).map (·.size) = some 1) (hL : L[i]? = some (g, .cells cur V (0, 0)))
    (hx : a.eval x = .slice (some ⟨g, 0, none⟩) n cap) (hy : a.eval y = .string (bytesB n f)) (hf : ∀ j, j < n → f j < 256) (hn : cur.size = n)
    (h : ∀ w', Mem w0 own (L.set i (g, .cells (rowOf n fun j => .int .u8 ((f j : Nat) : Int)) V (0, 0))) w' → K (a.put dst (.int .i64 (n : Int))) w') : Oper.wp P ⟨dst, .call ⟨.builtin .copy, #[x, y], #[T, U]⟩, ty, pos, aft, gd⟩ a w K Q := by
  have hsz := bytesB_size n f
  have hr := Lib.run_copy_row_string (P := P) w T U ty E g 0 n cap (bytesB n f) cur V hu hs (hm.heap hL) (by omega) (by omega)
  have hrow : (cur.toList.take 0 ++ Lib.byteCells (bytesB n f).data.toList ++ cur.toList.drop (0 + (bytesB n f).size)).toArray = rowOf n fun j => .int .u8 ((f j : Nat) : Int) := by
    apply Array.ext_getElem?
    intro j
    have hl : (Lib.byteCells (bytesB n f).data.toList).length = n := by rw [Lib.byteCells_length, bytesB_toList]; simp
    have hd : cur.toList.drop (0 + (bytesB n f).size) = [] := by rw [List.drop_eq_nil_iff, Array.length_toList]; omega
    rw [hd, List.append_nil, List.take_zero, List.nil_append, List.getElem?_toArray]
    by_cases hj : j < n
    · rw [rowOf_get _ _ _ hj]
      simp only [Lib.byteCells, List.getElem?_map, bytesB_get hj, Option.map_some, UInt8.toNat_ofNat', Option.some.injEq, Value.int.injEq, true_and]
      have := hf j hj
      omega
    · rw [List.getElem?_eq_none (by omega), Array.getElem?_eq_none (by rw [rowOf_size]; omega)]
  rw [hrow, hsz] at hr
  unfold Oper.wp execOp
  simp only [resolve, invoke, builtin, Sem.run_bind, Sem.run_pure, Result.andThen_ok, List.map_toArray, List.map_cons, List.map_nil, hx, hy, hr]
  exact h _ (hm.setRow hL _)
end
end Go.Proofs.Ytijkmbebfodhdaa
