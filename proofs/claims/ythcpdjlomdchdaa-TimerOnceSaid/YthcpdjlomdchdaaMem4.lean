/-
  The symbolic heap, continued: a variable of more cells that lies inside a block.
-/
import Derived.Test.YthcpdjlomdchdaaMem2
import Derived.Test.YthcpdjlomdchdaaMem3
namespace Go.Proofs.Ythcpdjlomdchdaa
open Go.RowKit
set_option linter.unusedSimpArgs false
set_option linter.unusedVariables false
section
variable {P : Program} {ops : Array Oper} {Q : Exit → Act → World → Prop} {rest : List Oper} {a : Act} {w0 w : World} {own : List Nat} {L : List (Nat × Obj)}
  {dst : Option Tmp} {ty : TypeId} {pos : String} {aft : Array Edge} {gd : Option (Nat × Bool)}

theorem Mem.range (hm : Mem w0 own L w) {i b off : Nat} {cs : Array Value} {U : TypeId} {fr : Nat × Nat} (hL : L[i]? = some (b, .cells cs U fr)) {vs : List Value}
    (hv : ∀ j v, vs[j]? = some v → cs[off + j]? = some v) : w.rangeAt b off vs := fun j v h => by
  rw [hm.cell hL]; exact hv j v h

theorem wl_loadMid {T U : TypeId} {x : Operand} {b i off : Nat} {cs : Array Value} {vs : List Value} {fr : Nat × Nat} {d : TypeDesc} (hw : Region.wanted ⟨dst, .load T x, ty, pos, aft, gd⟩ (yielded ops a.tmps) = true)
    (hm : Mem w0 own L w) (hL : L[i]? = some (b, .cells cs U fr)) (hx : a.eval x = .pointer (some ⟨b, off, none⟩)) (hv : ∀ j v, vs[j]? = some v → cs[off + j]? = some v)
    (hu : P.underlying T = some d) (hd : d.isRow = true) (hi : (P.info? T).map (·.size) = some vs.length)
    (h : wpList P ops Q rest (a.put dst (.agg vs.toArray)) w) : wpList P ops Q (⟨dst, .load T x, ty, pos, aft, gd⟩ :: rest) a w :=
  wl_op hw fun K hK => wp_load_mid T x rfl b off hx vs d (hm.range hL hv) hu hd hi (hK _ _ h)

theorem wl_buildSlice {T E : TypeId} {sz bytes : Nat} {z : Value} {len : Nat} {parts : Array (Nat × Operand)} {ps : List (Nat × Value)} {cells : Array Value} (hw : Region.wanted ⟨dst, .buildSlice T len parts, ty, pos, aft, gd⟩ (yielded ops a.tmps) = true)
    (hm : Mem w0 own L w) (hel : El P T E sz bytes z) (h0 : len * sz ≠ 0) (hb : len * sz ≤ 16777216)
    (hp : (parts.map fun (i, x) => (i, a.eval x)).toList = ps) (hc : Instr.fill (fun i => some (i * sz, sz)) ((Array.range (len * sz)).map fun i => z.cells[i % z.cells.size]!) ps = some cells)
    (h : ∀ g w', Mem w0 own ((g, .cells cells E (0, 0)) :: L) w' → wpList P ops Q rest (a.put dst (.slice (some ⟨g, 0, none⟩) len len)) w') : wpList P ops Q (⟨dst, .buildSlice T len parts, ty, pos, aft, gd⟩ :: rest) a w :=
  wl_op hw fun K hK => ow_buildSlice hm hel h0 hb hp hc fun g w' hm' => hK _ _ (h g w' hm')
end
end Go.Proofs.Ythcpdjlomdchdaa
