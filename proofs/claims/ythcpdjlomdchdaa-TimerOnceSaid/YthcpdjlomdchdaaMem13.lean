/-
  The heap's laws, continued: a variable of more cells inside a block, in a walk and in a region that draws.
-/
import Derived.Test.YthcpdjlomdchdaaMem12
namespace Go.Proofs.Ythcpdjlomdchdaa
open Go.RowKit
set_option linter.unusedSimpArgs false
set_option linter.unusedVariables false
section
variable {P : Program} {ops : Array Oper} {Q : Exit → Act → World → Prop} {rest : List Oper} {a : Act} {w0 w : World} {own : List Nat} {L : List (Nat × Obj)}
  {dst : Option Tmp} {ty : TypeId} {pos : String} {aft : Array Edge} {gd : Option (Nat × Bool)}
theorem wlM {T U : TypeId} {x : Operand} {b i off : Nat} {cs cs' : Array Value} {fr : Nat × Nat} {d : TypeDesc} (hw : Region.wanted ⟨dst, .load T x, ty, pos, aft, gd⟩ (yielded ops a.tmps) = true := by rfl) (hm : Mem w0 own L w)
    (hx : a.eval x = .pointer (some ⟨b, off, none⟩) := by rfl) (hL : L[i]? = some (b, .cells cs U fr) := by with_reducible first | exact at0 | exact at1 | exact at2 | exact at3 | exact at4 | exact at5 | exact at6 | exact at7 | exact at8 | exact at9) (hv : ∀ j v, cs'.toList[j]? = some v → cs[off + j]? = some v)
    (hu : P.underlying T = some d) (hd : d.isRow = true := by rfl) (hi : (P.info? T).map (·.size) = some cs'.size)
    (h : wpList P ops Q rest (a.put dst (.agg cs')) w) : wpList P ops Q (⟨dst, .load T x, ty, pos, aft, gd⟩ :: rest) a w :=
  wl_loadMid (vs := cs'.toList) hw hm hL hx hv hu hd (by simpa using hi) (by simpa using h)
theorem ld_mid {T U : TypeId} {x : Operand} {b i off : Nat} {cs cs' : Array Value} {fr : Nat × Nat} {d : TypeDesc} (hx : a.eval x = .pointer (some ⟨b, off, none⟩)) (hL : L[i]? = some (b, .cells cs U fr)) (hv : ∀ j v, cs'.toList[j]? = some v → cs[off + j]? = some v)
    (hu : P.underlying T = some d) (hd : d.isRow = true) (hi : (P.info? T).map (·.size) = some cs'.size) :
    ∀ w, Mem w0 own L w → (execOp a.eval ⟨dst, .load T x, ty, pos, aft, gd⟩).run P w = .ok (.value (.agg cs')) w := fun w hC => by
  have h := run_loadAt_mid (P := P) w b off T cs'.toList d (hC.range hL hv) hu hd (by simpa using hi)
  unfold execOp
  simp only [hx, Sem.run_bind, h, Result.andThen_ok, Sem.run_pure, Array.toArray_toList]
end
section
variable {P : Program} {ops : Array Oper} {Q : Act → Prop} {rest : List Oper} {a : Act} {w0 : World} {own : List Nat} {L : List (Nat × Obj)}
variable {dst : Option Tmp} {ty : TypeId} {pos : String} {aft : Array Edge} {gd : Option (Nat × Bool)}
theorem wqM {T U : TypeId} {x : Operand} {b i off : Nat} {cs cs' : Array Value} {fr : Nat × Nat} {d : TypeDesc} (hw : Region.wanted ⟨dst, .load T x, ty, pos, aft, gd⟩ (yielded ops a.tmps) = true := by rfl)
    (hx : a.eval x = .pointer (some ⟨b, off, none⟩) := by rfl) (hL : L[i]? = some (b, .cells cs U fr) := by with_reducible first | exact at0 | exact at1 | exact at2 | exact at3 | exact at4 | exact at5 | exact at6 | exact at7 | exact at8 | exact at9) (hv : ∀ j v, cs'.toList[j]? = some v → cs[off + j]? = some v)
    (hu : P.underlying T = some d) (hd : d.isRow = true := by rfl) (hi : (P.info? T).map (·.size) = some cs'.size)
    (h : wpQuiet P ops (Mem w0 own L) Q rest (a.put dst (.agg cs'))) : wpQuiet P ops (Mem w0 own L) Q (⟨dst, .load T x, ty, pos, aft, gd⟩ :: rest) a :=
  wq_run hw (ld_mid hx hL hv hu hd hi) h
end
end Go.Proofs.Ythcpdjlomdchdaa
