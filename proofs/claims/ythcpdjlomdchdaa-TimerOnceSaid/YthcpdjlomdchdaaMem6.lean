/-
  The symbolic heap, continued: where a block stands in the list.
-/
import Derived.Test.YthcpdjlomdchdaaMem4
namespace Go.Proofs.Ythcpdjlomdchdaa
open Go.RowKit
set_option linter.unusedVariables false
section
variable {p0 p1 p2 p3 p4 p5 p6 p7 p8 p9 p : Nat × Obj} {L : List (Nat × Obj)}
theorem at0 : (p :: L)[0]? = some p := rfl
theorem at1 : (p0 :: p :: L)[1]? = some p := rfl
theorem at2 : (p0 :: p1 :: p :: L)[2]? = some p := rfl
theorem at3 : (p0 :: p1 :: p2 :: p :: L)[3]? = some p := rfl
theorem at4 : (p0 :: p1 :: p2 :: p3 :: p :: L)[4]? = some p := rfl
theorem at5 : (p0 :: p1 :: p2 :: p3 :: p4 :: p :: L)[5]? = some p := rfl
theorem at6 : (p0 :: p1 :: p2 :: p3 :: p4 :: p5 :: p :: L)[6]? = some p := rfl
theorem at7 : (p0 :: p1 :: p2 :: p3 :: p4 :: p5 :: p6 :: p :: L)[7]? = some p := rfl
theorem at8 : (p0 :: p1 :: p2 :: p3 :: p4 :: p5 :: p6 :: p7 :: p :: L)[8]? = some p := rfl
theorem at9 : (p0 :: p1 :: p2 :: p3 :: p4 :: p5 :: p6 :: p7 :: p8 :: p :: L)[9]? = some p := rfl
end
/-! Short names of list laws, and the heap's laws with their plain premises found by themselves. -/
section
variable {α : Type}
theorem k1 (l : List α) (i : Nat) (x : α) : l.toArray.setIfInBounds i x = (l.set i x).toArray := List.setIfInBounds_toArray _ _ _
theorem k2 (x y : α) (l : List α) : (x :: l).set 0 y = y :: l := rfl
theorem k4 {xs : List α} {i : Nat} (h : i < xs.toArray.size) : xs.toArray[i] = xs[i]'(by simpa using h) := List.getElem_toArray h
theorem k5 {x : α} {l : List α} {h : 0 < (x :: l).length} : getElem (x :: l) 0 h = x := rfl
theorem k6 {x : α} {l : List α} {i : Nat} {h : i + 1 < (x :: l).length} : getElem (x :: l) (i + 1) h = getElem l i (Nat.lt_of_succ_lt_succ h) := rfl
theorem k7 (xs : Array α) (i : Nat) (d : α) : xs.getD i d = xs[i]?.getD d := Array.getD_eq_getD_getElem? ..
theorem k8 (xs : List α) (i : Nat) : xs.toArray[i]? = xs[i]? := List.getElem?_toArray
theorem k9 (x : α) (l : List α) : (x :: l)[0]? = some x := rfl
theorem kA (x : α) (l : List α) (i : Nat) : (x :: l)[i + 1]? = l[i]? := rfl
theorem k3 (x y : α) (l : List α) (n : Nat) : (x :: l).set (n + 1) y = x :: l.set n y := rfl
end
section
open Region
variable {P : Program} {ops : Array Oper} {Q : Exit → Act → World → Prop} {rest : List Oper} {a : Act} {w0 w : World} {own : List Nat} {L : List (Nat × Obj)}
  {dst : Option Tmp} {ty : TypeId} {pos : String} {aft : Array Edge} {gd : Option (Nat × Bool)}
theorem stAl {T : TypeId} (h : Stop (wpList P ops Q (⟨dst, .alloc T, ty, pos, aft, gd⟩ :: rest) a w)) : wpList P ops Q (⟨dst, .alloc T, ty, pos, aft, gd⟩ :: rest) a w := Stop.mk h
theorem stBo {T : TypeId} {x : Operand} (h : Stop (wpList P ops Q (⟨dst, .box T x, ty, pos, aft, gd⟩ :: rest) a w)) : wpList P ops Q (⟨dst, .box T x, ty, pos, aft, gd⟩ :: rest) a w := Stop.mk h
theorem stLo {T : TypeId} {x : Operand} (h : Stop (wpList P ops Q (⟨dst, .load T x, ty, pos, aft, gd⟩ :: rest) a w)) : wpList P ops Q (⟨dst, .load T x, ty, pos, aft, gd⟩ :: rest) a w := Stop.mk h
theorem stSo {T : TypeId} {x y : Operand} (h : Stop (wpList P ops Q (⟨dst, .store T x y, ty, pos, aft, gd⟩ :: rest) a w)) : wpList P ops Q (⟨dst, .store T x y, ty, pos, aft, gd⟩ :: rest) a w := Stop.mk h
theorem stBu {T : TypeId} {p : Array (Nat × Operand)} (h : Stop (wpList P ops Q (⟨dst, .build T p, ty, pos, aft, gd⟩ :: rest) a w)) : wpList P ops Q (⟨dst, .build T p, ty, pos, aft, gd⟩ :: rest) a w := Stop.mk h
theorem stBs {T : TypeId} {n : Nat} {p : Array (Nat × Operand)} (h : Stop (wpList P ops Q (⟨dst, .buildSlice T n p, ty, pos, aft, gd⟩ :: rest) a w)) : wpList P ops Q (⟨dst, .buildSlice T n p, ty, pos, aft, gd⟩ :: rest) a w := Stop.mk h
theorem stMs {T : TypeId} {x y : Operand} (h : Stop (wpList P ops Q (⟨dst, .makeSlice T x y, ty, pos, aft, gd⟩ :: rest) a w)) : wpList P ops Q (⟨dst, .makeSlice T x y, ty, pos, aft, gd⟩ :: rest) a w := Stop.mk h
theorem stAp {p : Array Operand} {q : Array TypeId} (h : Stop (wpList P ops Q (⟨dst, .call ⟨.builtin .append, p, q⟩, ty, pos, aft, gd⟩ :: rest) a w)) : wpList P ops Q (⟨dst, .call ⟨.builtin .append, p, q⟩, ty, pos, aft, gd⟩ :: rest) a w := Stop.mk h
theorem stCo {p : Array Operand} {q : Array TypeId} (h : Stop (wpList P ops Q (⟨dst, .call ⟨.builtin .copy, p, q⟩, ty, pos, aft, gd⟩ :: rest) a w)) : wpList P ops Q (⟨dst, .call ⟨.builtin .copy, p, q⟩, ty, pos, aft, gd⟩ :: rest) a w := Stop.mk h
theorem wlA {T : TypeId} {z : Value} {cs : Array Value} (hw : Region.wanted ⟨dst, .alloc T, ty, pos, aft, gd⟩ (yielded ops a.tmps) = true := by rfl) (hz : (P.info? T).bind (·.zero) = some z) (hc : z.cells = cs := by rfl) (hm : Mem w0 own L w)
    (h : ∀ b w', Mem w0 own ((b, .cells cs T) :: L) w' → wpList P ops Q rest (a.put dst (.pointer (some ⟨b, 0, none⟩))) w') :
    wpList P ops Q (⟨dst, .alloc T, ty, pos, aft, gd⟩ :: rest) a w := wl_alloc hw hz hc hm h
theorem wlL {T U : TypeId} {x : Operand} {b i : Nat} {cs : Array Value} {fr : Nat × Nat} {d : TypeDesc} (hw : Region.wanted ⟨dst, .load T x, ty, pos, aft, gd⟩ (yielded ops a.tmps) = true := by rfl) (hm : Mem w0 own L w) (hx : a.eval x = .pointer (some ⟨b, 0, none⟩) := by rfl) (hL : L[i]? = some (b, .cells cs U fr) := by with_reducible first | exact at0 | exact at1 | exact at2 | exact at3 | exact at4 | exact at5 | exact at6 | exact at7 | exact at8 | exact at9)
    (hu : P.underlying T = some d) (hd : (match d with | .struct _ | .array _ _ => true | _ => false) = true := by rfl) (hi : (P.info? T).map (·.size) = some cs.size)
    (h : wpList P ops Q rest (a.put dst (.agg cs)) w) : wpList P ops Q (⟨dst, .load T x, ty, pos, aft, gd⟩ :: rest) a w := wl_load hw hm hL hx hu hd hi h
theorem wlS {T U : TypeId} {x y : Operand} {v : Value} {b i : Nat} {cs cs' : Array Value} (hw : Region.wanted ⟨dst, .store T x y, ty, pos, aft, gd⟩ (yielded ops a.tmps) = true := by rfl) (hm : Mem w0 own L w) (hx : a.eval x = .pointer (some ⟨b, 0, none⟩) := by rfl) (hy : a.eval y = v := by rfl) (hL : L[i]? = some (b, .cells cs U (0, 0)) := by with_reducible first | exact at0 | exact at1 | exact at2 | exact at3 | exact at4 | exact at5 | exact at6 | exact at7 | exact at8 | exact at9) (hv : v = .agg cs')
    (hi : (P.info? T).map (·.size) = some cs'.size) (hs : cs.size = cs'.size) (h1 : cs'.all (·.oneCell') = true := by first | rfl | (simp only [List.size_toArray, List.length_cons, List.all_toArray', List.all_cons, List.all_nil, Value.oneCell', Bool.and_true, Bool.and_self]; done) | (simp [Value.oneCell']; done) | exact rowOf_one _ _ (fun _ _ => rfl) | (exact rowOf_one _ _ (by intro i _; repeat (first | rfl | split))))
    (h : ∀ w', Mem w0 own (L.set i (b, .cells cs' U (0, 0))) w' → wpList P ops Q rest (a.put dst undef) w') : wpList P ops Q (⟨dst, .store T x y, ty, pos, aft, gd⟩ :: rest) a w := wl_store hw hm hL hx hy hv hi hs h1 h
theorem wlSC {T U : TypeId} {x y : Operand} {b i off : Nat} {cs : Array Value} {v : Value} (hw : Region.wanted ⟨dst, .store T x y, ty, pos, aft, gd⟩ (yielded ops a.tmps) = true := by rfl) (hm : Mem w0 own L w) (hx : a.eval x = .pointer (some ⟨b, off, none⟩) := by rfl) (hy : a.eval y = v := by rfl) (hL : L[i]? = some (b, .cells cs U (0, 0)) := by with_reducible first | exact at0 | exact at1 | exact at2 | exact at3 | exact at4 | exact at5 | exact at6 | exact at7 | exact at8 | exact at9)
    (h1 : v.oneCell' = true := by rfl) (hi : (P.info? T).map (·.size) = some 1) (ho : off < cs.size)
    (h : ∀ w', Mem w0 own (L.set i (b, .cells (cs.setIfInBounds off v) U (0, 0))) w' → wpList P ops Q rest (a.put dst undef) w') : wpList P ops Q (⟨dst, .store T x y, ty, pos, aft, gd⟩ :: rest) a w := wl_storeCell hw hm hL hx hy h1 hi ho h
theorem wlLC {T U : TypeId} {x : Operand} {b i off : Nat} {cs : Array Value} {v : Value} {fr : Nat × Nat} {d : TypeDesc} (hw : Region.wanted ⟨dst, .load T x, ty, pos, aft, gd⟩ (yielded ops a.tmps) = true := by rfl) (hm : Mem w0 own L w) (hx : a.eval x = .pointer (some ⟨b, off, none⟩) := by rfl) (hL : L[i]? = some (b, .cells cs U fr) := by with_reducible first | exact at0 | exact at1 | exact at2 | exact at3 | exact at4 | exact at5 | exact at6 | exact at7 | exact at8 | exact at9)
    (hv : cs[off]? = some v := by rfl) (hu : P.underlying T = some d) (hd : (match d with | .struct _ | .array _ _ => true | _ => false) = false := by rfl)
    (h : wpList P ops Q rest (a.put dst v) w) : wpList P ops Q (⟨dst, .load T x, ty, pos, aft, gd⟩ :: rest) a w := wl_loadCell hw hm hL hx hv hu hd h
variable {S : World → Prop} {md : Region.Mode} {fuel : Nat} {listed : Array Bool} {i : Nat} {oi : Oper}
theorem whS {v : Value} (hi : ops[i]? = some oi := by rfl) (hs : Region.noSelect ops = true := by kernel_rfl) (hf : Region.free md ops listed i = true := by kernel_rfl) (hr : (Region.ready md ops listed).contains i = true := by kernel_rfl)
    (hQ : ∀ c v (a : Act) w, Q (.panic c) (a.put oi.dst v) w → Q (.panic c) a w := by exact fun _ _ _ _ h => h) (hw : Region.wanted oi (yielded ops a.tmps) = true := by rfl) (hS : S w)
    (h1 : ∀ w, S w → (execOp a.eval oi).run P w = .ok (.value v) w := by intro w hC; go_simp; try with_reducible rfl) (h : wpAnyH P md ops Q S fuel (listed.setIfInBounds i true) (a.put oi.dst v) w) : wpAnyH P md ops Q S (fuel + 1) listed a w :=
  wh_any hi hs hf hr hQ hw hS ⟨v, h1, h⟩
theorem whK (hi : ops[i]? = some oi := by rfl) (hs : Region.noSelect ops = true := by kernel_rfl) (hf : Region.free md ops listed i = true := by kernel_rfl) (hr : (Region.ready md ops listed).contains i = true := by kernel_rfl)
    (hQ : ∀ c v (a : Act) w, Q (.panic c) (a.put oi.dst v) w → Q (.panic c) a w := by exact fun _ _ _ _ h => h) (hw : Region.wanted oi (yielded ops a.tmps) = false := by rfl) (hS : S w)
    (h : wpAnyH P md ops Q S fuel (listed.setIfInBounds i true) (a.put oi.dst undef) w) : wpAnyH P md ops Q S (fuel + 1) listed a w := wh_skip hi hs hf hr hQ hw hS h
end
section
variable {P : Program} {ops : Array Oper} {C : World → Prop} {Q : Act → Prop} {rest : List Oper} {a : Act} {o : Oper} {w0 : World} {own : List Nat} {L : List (Nat × Obj)}
variable {dst : Option Tmp} {ty : TypeId} {pos : String} {aft : Array Edge} {gd : Option (Nat × Bool)}
theorem wqS {v : Value} (hw : Region.wanted o (yielded ops a.tmps) = true := by rfl) (h1 : ∀ w, C w → (execOp a.eval o).run P w = .ok (.value v) w := by intro w hC; go_simp; (try with_reducible rfl); done) (h : wpQuiet P ops C Q rest (a.put o.dst v)) : wpQuiet P ops C Q (o :: rest) a := wq_run hw h1 h
theorem wqL {T U : TypeId} {x : Operand} {b i : Nat} {cs : Array Value} {fr : Nat × Nat} {d : TypeDesc} (hw : Region.wanted ⟨dst, .load T x, ty, pos, aft, gd⟩ (yielded ops a.tmps) = true := by rfl)
    (hx : a.eval x = .pointer (some ⟨b, 0, none⟩) := by rfl) (hL : L[i]? = some (b, .cells cs U fr) := by with_reducible first | exact at0 | exact at1 | exact at2 | exact at3 | exact at4 | exact at5 | exact at6 | exact at7 | exact at8 | exact at9)
    (hu : P.underlying T = some d) (hd : (match d with | .struct _ | .array _ _ => true | _ => false) = true := by rfl) (hi : (P.info? T).map (·.size) = some cs.size)
    (h : wpQuiet P ops (Mem w0 own L) Q rest (a.put dst (.agg cs))) : wpQuiet P ops (Mem w0 own L) Q (⟨dst, .load T x, ty, pos, aft, gd⟩ :: rest) a := wq_load hw hL hx hu hd hi h
theorem wqLC {T U : TypeId} {x : Operand} {b i off : Nat} {cs : Array Value} {v : Value} {fr : Nat × Nat} {d : TypeDesc} (hw : Region.wanted ⟨dst, .load T x, ty, pos, aft, gd⟩ (yielded ops a.tmps) = true := by rfl)
    (hx : a.eval x = .pointer (some ⟨b, off, none⟩) := by rfl) (hL : L[i]? = some (b, .cells cs U fr) := by with_reducible first | exact at0 | exact at1 | exact at2 | exact at3 | exact at4 | exact at5 | exact at6 | exact at7 | exact at8 | exact at9) (hv : cs[off]? = some v := by rfl)
    (hu : P.underlying T = some d) (hd : (match d with | .struct _ | .array _ _ => true | _ => false) = false := by rfl)
    (h : wpQuiet P ops (Mem w0 own L) Q rest (a.put dst v)) : wpQuiet P ops (Mem w0 own L) Q (⟨dst, .load T x, ty, pos, aft, gd⟩ :: rest) a := wq_loadCell hw hL hx hv hu hd h
end
end Go.Proofs.Ythcpdjlomdchdaa
