/- Texts joined by program: Mem Mem2 LabA LabR Mem4 Mem6 LabB Txt RefA Shelf5 Mem7 Mem9 Mem12 WirL ShaI WirA WirB WirD WirE WirF Mem8 WirH WirP EqI LetA Open OpenN Mem13 LetB LetC LetE LetI LetJ LetK. -/
import Derived.Lib.SmallJoins
import Derived.Deep.Slices
import Derived.WalkKit
import Derived.WalkLawsBesides
import Derived.WalkSpells
import Derived.Deep.QuietTactic
import Derived.BigQuiet
import Derived.Deep.MidRow
import Derived.Deep.RegionHeld
import Derived.Lib.Bytealg
import Derived.ChangeKeysEq
import Derived.Test.YtijkmbebfodhdaaChecked
import Derived.MapKept
import Derived.Laws.StructEq
import Derived.Shelf.Strconv.Itoa0
import Derived.Test.YtijkmbebfodhdaaProg
import Derived.Lib.AppendStr
import Derived.Lib.ItoaNum
import Derived.Lib.BufferWrite
import Derived.DeepKeys
import Derived.Test.YtijkmbebfodhdaaRows
import Derived.ProofKit
import Derived.OpenShut
import Derived.ShutString
import Derived.ChangeOld
import Derived.Below
import Derived.ChangeSlices
/- (Mem) -/
namespace Go.Proofs.Ytijkmbebfodhdaa
open Go.RowKit
set_option linter.unusedSimpArgs false
set_option linter.unusedVariables false
/-- The world w, reached from w0: below w0's size only the blocks of 'own' may have turned; the blocks of L hold just what L says. -/
structure Mem (w0 : World) (own : List Nat) (L : List (Nat × Obj)) (w : World) : Prop where
  os : w.os = w0.os
  tape : w.tape = w0.tape
  output : w.output = w0.output
  size : w0.heap.size ≤ w.heap.size
  old : ∀ k, k < w0.heap.size → k ∉ own → w.heap[k]? = w0.heap[k]?
  has : ∀ p, p ∈ L → w.heap[p.1]? = some p.2
  may : ∀ p, p ∈ L → w0.heap.size ≤ p.1 ∨ p.1 ∈ own
  apart : ∀ (i j : Nat) (p q : Nat × Obj), L[i]? = some p → L[j]? = some q → p.1 = q.1 → i = j
/-- Nothing that was there has turned. -/
def Ext (w w' : World) : Prop := Mem w [] [] w'
section
variable {w0 w w' : World} {own : List Nat} {L : List (Nat × Obj)}
theorem Mem.refl (w : World) (own : List Nat) : Mem w own [] w :=
  ⟨rfl, rfl, rfl, Nat.le_refl _, fun _ _ _ => rfl, fun _ h => (List.not_mem_nil h).elim, fun _ h => (List.not_mem_nil h).elim, fun i _ _ _ h => by simp at h⟩
theorem Ext.refl (w : World) : Ext w w := Mem.refl w []
theorem Mem.lt (h : Mem w0 own L w) {p : Nat × Obj} (hp : p ∈ L) : p.1 < w.heap.size := (Array.getElem?_eq_some_iff.1 (h.has p hp)).1
theorem Mem.drawn (h : Mem w0 own L w) (n : Nat) : Mem w0 own L { w with drawn := n } :=
  ⟨h.os, h.tape, h.output, h.size, h.old, h.has, h.may, h.apart⟩
theorem Mem.drew (h : Mem w0 own L w) : Mem w0 own L w.drew := h.drawn _
theorem Mem.alloc (h : Mem w0 own L w) (o : Obj) : Mem w0 own ((w.heap.size, o) :: L) (w.alloc o) := by
  refine ⟨h.os, h.tape, h.output, Nat.le_trans h.size (by simp), fun k hk hn => ?_, fun p hp => ?_, fun p hp => ?_, fun i j p q hi hj e => ?_⟩
  · rw [Below.heap_alloc w o k (Nat.lt_of_lt_of_le hk h.size)]; exact h.old k hk hn
  · rcases List.mem_cons.1 hp with rfl | hp
    · exact heap_alloc_new w o
    · rw [Below.heap_alloc w o p.1 (h.lt hp)]; exact h.has p hp
  · rcases List.mem_cons.1 hp with rfl | hp
    · exact Or.inl h.size
    · exact h.may p hp
  · cases i with
    | zero =>
      cases j with
      | zero => rfl
      | succ j =>
        simp only [List.getElem?_cons_zero, List.getElem?_cons_succ, Option.some.injEq] at hi hj
        have := h.lt (List.mem_of_getElem? hj)
        rw [← e, ← hi] at this
        exact (Nat.lt_irrefl _ this).elim
    | succ i =>
      cases j with
      | zero =>
        simp only [List.getElem?_cons_zero, List.getElem?_cons_succ, Option.some.injEq] at hi hj
        have := h.lt (List.mem_of_getElem? hi)
        rw [e, ← hj] at this
        exact (Nat.lt_irrefl _ this).elim
      | succ j =>
        simp only [List.getElem?_cons_succ] at hi hj
        rw [h.apart i j p q hi hj e]
/-- Block b, which L lists at place i, holds another object now; nothing else has turned. -/
theorem Mem.setObj (h : Mem w0 own L w) {i b : Nat} {o o' : Obj} (hL : L[i]? = some (b, o)) (e1 : w'.os = w.os) (e2 : w'.tape = w.tape) (e3 : w'.output = w.output)
    (e4 : w.heap.size ≤ w'.heap.size) (e5 : ∀ k, k < w.heap.size → k ≠ b → w'.heap[k]? = w.heap[k]?) (e6 : w'.heap[b]? = some o') : Mem w0 own (L.set i (b, o')) w' := by
  have hi : i < L.length := (List.getElem?_eq_some_iff.1 hL).1
  have hmem : (b, o) ∈ L := List.mem_of_getElem? hL
  have hmay : w0.heap.size ≤ b ∨ b ∈ own := h.may _ hmem
  have key : ∀ j p, (L.set i (b, o'))[j]? = some p → (j = i ∧ p = (b, o')) ∨ (j ≠ i ∧ L[j]? = some p) := fun j p hj => by
    rw [List.getElem?_set] at hj
    split at hj
    · rename_i hij
      simp only [hi, if_true, Option.some.injEq] at hj
      exact Or.inl ⟨hij.symm, hj.symm⟩
    · rename_i hij
      exact Or.inr ⟨fun e => hij e.symm, hj⟩
  have far : ∀ j p, j ≠ i → L[j]? = some p → p.1 ≠ b := fun j p hji hj e => hji (h.apart j i p (b, o) hj hL e)
  refine ⟨e1.trans h.os, e2.trans h.tape, e3.trans h.output, Nat.le_trans h.size e4, fun k hk hn => ?_, fun p hp => ?_, fun p hp => ?_, fun j k p q hj hk e => ?_⟩
  · have hkb : k ≠ b := fun e => by
      rcases hmay with hm | hm
      · omega
      · exact hn (by rw [e]; exact hm)
    rw [e5 k (Nat.lt_of_lt_of_le hk h.size) hkb]
    exact h.old k hk hn
  · obtain ⟨j, hj⟩ := List.mem_iff_getElem?.1 hp
    rcases key j p hj with ⟨_, rfl⟩ | ⟨hji, hj⟩
    · exact e6
    · have hpL := List.mem_of_getElem? hj
      rw [e5 p.1 (h.lt hpL) (far j p hji hj)]
      exact h.has p hpL
  · obtain ⟨j, hj⟩ := List.mem_iff_getElem?.1 hp
    rcases key j p hj with ⟨_, rfl⟩ | ⟨hji, hj⟩
    · exact hmay
    · exact h.may p (List.mem_of_getElem? hj)
  · rcases key j p hj with ⟨hji, rfl⟩ | ⟨hji, hj⟩
    · rcases key k q hk with ⟨hki, rfl⟩ | ⟨hki, hk⟩
      · rw [hji, hki]
      · exact (far k q hki hk e.symm).elim
    · rcases key k q hk with ⟨hki, rfl⟩ | ⟨hki, hk⟩
      · exact (far j p hji hj e).elim
      · exact h.apart j k p q hj hk e
theorem Mem.setRow (h : Mem w0 own L w) {i b : Nat} {cs : Array Value} {T : TypeId} {fr : Nat × Nat} (hL : L[i]? = some (b, .cells cs T fr)) (cs' : Array Value) :
    Mem w0 own (L.set i (b, .cells cs' T fr)) (w.setRow b cs') :=
  h.setObj hL rfl rfl rfl (by simp) (fun k _ hk => setRow_other w b k cs' hk) (setRow_heap w b cs cs' T fr (h.has _ (List.mem_of_getElem? hL)))
theorem Mem.setCell (h : Mem w0 own L w) {i b : Nat} {cs : Array Value} {T : TypeId} {fr : Nat × Nat} (hL : L[i]? = some (b, .cells cs T fr)) (off : Nat) (v : Value) :
    Mem w0 own (L.set i (b, .cells (cs.setIfInBounds off v) T fr)) (w.setCell ⟨b, off, none⟩ v) := by
  rw [setCell_eq_setRow w b off cs T fr v (h.has _ (List.mem_of_getElem? hL))]
  exact h.setRow hL _
/-- Behind a callee that has turned nothing that was there. -/
theorem Mem.call (h : Mem w0 own L w) (hx : Ext w w') : Mem w0 own L w' :=
  ⟨hx.os.trans h.os, hx.tape.trans h.tape, hx.output.trans h.output, Nat.le_trans h.size hx.size,
   fun k hk hn => (hx.old k (Nat.lt_of_lt_of_le hk h.size) (by simp)).trans (h.old k hk hn),
   fun p hp => (hx.old p.1 (h.lt hp) (by simp)).trans (h.has p hp), h.may, h.apart⟩
theorem Mem.tail {p : Nat × Obj} (h : Mem w0 own (p :: L) w) : Mem w0 own L w :=
  ⟨h.os, h.tape, h.output, h.size, h.old, fun q hq => h.has q (List.mem_cons_of_mem _ hq), fun q hq => h.may q (List.mem_cons_of_mem _ hq), fun i j q r hi hj e => by
    have := h.apart (i + 1) (j + 1) q r (by simpa using hi) (by simpa using hj) e
    omega⟩
theorem Mem.erase (h : Mem w0 own L w) (i : Nat) : Mem w0 own (L.eraseIdx i) w := by
  refine ⟨h.os, h.tape, h.output, h.size, h.old, fun q hq => h.has q (List.mem_of_mem_eraseIdx hq), fun q hq => h.may q (List.mem_of_mem_eraseIdx hq), fun j k p q hj hk e => ?_⟩
  rw [List.getElem?_eraseIdx] at hj hk
  split at hj <;> split at hk
  · exact h.apart j k p q hj hk e
  · have := h.apart j (k + 1) p q hj hk e; omega
  · have := h.apart (j + 1) k p q hj hk e; omega
  · have := h.apart (j + 1) (k + 1) p q hj hk e; omega
theorem Mem.nil (h : Mem w0 own L w) : Mem w0 own [] w :=
  ⟨h.os, h.tape, h.output, h.size, h.old, fun _ hq => (List.not_mem_nil hq).elim, fun _ hq => (List.not_mem_nil hq).elim, fun i _ _ _ hi => by simp at hi⟩
theorem Mem.ext (h : Mem w0 [] L w) : Ext w0 w := h.nil
theorem Ext.trans {a b c : World} (h : Ext a b) (k : Ext b c) : Ext a c := Mem.call h k
theorem Ext.below (h : Ext w w') : Below w.heap.size w w' := ⟨h.os, h.tape, h.output, h.size, fun k hk => h.old k hk (by simp)⟩
theorem Mem.heap (h : Mem w0 own L w) {i b : Nat} {o : Obj} (hL : L[i]? = some (b, o)) : w.heap[b]? = some o := h.has _ (List.mem_of_getElem? hL)
theorem Mem.cell (h : Mem w0 own L w) {i b : Nat} {cs : Array Value} {T : TypeId} {fr : Nat × Nat} (hL : L[i]? = some (b, .cells cs T fr)) (j : Nat) : w.cell? ⟨b, j, none⟩ = cs[j]? :=
  cell_of_row w b j cs T fr (h.heap hL)
theorem Mem.free (h : Mem w0 own L w) {i b : Nat} {cs : Array Value} {T : TypeId} (hL : L[i]? = some (b, .cells cs T (0, 0))) (j : Nat) : w.frozen? ⟨b, j, none⟩ = false :=
  frozen_of_row w b j cs T (h.heap hL)
end
theorem hid {p : Prop} (h : p) : Hid p := h
/-- The walk is held here. -/
def Stop (p : Prop) : Prop := p
theorem Stop.mk {p : Prop} (h : Stop p) : p := h
theorem Stop.go {p : Prop} (h : p) : Stop p := h
/-! ### A plain region's operations -/
section
variable {P : Program} {ops : Array Oper} {Q : Exit → Act → World → Prop} {rest : List Oper} {a : Act} {w0 w : World} {own : List Nat} {L : List (Nat × Obj)}
  {dst : Option Tmp} {ty : TypeId} {pos : String} {aft : Array Edge} {gd : Option (Nat × Bool)}
theorem zero_run {T : TypeId} {z : Value} (hz : (P.info? T).bind (·.zero) = some z) (w : World) : (zeroValue T).run P w = .ok z w := by
  cases hi : P.info? T with
  | none => simp [hi] at hz
  | some i =>
    have : i.zero = some z := by simpa [hi] using hz
    simp [zeroValue, typeInfo, hi, this]
theorem wl_op {o : Oper} (hw : Region.wanted o (yielded ops a.tmps) = true) (h : ∀ K : Act → World → Prop, (∀ a w, wpList P ops Q rest a w → K a w) → o.wp P a w K Q) : wpList P ops Q (o :: rest) a w := by
  unfold wpList
  rw [if_pos hw]
  exact .inl (h _ fun _ _ h => h)
theorem wl_alloc {T : TypeId} {z : Value} {cs : Array Value} (hw : Region.wanted ⟨dst, .alloc T, ty, pos, aft, gd⟩ (yielded ops a.tmps) = true) (hz : (P.info? T).bind (·.zero) = some z) (hc : z.cells = cs) (hm : Mem w0 own L w)
    (h : ∀ b w', Mem w0 own ((b, .cells cs T) :: L) w' → wpList P ops Q rest (a.put dst (.pointer (some ⟨b, 0, none⟩))) w') :
    wpList P ops Q (⟨dst, .alloc T, ty, pos, aft, gd⟩ :: rest) a w :=
  wl_op hw fun K hK => by
    unfold Oper.wp execOp
    simp only [Instr.alloc, Sem.run_bind, zero_run hz, Result.andThen_ok, newVar, newRow, hc, run_newObj_alloc, Sem.run_pure, Oper.upon]
    exact hK _ _ (h _ _ (hm.alloc _))
theorem wl_box {T : TypeId} {x : Operand} {v : Value} {cs : Array Value} (hw : Region.wanted ⟨dst, .box T x, ty, pos, aft, gd⟩ (yielded ops a.tmps) = true) (hx : a.eval x = v) (hc : v.cells = cs) (hm : Mem w0 own L w)
    (h : ∀ b w', Mem w0 own ((b, .cells cs T) :: L) w' → wpList P ops Q rest (a.put dst (.pointer (some ⟨b, 0, none⟩))) w') :
    wpList P ops Q (⟨dst, .box T x, ty, pos, aft, gd⟩ :: rest) a w :=
  wl_op hw fun K hK => by
    unfold Oper.wp execOp
    simp only [Instr.box, hx, hc, Sem.run_bind, Result.andThen_ok, newVar, newRow, run_newObj_alloc, Sem.run_pure, Oper.upon]
    exact hK _ _ (h _ _ (hm.alloc _))
theorem wl_load {T U : TypeId} {x : Operand} {b i : Nat} {cs : Array Value} {fr : Nat × Nat} {d : TypeDesc} (hw : Region.wanted ⟨dst, .load T x, ty, pos, aft, gd⟩ (yielded ops a.tmps) = true) (hm : Mem w0 own L w) (hL : L[i]? = some (b, .cells cs U fr)) (hx : a.eval x = .pointer (some ⟨b, 0, none⟩))
    (hu : P.underlying T = some d) (hd : (match d with | .struct _ | .array _ _ => true | _ => false) = true) (hi : (P.info? T).map (·.size) = some cs.size)
    (h : wpList P ops Q rest (a.put dst (.agg cs)) w) : wpList P ops Q (⟨dst, .load T x, ty, pos, aft, gd⟩ :: rest) a w :=
  wl_op hw fun K hK => wp_load_row T x rfl b hx U cs fr d (hm.heap hL) hu hd hi (hK _ _ h)
theorem wl_store {T U : TypeId} {x y : Operand} {v : Value} {b i : Nat} {cs cs' : Array Value} (hw : Region.wanted ⟨dst, .store T x y, ty, pos, aft, gd⟩ (yielded ops a.tmps) = true) (hm : Mem w0 own L w) (hL : L[i]? = some (b, .cells cs U (0, 0))) (hx : a.eval x = .pointer (some ⟨b, 0, none⟩)) (hy : a.eval y = v) (hv : v = .agg cs')
    (hi : (P.info? T).map (·.size) = some cs'.size) (hs : cs.size = cs'.size) (h1 : cs'.all (·.oneCell') = true)
    (h : ∀ w', Mem w0 own (L.set i (b, .cells cs' U (0, 0))) w' → wpList P ops Q rest (a.put dst undef) w') : wpList P ops Q (⟨dst, .store T x y, ty, pos, aft, gd⟩ :: rest) a w :=
  wl_op hw fun K hK => wp_store_row T x y rfl b cs' hx (hy.trans hv) U cs (hm.heap hL) hi hs h1 (hK _ _ (h _ (hm.setRow hL _)))
theorem storeVar_cell {T U : TypeId} {b i off : Nat} {cs : Array Value} {v : Value} (hm : Mem w0 own L w) (hL : L[i]? = some (b, .cells cs U (0, 0))) (ho : off < cs.size) (h1 : v.oneCell' = true)
    (hi : (P.info? T).map (·.size) = some 1) : (storeVar T ⟨b, off, none⟩ v).run P w = .ok () (w.setCell ⟨b, off, none⟩ v) := by
  have hc : v.cells = #[v] := by cases v <;> simp_all [Value.cells, Value.oneCell']
  have hcell : w.cell? ⟨b, off, none⟩ = some cs[off] := by rw [hm.cell hL, Array.getElem?_eq_getElem ho]
  cases hq : P.info? T with
  | none => simp [hq] at hi
  | some it =>
    have hs : it.size = 1 := by simpa [hq] using hi
    simp [storeVar, sizeOf, typeInfo, hc, hq, hs, storeCells, run_store P w _ v _ h1, hcell, hm.free hL, Addr.add]
theorem wl_storeCell {T U : TypeId} {x y : Operand} {b i off : Nat} {cs : Array Value} {v : Value} (hw : Region.wanted ⟨dst, .store T x y, ty, pos, aft, gd⟩ (yielded ops a.tmps) = true) (hm : Mem w0 own L w) (hL : L[i]? = some (b, .cells cs U (0, 0))) (hx : a.eval x = .pointer (some ⟨b, off, none⟩)) (hy : a.eval y = v)
    (h1 : v.oneCell' = true) (hi : (P.info? T).map (·.size) = some 1) (ho : off < cs.size)
    (h : ∀ w', Mem w0 own (L.set i (b, .cells (cs.setIfInBounds off v) U (0, 0))) w' → wpList P ops Q rest (a.put dst undef) w') : wpList P ops Q (⟨dst, .store T x y, ty, pos, aft, gd⟩ :: rest) a w :=
  wl_op hw fun K hK => by
    unfold Oper.wp execOp
    simp only [hx, hy, Instr.storeAt, Instr.sureAddr, Sem.run_bind, Sem.run_pure, Result.andThen_ok, storeVar_cell hm hL ho h1 hi, Oper.upon]
    exact hK _ _ (h _ (hm.setCell hL _ _))
theorem loadVar_cell {T U : TypeId} {b i off : Nat} {cs : Array Value} {v : Value} {fr : Nat × Nat} {d : TypeDesc} (hm : Mem w0 own L w) (hL : L[i]? = some (b, .cells cs U fr)) (hv : cs[off]? = some v)
    (hu : P.underlying T = some d) (hd : (match d with | .struct _ | .array _ _ => true | _ => false) = false) : (loadVar T ⟨b, off, none⟩).run P w = .ok v w := by
  have hagg : (isAgg T).run P w = .ok false w := by
    unfold isAgg
    rw [Sem.run_bind, run_underlying hu w]
    cases d <;> simp_all
  have hcell : w.cell? ⟨b, off, none⟩ = some v := by rw [hm.cell hL, hv]
  simp [loadVar, Sem.run_bind, hagg, hcell]
theorem wl_loadCell {T U : TypeId} {x : Operand} {b i off : Nat} {cs : Array Value} {v : Value} {fr : Nat × Nat} {d : TypeDesc} (hw : Region.wanted ⟨dst, .load T x, ty, pos, aft, gd⟩ (yielded ops a.tmps) = true) (hm : Mem w0 own L w) (hL : L[i]? = some (b, .cells cs U fr)) (hx : a.eval x = .pointer (some ⟨b, off, none⟩))
    (hv : cs[off]? = some v) (hu : P.underlying T = some d) (hd : (match d with | .struct _ | .array _ _ => true | _ => false) = false)
    (h : wpList P ops Q rest (a.put dst v) w) : wpList P ops Q (⟨dst, .load T x, ty, pos, aft, gd⟩ :: rest) a w :=
  wl_op hw fun K hK => by
    unfold Oper.wp execOp
    simp only [hx, Instr.loadAt, Instr.sureAddr, Sem.run_bind, Sem.run_pure, Result.andThen_ok, loadVar_cell hm hL hv hu hd, Oper.upon]
    exact hK _ _ h
end
section
variable {P : Program} {ops : Array Oper} {Q : Exit → Act → World → Prop} {rest : List Oper} {a : Act} {w0 w : World} {own : List Nat} {L : List (Nat × Obj)}
  {dst : Option Tmp} {ty : TypeId} {pos : String} {aft : Array Edge} {gd : Option (Nat × Bool)} {K : Act → World → Prop}
theorem wl_build {T : TypeId} {parts : Array (Nat × Operand)} {ps : List (Nat × Value)} {cells : Array Value} (hw : Region.wanted ⟨dst, .build T parts, ty, pos, aft, gd⟩ (yielded ops a.tmps) = true) (hb : P.built T ps = some cells) (hp : (parts.map fun (i, x) => (i, a.eval x)).toList = ps)
    (h : wpList P ops Q rest (a.put dst (.agg cells)) w) : wpList P ops Q (⟨dst, .build T parts, ty, pos, aft, gd⟩ :: rest) a w :=
  wl_op hw fun K hK => by
    unfold Oper.wp execOp
    simp only [Sem.run_bind, run_build w T _ cells (hp ▸ hb), Result.andThen_ok, Sem.run_pure, Oper.upon]
    exact hK _ _ h
/-! One operation, wherever it stands. -/
theorem ow_store {T U : TypeId} {x y : Operand} {v : Value} {b i : Nat} {cs cs' : Array Value} (hm : Mem w0 own L w) (hL : L[i]? = some (b, .cells cs U (0, 0))) (hx : a.eval x = .pointer (some ⟨b, 0, none⟩)) (hy : a.eval y = v) (hv : v = .agg cs')
    (hi : (P.info? T).map (·.size) = some cs'.size) (hs : cs.size = cs'.size) (h1 : cs'.all (·.oneCell') = true)
    (h : ∀ w', Mem w0 own (L.set i (b, .cells cs' U (0, 0))) w' → K (a.put dst undef) w') : Oper.wp P ⟨dst, .store T x y, ty, pos, aft, gd⟩ a w K Q :=
  wp_store_row T x y rfl b cs' hx (hy.trans hv) U cs (hm.heap hL) hi hs h1 (h _ (hm.setRow hL _))
theorem ow_storeCell {T U : TypeId} {x y : Operand} {b i off : Nat} {cs : Array Value} {v : Value} (hm : Mem w0 own L w) (hL : L[i]? = some (b, .cells cs U (0, 0))) (hx : a.eval x = .pointer (some ⟨b, off, none⟩)) (hy : a.eval y = v)
    (h1 : v.oneCell' = true) (hi : (P.info? T).map (·.size) = some 1) (ho : off < cs.size)
    (h : ∀ w', Mem w0 own (L.set i (b, .cells (cs.setIfInBounds off v) U (0, 0))) w' → K (a.put dst undef) w') : Oper.wp P ⟨dst, .store T x y, ty, pos, aft, gd⟩ a w K Q := by
  unfold Oper.wp execOp
  simp only [hx, hy, Instr.storeAt, Instr.sureAddr, Sem.run_bind, Sem.run_pure, Result.andThen_ok, storeVar_cell hm hL ho h1 hi, Oper.upon]
  exact h _ (hm.setCell hL _ _)
/-! A region that draws its order: what may be taken first in all worlds that S tells; the rest as it comes. -/
variable {S : World → Prop} {md : Region.Mode} {fuel : Nat} {listed : Array Bool} {i : Nat} {oi : Oper}
theorem wh_any (hi : ops[i]? = some oi) (hs : Region.noSelect ops = true) (hf : Region.free md ops listed i = true) (hr : (Region.ready md ops listed).contains i = true)
    (hQ : ∀ c v (a : Act) w, Q (.panic c) (a.put oi.dst v) w → Q (.panic c) a w) (hw : Region.wanted oi (yielded ops a.tmps) = true) (hS : S w)
    (h : ∃ v, (∀ w, S w → (execOp a.eval oi).run P w = .ok (.value v) w) ∧ wpAnyH P md ops Q S fuel (listed.setIfInBounds i true) (a.put oi.dst v) w) : wpAnyH P md ops Q S (fuel + 1) listed a w :=
  let ⟨_, h1, h2⟩ := h
  wpAnyH_take hi hs hf hr (fun _ _ _ h => hQ _ _ _ _ h) (Or.inl ⟨hw, h1⟩) hS h2
theorem wh_one (hr : Region.ready md ops listed = [i]) (hi : ops[i]? = some oi) (hw : Region.wanted oi (yielded ops a.tmps) = true)
    (h : ∀ K' : Act → World → Prop, Hid (∀ a w, S w → wpAnyH P md ops Q S fuel (listed.setIfInBounds i true) a w → K' a w) → Oper.wp P oi a w K' Q) : wpAnyH P md ops Q S (fuel + 1) listed a w :=
  wpAnyH_all hr (by simp) fun j hj => by
    have : j = i := by simpa using hj
    subst this
    unfold wpOp
    simp only [hi, hw, if_true]
    exact .inl (h _ fun _ _ h1 h2 => ⟨h1, h2⟩)
theorem ld_row {T U : TypeId} {x : Operand} {b i : Nat} {cs : Array Value} {fr : Nat × Nat} {d : TypeDesc} (hL : L[i]? = some (b, .cells cs U fr)) (hx : a.eval x = .pointer (some ⟨b, 0, none⟩))
    (hu : P.underlying T = some d) (hd : (match d with | .struct _ | .array _ _ => true | _ => false) = true) (hi : (P.info? T).map (·.size) = some cs.size) :
    ∀ w, Mem w0 own L w → (execOp a.eval ⟨dst, .load T x, ty, pos, aft, gd⟩).run P w = .ok (.value (.agg cs)) w := fun w hC => by
  unfold execOp
  simp only [hx, Instr.loadAt, Instr.sureAddr, Sem.run_bind, Sem.run_pure, Result.andThen_ok, run_loadVar_row w b U T cs fr d (hC.heap hL) hu hd hi]
theorem ld_cell {T U : TypeId} {x : Operand} {b i off : Nat} {cs : Array Value} {v : Value} {fr : Nat × Nat} {d : TypeDesc} (hL : L[i]? = some (b, .cells cs U fr)) (hx : a.eval x = .pointer (some ⟨b, off, none⟩)) (hv : cs[off]? = some v)
    (hu : P.underlying T = some d) (hd : (match d with | .struct _ | .array _ _ => true | _ => false) = false) :
    ∀ w, Mem w0 own L w → (execOp a.eval ⟨dst, .load T x, ty, pos, aft, gd⟩).run P w = .ok (.value v) w := fun w hC => by
  unfold execOp
  simp only [hx, Instr.loadAt, Instr.sureAddr, Sem.run_bind, Sem.run_pure, Result.andThen_ok, loadVar_cell hC hL hv hu hd]
end
/-! ### A region that draws its order, all of it quiet in a class of worlds -/
section
variable {P : Program} {ops : Array Oper} {C : World → Prop} {Q : Act → Prop} {rest : List Oper} {a : Act} {o : Oper} {w0 : World} {own : List Nat} {L : List (Nat × Obj)}
theorem wq_skip (hw : Region.wanted o (yielded ops a.tmps) = false) (h : wpQuiet P ops C Q rest (a.put o.dst undef)) : wpQuiet P ops C Q (o :: rest) a := by
  unfold wpQuiet
  rw [hw]
  exact h
theorem wq_at {v : Value} (hw : Region.wanted o (yielded ops a.tmps) = true) (hv : ∀ w, C w → o.quietAt P a C w v) (h : wpQuiet P ops C Q rest (a.put o.dst v)) : wpQuiet P ops C Q (o :: rest) a := by
  unfold wpQuiet
  rw [hw]
  exact ⟨v, hv, h⟩
theorem wq_run {v : Value} (hw : Region.wanted o (yielded ops a.tmps) = true) (hv : ∀ w, C w → (execOp a.eval o).run P w = .ok (.value v) w) (h : wpQuiet P ops C Q rest (a.put o.dst v)) : wpQuiet P ops C Q (o :: rest) a :=
  wq_at hw (fun w hC => by unfold Oper.quietAt; rw [hv w hC]; exact ⟨rfl, rfl⟩) h
theorem wq_ask (hw : Region.wanted o (yielded ops a.tmps) = true) (h : ∃ v, (∀ w, C w → o.quietAt P a C w v) ∧ wpQuiet P ops C Q rest (a.put o.dst v)) : wpQuiet P ops C Q (o :: rest) a :=
  let ⟨_, h1, h2⟩ := h
  wq_at hw h1 h2
variable {dst : Option Tmp} {ty : TypeId} {pos : String} {aft : Array Edge} {gd : Option (Nat × Bool)}
theorem wq_load {T U : TypeId} {x : Operand} {b i : Nat} {cs : Array Value} {fr : Nat × Nat} {d : TypeDesc} (hw : Region.wanted ⟨dst, .load T x, ty, pos, aft, gd⟩ (yielded ops a.tmps) = true)
    (hL : L[i]? = some (b, .cells cs U fr)) (hx : a.eval x = .pointer (some ⟨b, 0, none⟩))
    (hu : P.underlying T = some d) (hd : (match d with | .struct _ | .array _ _ => true | _ => false) = true) (hi : (P.info? T).map (·.size) = some cs.size)
    (h : wpQuiet P ops (Mem w0 own L) Q rest (a.put dst (.agg cs))) : wpQuiet P ops (Mem w0 own L) Q (⟨dst, .load T x, ty, pos, aft, gd⟩ :: rest) a :=
  wq_run hw (fun w hC => by
    unfold execOp
    simp only [hx, Instr.loadAt, Instr.sureAddr, Sem.run_bind, Sem.run_pure, Result.andThen_ok, run_loadVar_row w b U T cs fr d (hC.heap hL) hu hd hi]) h
theorem wq_loadCell {T U : TypeId} {x : Operand} {b i off : Nat} {cs : Array Value} {v : Value} {fr : Nat × Nat} {d : TypeDesc} (hw : Region.wanted ⟨dst, .load T x, ty, pos, aft, gd⟩ (yielded ops a.tmps) = true)
    (hL : L[i]? = some (b, .cells cs U fr)) (hx : a.eval x = .pointer (some ⟨b, off, none⟩)) (hv : cs[off]? = some v)
    (hu : P.underlying T = some d) (hd : (match d with | .struct _ | .array _ _ => true | _ => false) = false)
    (h : wpQuiet P ops (Mem w0 own L) Q rest (a.put dst v)) : wpQuiet P ops (Mem w0 own L) Q (⟨dst, .load T x, ty, pos, aft, gd⟩ :: rest) a :=
  wq_run hw (fun w hC => by
    unfold execOp
    simp only [hx, Instr.loadAt, Instr.sureAddr, Sem.run_bind, Sem.run_pure, Result.andThen_ok, loadVar_cell hC hL hv hu hd]) h
theorem wq_build {T : TypeId} {parts : Array (Nat × Operand)} {ps : List (Nat × Value)} {cells : Array Value} (hw : Region.wanted ⟨dst, .build T parts, ty, pos, aft, gd⟩ (yielded ops a.tmps) = true)
    (hb : P.built T ps = some cells) (hp : (parts.map fun (i, x) => (i, a.eval x)).toList = ps)
    (h : wpQuiet P ops C Q rest (a.put dst (.agg cells))) : wpQuiet P ops C Q (⟨dst, .build T parts, ty, pos, aft, gd⟩ :: rest) a :=
  wq_run hw (fun w hC => by
    unfold execOp
    simp only [Sem.run_bind, run_build w T _ cells (hp ▸ hb), Result.andThen_ok, Sem.run_pure]) h
/-- One walk of a region that draws, in the class of the worlds that 'Mem w0 own L' tells. -/
theorem wp_quiet_mem {id : Nat} {Q : Exit → Act → World → Prop} {a : Act} {w : World} {l : List Oper} (hf : P.follows .mixedOrders = true) (hB : Region.lexB .any l.toArray = true) (hm : Mem w0 own L w)
    (h : wpQuiet P l.toArray (Mem w0 own L) (fun a' => ∀ w', Mem w0 own L w' → Q .normal a' w') l a) : (Code.region id l.toArray true).wp P Q a w :=
  wp_region_quiet (C := Mem w0 own L) hf hB (hm.drawn _) (by simpa using h)
end
/-! ### The results -/
section
variable {P : Program}
theorem results_row_tmp {fn : Func} {p q : Tmp} {T : TypeId} (h : fn.results = #[.cell p T, .tmp q]) (tmps : Array Value) (w : World) (g : Nat) (U : TypeId) (cs : Array Value) (fr : Nat × Nat) (d : TypeDesc)
    (hp : tmps.getD p undef = .pointer (some ⟨g, 0, none⟩)) (hg : w.heap[g]? = some (.cells cs U fr))
    (hu : P.underlying T = some d) (hd : (match d with | .struct _ | .array _ _ => true | _ => false) = true) (hi : (P.info? T).map (·.size) = some cs.size) :
    (results fn tmps).run P w = .ok (.tuple #[.agg cs, tmps.getD q undef]) w := by
  have hp' : tmps[p]?.getD undef = .pointer (some ⟨g, 0, none⟩) := by simpa using hp
  simp [results, h, hp', asAddr, run_loadVar_row w g U T cs fr d hg hu hd hi]
end
/-! ### Equality of arrays of integers -/
section
variable {P : Program}
theorem run_eqInts (w : World) (d : Nat) {e : TypeId} {k : IntKind} (hu : P.underlying e = some (.int k)) (xs ys : Array Value) (f g : Nat → Int) : ∀ (is : List Nat),
    (∀ i, i ∈ is → xs[i]? = some (.int k (f i)) ∧ ys[i]? = some (.int k (g i))) → (Op.eqItems (d + 1) e 1 xs ys is).run P w = .ok (is.all fun i => f i == g i) w
  | [], _ => by simp [Op.eqItems]
  | i :: is, h => by
    have he : P.plainKey e = true := by unfold Program.plainKey; rw [hu]
    have p1 := run_part_plain (P := P) w he (off := i * 1) (by rw [Nat.mul_one]; exact (h i (List.mem_cons_self ..)).1)
    have p2 := run_part_plain (P := P) w he (off := i * 1) (by rw [Nat.mul_one]; exact (h i (List.mem_cons_self ..)).2)
    have p3 := run_equalIn_int (P := P) w d e k k (f i) (g i) hu
    have ih := run_eqInts w d hu xs ys f g is fun j hj => h j (List.mem_cons_of_mem _ hj)
    simp only [Op.eqItems, Sem.run_bind, p1, p2, p3, Result.andThen_ok]
    cases hfg : (f i == g i)
    · simp [hfg]
    · simp [hfg, ih]
theorem run_equalInts (w : World) (d : Nat) {t e : TypeId} {n : Nat} {k : IntKind} (ht : P.underlying t = some (.array n e)) (hu : P.underlying e = some (.int k)) (hs : (P.info? e).map (·.size) = some 1)
    (xs ys : Array Value) (f g : Nat → Int) (h : ∀ i, i < n → xs[i]? = some (.int k (f i)) ∧ ys[i]? = some (.int k (g i))) :
    (Op.equalIn (d + 2) t (.agg xs) (.agg ys)).run P w = .ok ((List.range n).all fun i => f i == g i) w := by
  cases hi : P.info? e with
  | none => simp [hi] at hs
  | some it =>
    have hc : P.cellsOf e = 1 := by
      have : it.size = 1 := by simpa [hi] using hs
      simp [Program.cellsOf, hi, this]
    rw [run_equalIn_array w (d + 1) xs ys ht hi, hc]
    exact run_eqInts w d hu xs ys f g _ fun i hi => h i (List.mem_range.1 hi)
end
theorem wrap_u64 {x : Int} (h0 : 0 ≤ x) (h1 : x < 18446744073709551616) : IntKind.u64.wrap x = x := by
  simp only [IntKind.wrap, IntKind.bits, IntKind.signed, Bool.false_and, Bool.true_and, decide_eq_true_eq, Bool.false_eq_true, if_false]; omega
theorem wrap_u8 {x : Int} (h0 : 0 ≤ x) (h1 : x < 256) : IntKind.u8.wrap x = x := by
  simp only [IntKind.wrap, IntKind.bits, IntKind.signed, Bool.false_and, Bool.true_and, decide_eq_true_eq, Bool.false_eq_true, if_false]; omega
theorem wrap_i64 {x : Int} (h0 : -9223372036854775808 ≤ x) (h1 : x < 9223372036854775808) : IntKind.i64.wrap x = x := by
  rw [IntKind.wrap_i64]; omega
/-! ### Arrays told by a function of the place -/
@[irreducible] def rowOf (n : Nat) (f : Nat → Value) : Array Value := Array.ofFn (n := n) fun i => f i.1
theorem rowOf_size (n : Nat) (f : Nat → Value) : (rowOf n f).size = n := by unfold rowOf; simp
theorem rowOf_get (n : Nat) (f : Nat → Value) (i : Nat) (h : i < n) : (rowOf n f)[i]? = some (f i) := by unfold rowOf; simp [h]
theorem rowOf_congr {n : Nat} {f g : Nat → Value} (h : ∀ i, i < n → f i = g i) : rowOf n f = rowOf n g := by
  apply Array.ext_getElem?
  intro i
  by_cases hi : i < n
  · rw [rowOf_get n f i hi, rowOf_get n g i hi, h i hi]
  · rw [Array.getElem?_eq_none (by rw [rowOf_size]; omega), Array.getElem?_eq_none (by rw [rowOf_size]; omega)]
theorem rowOf_set (n : Nat) (f : Nat → Value) (i : Nat) (v : Value) : (rowOf n f).setIfInBounds i v = rowOf n (fun j => if j = i then v else f j) := by
  apply Array.ext_getElem?
  intro j
  rw [Array.getElem?_setIfInBounds, rowOf_size]
  by_cases hj : j < n
  · rw [rowOf_get n f j hj, rowOf_get _ _ j hj]
    by_cases hij : i = j
    · subst hij; simp [hj]
    · rw [if_neg hij, if_neg (fun e => hij e.symm)]
  · rw [Array.getElem?_eq_none (by rw [rowOf_size]; omega : (rowOf n f).size ≤ j), Array.getElem?_eq_none (by rw [rowOf_size]; omega)]
    split
    · rename_i h1; rw [if_neg (by omega)]
    · rfl
theorem rowOf_one (n : Nat) (f : Nat → Value) (h : ∀ i, i < n → (f i).oneCell' = true) : (rowOf n f).all (·.oneCell') = true := by
  rw [Array.all_eq_true]
  intro i hi
  have hi' : i < n := by simpa [rowOf_size] using hi
  have := rowOf_get n f i hi'
  rw [Array.getElem?_eq_getElem hi] at this
  rw [Option.some.inj this]
  exact h i hi'
end Go.Proofs.Ytijkmbebfodhdaa

/- (Mem2) -/
namespace Go.Proofs.Ytijkmbebfodhdaa
open Go.RowKit
set_option linter.unusedSimpArgs false
set_option linter.unusedVariables false
/-- T is a slice type over E, whose values take sz cells. -/
def El (P : Program) (T E : TypeId) (sz bytes : Nat) (z : Value) : Prop := P.underlying T = some (.slice E) ∧ ∃ i, P.info? E = some i ∧ i.size = sz ∧ i.bytes = bytes ∧ i.zero = some z
theorem El.mk {P : Program} {T E : TypeId} {sz bytes : Nat} {z : Value} (h : P.underlying T = some (.slice E)) (hi : (P.info? E).map (fun i => (i.zero, i.size, i.bytes)) = some (some z, sz, bytes)) : El P T E sz bytes z := by
  refine ⟨h, ?_⟩
  cases hq : P.info? E with
  | none => simp [hq] at hi
  | some i =>
    simp [hq] at hi
    exact ⟨i, rfl, hi.2.1, hi.2.2, hi.1⟩
section
variable {w0 w w' : World} {own : List Nat} {L : List (Nat × Obj)}
/-- A new block takes the place of another one in the list. -/
theorem Mem.moved {b : Nat} {o : Obj} (h : Mem w0 own ((b, o) :: L) w) (i : Nat) : Mem w0 own (L.set i (b, o)) w := by
  have key : ∀ j p, (L.set i (b, o))[j]? = some p → (j = i ∧ p = (b, o)) ∨ (j ≠ i ∧ L[j]? = some p) := fun j p hj => by
    rw [List.getElem?_set] at hj
    split at hj
    · rename_i hij
      split at hj
      · exact Or.inl ⟨hij.symm, (Option.some.inj hj).symm⟩
      · cases hj
    · rename_i hij
      exact Or.inr ⟨fun e => hij e.symm, hj⟩
  have far : ∀ (j : Nat) (p : Nat × Obj), L[j]? = some p → p.1 ≠ b := fun j p hj e => by
    have := h.apart (j + 1) 0 p (b, o) (by simpa using hj) (by simp) e
    omega
  refine ⟨h.os, h.tape, h.output, h.size, h.old, fun p hp => ?_, fun p hp => ?_, fun j k p q hj hk e => ?_⟩
  · obtain ⟨j, hj⟩ := List.mem_iff_getElem?.1 hp
    rcases key j p hj with ⟨_, rfl⟩ | ⟨_, hj⟩
    · exact h.has _ (List.mem_cons_self ..)
    · exact h.has _ (List.mem_cons_of_mem _ (List.mem_of_getElem? hj))
  · obtain ⟨j, hj⟩ := List.mem_iff_getElem?.1 hp
    rcases key j p hj with ⟨_, rfl⟩ | ⟨_, hj⟩
    · exact h.may _ (List.mem_cons_self ..)
    · exact h.may _ (List.mem_cons_of_mem _ (List.mem_of_getElem? hj))
  · rcases key j p hj with ⟨hji, rfl⟩ | ⟨hji, hj⟩
    · rcases key k q hk with ⟨hki, rfl⟩ | ⟨hki, hk⟩
      · rw [hji, hki]
      · exact (far k q hk e.symm).elim
    · rcases key k q hk with ⟨hki, rfl⟩ | ⟨hki, hk⟩
      · exact (far j p hj e).elim
      · have := h.apart (j + 1) (k + 1) p q (by simpa using hj) (by simpa using hk) e
        omega
end
theorem grownCap_le (w : World) (need old : Nat) (e : TypeId) : need ≤ grownCap w need old e := by
  unfold grownCap Question.cut
  exact Nat.le_add_right _ _
theorem grownCap_max (w : World) (need old : Nat) (e : TypeId) (h : need < 2 ^ 63) : grownCap w need old e < 2 ^ 63 := by
  unfold grownCap Question.cut
  have := Nat.mod_lt (w.tape w.drawn (.appendCap need old e)) (show 0 < 2 ^ 63 - need by omega)
  simp only
  omega
theorem zeroCells_size (z : Array Value) (n : Nat) : (Builtin.zeroCells z n).size = n * z.size := by simp [Builtin.zeroCells]
section
variable {P : Program} {ops : Array Oper} {Q : Exit → Act → World → Prop} {rest : List Oper} {a : Act} {w0 w : World} {own : List Nat} {L : List (Nat × Obj)}
  {dst : Option Tmp} {ty : TypeId} {pos : String} {aft : Array Edge} {gd : Option (Nat × Bool)} {K : Act → World → Prop}
/-- 'append' onto a slice that begins at the head of a block of ours. -/
theorem ow_append {T E : TypeId} {sz bytes : Nat} {z : Value} {x y : Operand} {g i n cap m c : Nat} {cur : Array Value} {ad : Addr} {news : List Value} (hm : Mem w0 own L w) (hel : El P T E sz bytes z) (hz : z.cells.size = sz)
    (hL : L[i]? = some (g, .cells cur E (0, 0))) (hx : a.eval x = .slice (some ⟨g, 0, none⟩) n cap) (hy : a.eval y = .slice (some ad) m c) (hcap : n ≤ cap) (hcur : cur.size = cap * sz)
    (hl : news.length = m * sz) (hnews : ∀ j u, news[j]? = some u → w.cell? (ad.add j) = some u) (h1 : ∀ u ∈ news, u.oneCell' = true) (hb : (n + m) * bytes ≤ 140737488355328) (hb' : n + m < 2 ^ 63)
    (h : ∀ g' cap' cur' w', Mem w0 own (L.set i (g', .cells cur' E (0, 0))) w' → n + m ≤ cap' → (cap < 2 ^ 63 → cap' < 2 ^ 63) → cur'.size = cap' * sz → (∀ j, j < n * sz → cur'[j]? = cur[j]?) → (∀ j, j < m * sz → cur'[n * sz + j]? = news[j]?) → (n + m ≤ cap → cap' = cap) →
      K (a.put dst (.slice (some ⟨g', 0, none⟩) (n + m) cap')) w') : Oper.wp P ⟨dst, .call ⟨.builtin .append, #[x, y], #[T, T]⟩, ty, pos, aft, gd⟩ a w K Q := by
  obtain ⟨ht, it, hi, rfl, rfl, hzz⟩ := hel
  have hcells : ∀ j v, (cur.toList.take (n * it.size))[j]? = some v → w.cell? ((⟨g, 0, none⟩ : Addr).add j) = some v := fun j v hv => by
    rw [Addr.add_mid, hm.cell hL]
    rw [List.getElem?_take] at hv
    split at hv
    · simpa using hv
    · cases hv
  have hle : n * it.size ≤ cap * it.size := Nat.mul_le_mul_right _ hcap
  by_cases hroom : n + m ≤ cap
  · have hfit : n * it.size + news.length ≤ cur.size := by rw [hl, hcur, ← Nat.add_mul]; exact Nat.mul_le_mul_right _ hroom
    have hr := run_append_room (P := P) w T ty E it ht hi g n cap cur (hm.heap hL) ad m c news hl hnews h1 hroom hfit
    unfold Oper.wp execOp
    simp only [resolve, invoke, builtin, Sem.run_bind, Sem.run_pure, Result.andThen_ok, List.map_toArray, List.map_cons, List.map_nil, hx, hy, hr]
    refine h g cap _ _ (hm.setRow hL _) hroom id ?_ ?_ ?_ (fun _ => rfl)
    · simp; rw [hl] at hfit ⊢; omega
    · intro j hj
      have : j < cur.toList.length := by simp; omega
      simp only [List.getElem?_toArray, List.append_assoc]
      rw [List.getElem?_append_left (by simp; omega), List.getElem?_take, if_pos hj]
      simp
    · intro j hj
      simp only [List.getElem?_toArray, List.append_assoc]
      have e : (cur.toList.take (n * it.size)).length = n * it.size := by simp; omega
      rw [List.getElem?_append_right (by omega), e, Nat.add_sub_cancel_left, List.getElem?_append_left (by omega)]
  · have hr := run_append_grow (P := P) w T ty E it z ht hi hzz ⟨g, 0, none⟩ n cap (cur.toList.take (n * it.size)) (by simp; omega) hcells ad m c news hl hnews (by omega) (by omega) (growslice_fits (by omega) hb)
    unfold Oper.wp execOp
    simp only [resolve, invoke, builtin, Sem.run_bind, Sem.run_pure, Result.andThen_ok, List.map_toArray, List.map_cons, List.map_nil, hx, hy, hr]
    have hge := grownCap_le w (n + m) cap E
    refine h _ _ _ _ ((hm.drew.alloc _).moved i) hge (fun _ => grownCap_max w _ _ _ hb') ?_ ?_ ?_ (fun h => absurd h hroom)
    · simp only [Array.size_append, List.size_toArray, zeroCells_size, hl, hz, List.length_take, Array.length_toList]
      rw [Nat.min_eq_left (by omega), ← Nat.add_mul, ← Nat.add_mul]
      congr 1
      omega
    · intro j hj
      have e : (cur.toList.take (n * it.size)).length = n * it.size := by simp; omega
      rw [Array.append_assoc, Array.getElem?_append_left (by simp; omega)]
      simp [List.getElem?_take, hj]
    · intro j hj
      have e : (cur.toList.take (n * it.size)).length = n * it.size := by simp; omega
      rw [Array.append_assoc, Array.getElem?_append_right (by simp; omega)]
      simp only [List.size_toArray, e, Nat.add_sub_cancel_left]
      rw [Array.getElem?_append_left (by simp; omega)]
      simp
/-- 'append' onto a nil slice. -/
theorem ow_append_nil {T E : TypeId} {sz bytes : Nat} {z : Value} {x y : Operand} {m c : Nat} {ad : Addr} {news : List Value} (hm : Mem w0 own L w) (hel : El P T E sz bytes z) (hz : z.cells.size = sz)
    (hx : a.eval x = .slice none 0 0) (hy : a.eval y = .slice (some ad) m c) (hm0 : 0 < m)
    (hl : news.length = m * sz) (hnews : ∀ j u, news[j]? = some u → w.cell? (ad.add j) = some u) (hb : m * bytes ≤ 140737488355328) (hb' : m < 2 ^ 63)
    (h : ∀ g' cap' cur' w', Mem w0 own ((g', .cells cur' E (0, 0)) :: L) w' → m ≤ cap' → cap' < 2 ^ 63 → cur'.size = cap' * sz → (∀ j, j < m * sz → cur'[j]? = news[j]?) →
      K (a.put dst (.slice (some ⟨g', 0, none⟩) m cap')) w') : Oper.wp P ⟨dst, .call ⟨.builtin .append, #[x, y], #[T, T]⟩, ty, pos, aft, gd⟩ a w K Q := by
  obtain ⟨ht, it, hi, rfl, rfl, hzz⟩ := hel
  have hr := run_append_nil (P := P) w T ty E it z ht hi hzz ad m c news hl hnews hm0 (by omega) (by omega)
  unfold Oper.wp execOp
  simp only [resolve, invoke, builtin, Sem.run_bind, Sem.run_pure, Result.andThen_ok, List.map_toArray, List.map_cons, List.map_nil, hx, hy, hr]
  have hge := grownCap_le w m 0 E
  refine h _ _ _ _ (hm.drew.alloc _) hge (grownCap_max w _ _ _ hb') ?_ ?_
  · simp only [Array.size_append, List.size_toArray, zeroCells_size, hl, hz]
    rw [← Nat.add_mul]
    congr 1
    omega
  · intro j hj
    rw [Array.getElem?_append_left (by simp; omega)]
    simp
theorem ow_buildSlice {T E : TypeId} {sz bytes : Nat} {z : Value} {len : Nat} {parts : Array (Nat × Operand)} {ps : List (Nat × Value)} {cells : Array Value} (hm : Mem w0 own L w) (hel : El P T E sz bytes z) (h0 : len * sz ≠ 0) (hb : len * sz ≤ 16777216)
    (hp : (parts.map fun (i, x) => (i, a.eval x)).toList = ps) (hc : Instr.fill (fun i => some (i * sz, sz)) ((Array.range (len * sz)).map fun i => z.cells[i % z.cells.size]!) ps = some cells)
    (h : ∀ g w', Mem w0 own ((g, .cells cells E (0, 0)) :: L) w' → K (a.put dst (.slice (some ⟨g, 0, none⟩) len len)) w') : Oper.wp P ⟨dst, .buildSlice T len parts, ty, pos, aft, gd⟩ a w K Q := by
  obtain ⟨ht, it, hi, rfl, rfl, hzz⟩ := hel
  have hr : ∀ pp : Array (Nat × Value), pp.toList = ps → (Instr.buildSlice T len pp).run P w = .ok (.slice (some ⟨w.heap.size, 0, none⟩) len len) (w.alloc (.cells cells E)) := fun pp hpp => by
    have hn : ¬ (16777216 < len * it.size) := by omega
    simp [Instr.buildSlice, run_underlying ht, sizeOf, typeInfo, hi, zeroValue, hzz, newRow, hn, h0, hpp, hc]
  unfold Oper.wp execOp
  simp only [Sem.run_bind, Sem.run_pure, Result.andThen_ok, hr _ hp]
  exact h _ _ (hm.alloc _)
theorem fill_one (z v : Value) (h : v.cells = #[v]) : Instr.fill (fun i => some (i * 1, 1)) ((Array.range (1 * 1)).map fun i => z.cells[i % z.cells.size]!) [(0, v)] = some #[v] := by
  simp [Instr.fill, h, show Array.range 1 = #[0] from rfl]
theorem news_of {g i : Nat} {cs : Array Value} {U : TypeId} {fr : Nat × Nat} (hm : Mem w0 own L w) (hL : L[i]? = some (g, .cells cs U fr)) : ∀ j u, cs.toList[j]? = some u → w.cell? ((⟨g, 0, none⟩ : Addr).add j) = some u := fun j u hj => by
  rw [Addr.add_mid, hm.cell hL]
  simpa using hj
/-- n bytes, told by a function of the place. -/
@[irreducible] def bytesB (n : Nat) (f : Nat → Nat) : ByteArray := ⟨((List.range n).map fun j => UInt8.ofNat (f j)).toArray⟩
theorem bytesB_size (n : Nat) (f : Nat → Nat) : (bytesB n f).size = n := by unfold bytesB; simp [ByteArray.size]
theorem bytesB_toList (n : Nat) (f : Nat → Nat) : (bytesB n f).data.toList = (List.range n).map fun j => UInt8.ofNat (f j) := by unfold bytesB; simp
theorem foldl_push (l : List Int) : ∀ (s : ByteArray), l.foldl (fun r n => r.push (UInt8.ofNat n.toNat)) s = ⟨(s.data.toList ++ l.map fun n => UInt8.ofNat n.toNat).toArray⟩ := by
  induction l with
  | nil => intro s; simp
  | cons n l ih => intro s; rw [List.foldl_cons, ih]; simp
theorem run_toString {S D E : TypeId} (hs : P.underlying S = some (.slice E)) (he : P.underlying E = some (.int .u8)) (hd : P.underlying D = some .string) (hm : Mem w0 own L w) {i g off n cap : Nat} {cur : Array Value} {U : TypeId} {fr : Nat × Nat} (hL : L[i]? = some (g, .cells cur U fr))
    (f : Nat → Nat) (hc : ∀ j, j < n → cur[off + j]? = some (.int .u8 ((f j : Nat) : Int))) : (convert S D (.slice (some ⟨g, off, none⟩) n cap)).run P w = .ok (.string (bytesB n f)) w := by
  have hl : (loadCells ⟨g, off, none⟩ ((List.range n).map fun j => Value.int .u8 ((f j : Nat) : Int)).length).run P w = .ok ((List.range n).map fun j => Value.int .u8 ((f j : Nat) : Int)).toArray w :=
    run_loadCells_list (P := P) w ⟨g, off, none⟩ _ (fun j v hv => by
      rw [Addr.add_mid, hm.cell hL]
      rw [List.getElem?_map] at hv
      by_cases hj : j < n
      · rw [hc j hj]
        simpa [hj] using hv
      · simp [List.getElem?_eq_none (show (List.range n).length ≤ j by simp; omega)] at hv)
  rw [run_convert_bytes_string w S D E _ _ _ hs he hd, run_bytesToString w ⟨g, off, none⟩ n cap ((List.range n).map fun j => ((f j : Nat) : Int)) (by simpa [List.map_map, Function.comp_def] using hl), foldl_push]
  unfold bytesB
  simp [List.map_map, Function.comp_def]
end
end Go.Proofs.Ytijkmbebfodhdaa

/- (LabA) -/
namespace Go.Proofs.Ytijkmbebfodhdaa
open Go.RowKit
set_option linter.unusedSimpArgs false
set_option linter.unusedVariables false
set_option maxHeartbeats 400000
set_option maxRecDepth 20000
attribute [local irreducible] wpQuiet wpList wpAnyH Calls
noncomputable def labFields : Array Field := match Try.prog.underlying 26 with | some (.struct fs) => fs | _ => #[]
theorem undLabel : Try.prog.underlying 26 = some (.struct labFields) := by kernel_rfl
theorem sizeLabel : (Try.prog.info? 26).map (·.size) = some 2 := by kernel_rfl
theorem zeroLabel : (Try.prog.info? 26).bind (·.zero) = some (.agg #[.int .i64 0, .int .u64 0]) := by kernel_rfl
theorem undInt : Try.prog.underlying 3 = some (.int .i64) := by kernel_rfl
theorem undU64 : Try.prog.underlying 22 = some (.int .u64) := by kernel_rfl
theorem sizeInt : (Try.prog.info? 3).map (·.size) = some 1 := by kernel_rfl
theorem sizeU64 : (Try.prog.info? 22).map (·.size) = some 1 := by kernel_rfl
/-- The n highest of 64 bits. -/
@[irreducible] def hd (v n : Nat) : Nat := v / 2 ^ (64 - n) * 2 ^ (64 - n)
@[irreducible] def labV (len : Int) (b : Nat) : Value := .agg #[.int .i64 len, .int .u64 (b : Int)]
theorem labV_eq (len : Int) (b : Nat) : labV len b = .agg #[.int .i64 len, .int .u64 (b : Int)] := by unfold labV; rfl
theorem labV_cells (len : Int) (b : Nat) : (labV len b).cells = #[.int .i64 len, .int .u64 (b : Int)] := by rw [labV_eq]; rfl
end Go.Proofs.Ytijkmbebfodhdaa

/- (LabR) -/
namespace Go.Proofs.Ytijkmbebfodhdaa
open Go.RowKit
set_option linter.unusedSimpArgs false
set_option linter.unusedVariables false
set_option maxHeartbeats 400000
set_option maxRecDepth 20000
def eqLab (l : Int) (b : Nat) (l' : Int) (b' : Nat) : Bool := l == l' && b == b'
theorem run_equalL (l l' : Int) (b b' : Nat) (w : World) : (Op.equalIn 10000 26 (.agg #[.int .i64 l, .int .u64 (b : Int)]) (.agg #[.int .i64 l', .int .u64 (b' : Int)])).run Try.prog w =
    .ok (eqLab l b l' b') w := by
  go_simp
  unfold eqLab
  by_cases h1 : l = l' <;> by_cases h2 : b = b' <;> simp [h1, h2, Int.natCast_inj]
@[go_sem] theorem run_eqlL (l l' : Int) (b b' : Nat) (w : World) : (binOp .eql 26 (labV l b) (labV l' b')).run Try.prog w = .ok (.bool (eqLab l b l' b')) w := by
  rw [labV_eq, labV_eq, run_eql_struct, run_equalL]; rfl
@[go_sem] theorem run_guardL (op : BinOp) (x y : Operand) (l l' : Int) (b b' : Nat) (w : World) : (eqGuard op 26 x y (labV l b) (labV l' b')).run Try.prog w = .ok () w := by
  rw [labV_eq, labV_eq]
  exact run_eqGuard_agg w op _ x y _ _ (by kernel_rfl)
end Go.Proofs.Ytijkmbebfodhdaa

/- (Mem4) -/
namespace Go.Proofs.Ytijkmbebfodhdaa
open Go.RowKit
set_option linter.unusedSimpArgs false
set_option linter.unusedVariables false
section
variable {P : Program} {ops : Array Oper} {Q : Exit → Act → World → Prop} {rest : List Oper} {a : Act} {w0 w : World} {own : List Nat} {L : List (Nat × Obj)}
  {dst : Option Tmp} {ty : TypeId} {pos : String} {aft : Array Edge} {gd : Option (Nat × Bool)}
theorem Mem.range (hm : Mem w0 own L w) {i b off : Nat} {cs : Array Value} {U : TypeId} {fr : Nat × Nat} (hL : L[i]? = some (b, .cells cs U fr)) {vs : List Value}
    (hv : ∀ j v, vs[j]? = some v → cs[off + j]? = some v) : w.rangeAt b off vs := fun j v h => by
  rw [hm.cell hL]; exact hv j v h
theorem wl_loadMid {T U : TypeId} {x : Operand} {b i off : Nat} {cs : Array Value} {vs : List Value} {fr : Nat × Nat} {d : TypeDesc} (hw : Region.wanted ⟨dst, .load T x, ty, pos, aft, gd⟩ (yielded ops a.tmps) = true)
    (hm : Mem w0 own L w) (hL : L[i]? = some (b, .cells cs U fr)) (hx : a.eval x = .pointer (some ⟨b, off, none⟩)) (hv : ∀ j v, vs[j]? = some v → cs[off + j]? = some v)
    (hu : P.underlying T = some d) (hd : d.isRow = true) (hi : (P.info? T).map (·.size) = some vs.length)
    (h : wpList P ops Q rest (a.put dst (.agg vs.toArray)) w) : wpList P ops Q (⟨dst, .load T x, ty, pos, aft, gd⟩ :: rest) a w :=
  wl_op hw fun K hK => wp_load_mid T x rfl b off hx vs d (hm.range hL hv) hu hd hi (hK _ _ h)
theorem wl_buildSlice {T E : TypeId} {sz bytes : Nat} {z : Value} {len : Nat} {parts : Array (Nat × Operand)} {ps : List (Nat × Value)} {cells : Array Value} (hw : Region.wanted ⟨dst, .buildSlice T len parts, ty, pos, aft, gd⟩ (yielded ops a.tmps) = true)
    (hm : Mem w0 own L w) (hel : El P T E sz bytes z) (h0 : len * sz ≠ 0) (hb : len * sz ≤ 16777216)
    (hp : (parts.map fun (i, x) => (i, a.eval x)).toList = ps) (hc : Instr.fill (fun i => some (i * sz, sz)) ((Array.range (len * sz)).map fun i => z.cells[i % z.cells.size]!) ps = some cells)
    (h : ∀ g w', Mem w0 own ((g, .cells cells E (0, 0)) :: L) w' → wpList P ops Q rest (a.put dst (.slice (some ⟨g, 0, none⟩) len len)) w') : wpList P ops Q (⟨dst, .buildSlice T len parts, ty, pos, aft, gd⟩ :: rest) a w :=
  wl_op hw fun K hK => ow_buildSlice hm hel h0 hb hp hc fun g w' hm' => hK _ _ (h g w' hm')
end
end Go.Proofs.Ytijkmbebfodhdaa

/- (Mem6) -/
namespace Go.Proofs.Ytijkmbebfodhdaa
open Go.RowKit
set_option linter.unusedVariables false
section
variable {p0 p1 p2 p3 p4 p5 p6 p7 p8 p9 p : Nat × Obj} {L : List (Nat × Obj)}
theorem at0 : (p :: L)[0]? = some p := rfl
theorem at1 : (p0 :: p :: L)[1]? = some p := rfl
theorem at2 : (p0 :: p1 :: p :: L)[2]? = some p := rfl
theorem at3 : (p0 :: p1 :: p2 :: p :: L)[3]? = some p := rfl
theorem at4 : (p0 :: p1 :: p2 :: p3 :: p :: L)[4]? = some p := rfl
theorem at5 : (p0 :: p1 :: p2 :: p3 :: p4 :: p :: L)[5]? = some p := rfl
theorem at6 : (p0 :: p1 :: p2 :: p3 :: p4 :: p5 :: p :: L)[6]? = some p := rfl
theorem at7 : (p0 :: p1 :: p2 :: p3 :: p4 :: p5 :: p6 :: p :: L)[7]? = some p := rfl
theorem at8 : (p0 :: p1 :: p2 :: p3 :: p4 :: p5 :: p6 :: p7 :: p :: L)[8]? = some p := rfl
theorem at9 : (p0 :: p1 :: p2 :: p3 :: p4 :: p5 :: p6 :: p7 :: p8 :: p :: L)[9]? = some p := rfl
end
/-! Short names of list laws, and the heap's laws with their plain premises found by themselves. -/
section
variable {α : Type}
theorem k1 (l : List α) (i : Nat) (x : α) : l.toArray.setIfInBounds i x = (l.set i x).toArray := List.setIfInBounds_toArray _ _ _
theorem k2 (x y : α) (l : List α) : (x :: l).set 0 y = y :: l := rfl
theorem k4 {xs : List α} {i : Nat} (h : i < xs.toArray.size) : xs.toArray[i] = xs[i]'(by simpa using h) := List.getElem_toArray h
theorem k5 {x : α} {l : List α} {h : 0 < (x :: l).length} : getElem (x :: l) 0 h = x := rfl
theorem k6 {x : α} {l : List α} {i : Nat} {h : i + 1 < (x :: l).length} : getElem (x :: l) (i + 1) h = getElem l i (Nat.lt_of_succ_lt_succ h) := rfl
theorem k7 (xs : Array α) (i : Nat) (d : α) : xs.getD i d = xs[i]?.getD d := Array.getD_eq_getD_getElem? ..
theorem k8 (xs : List α) (i : Nat) : xs.toArray[i]? = xs[i]? := List.getElem?_toArray
theorem k9 (x : α) (l : List α) : (x :: l)[0]? = some x := rfl
theorem kA (x : α) (l : List α) (i : Nat) : (x :: l)[i + 1]? = l[i]? := rfl
theorem k3 (x y : α) (l : List α) (n : Nat) : (x :: l).set (n + 1) y = x :: l.set n y := rfl
end
section
open Region
variable {P : Program} {ops : Array Oper} {Q : Exit → Act → World → Prop} {rest : List Oper} {a : Act} {w0 w : World} {own : List Nat} {L : List (Nat × Obj)}
  {dst : Option Tmp} {ty : TypeId} {pos : String} {aft : Array Edge} {gd : Option (Nat × Bool)}
theorem stAl {T : TypeId} (h : Stop (wpList P ops Q (⟨dst, .alloc T, ty, pos, aft, gd⟩ :: rest) a w)) : wpList P ops Q (⟨dst, .alloc T, ty, pos, aft, gd⟩ :: rest) a w := Stop.mk h
theorem stBo {T : TypeId} {x : Operand} (h : Stop (wpList P ops Q (⟨dst, .box T x, ty, pos, aft, gd⟩ :: rest) a w)) : wpList P ops Q (⟨dst, .box T x, ty, pos, aft, gd⟩ :: rest) a w := Stop.mk h
theorem stLo {T : TypeId} {x : Operand} (h : Stop (wpList P ops Q (⟨dst, .load T x, ty, pos, aft, gd⟩ :: rest) a w)) : wpList P ops Q (⟨dst, .load T x, ty, pos, aft, gd⟩ :: rest) a w := Stop.mk h
theorem stSo {T : TypeId} {x y : Operand} (h : Stop (wpList P ops Q (⟨dst, .store T x y, ty, pos, aft, gd⟩ :: rest) a w)) : wpList P ops Q (⟨dst, .store T x y, ty, pos, aft, gd⟩ :: rest) a w := Stop.mk h
theorem stBu {T : TypeId} {p : Array (Nat × Operand)} (h : Stop (wpList P ops Q (⟨dst, .build T p, ty, pos, aft, gd⟩ :: rest) a w)) : wpList P ops Q (⟨dst, .build T p, ty, pos, aft, gd⟩ :: rest) a w := Stop.mk h
theorem stBs {T : TypeId} {n : Nat} {p : Array (Nat × Operand)} (h : Stop (wpList P ops Q (⟨dst, .buildSlice T n p, ty, pos, aft, gd⟩ :: rest) a w)) : wpList P ops Q (⟨dst, .buildSlice T n p, ty, pos, aft, gd⟩ :: rest) a w := Stop.mk h
theorem stMs {T : TypeId} {x y : Operand} (h : Stop (wpList P ops Q (⟨dst, .makeSlice T x y, ty, pos, aft, gd⟩ :: rest) a w)) : wpList P ops Q (⟨dst, .makeSlice T x y, ty, pos, aft, gd⟩ :: rest) a w := Stop.mk h
theorem stAp {p : Array Operand} {q : Array TypeId} (h : Stop (wpList P ops Q (⟨dst, .call ⟨.builtin .append, p, q⟩, ty, pos, aft, gd⟩ :: rest) a w)) : wpList P ops Q (⟨dst, .call ⟨.builtin .append, p, q⟩, ty, pos, aft, gd⟩ :: rest) a w := Stop.mk h
theorem stCo {p : Array Operand} {q : Array TypeId} (h : Stop (wpList P ops Q (⟨dst, .call ⟨.builtin .copy, p, q⟩, ty, pos, aft, gd⟩ :: rest) a w)) : wpList P ops Q (⟨dst, .call ⟨.builtin .copy, p, q⟩, ty, pos, aft, gd⟩ :: rest) a w := Stop.mk h
theorem wlA {T : TypeId} {z : Value} {cs : Array Value} (hw : Region.wanted ⟨dst, .alloc T, ty, pos, aft, gd⟩ (yielded ops a.tmps) = true := by rfl) (hz : (P.info? T).bind (·.zero) = some z) (hc : z.cells = cs := by rfl) (hm : Mem w0 own L w)
    (h : ∀ b w', Mem w0 own ((b, .cells cs T) :: L) w' → wpList P ops Q rest (a.put dst (.pointer (some ⟨b, 0, none⟩))) w') :
    wpList P ops Q (⟨dst, .alloc T, ty, pos, aft, gd⟩ :: rest) a w := wl_alloc hw hz hc hm h
theorem wlL {T U : TypeId} {x : Operand} {b i : Nat} {cs : Array Value} {fr : Nat × Nat} {d : TypeDesc} (hw : Region.wanted ⟨dst, .load T x, ty, pos, aft, gd⟩ (yielded ops a.tmps) = true := by rfl) (hm : Mem w0 own L w) (hx : a.eval x = .pointer (some ⟨b, 0, none⟩) := by rfl) (hL : L[i]? = some (b, .cells cs U fr) := by with_reducible first | exact at0 | exact at1 | exact at2 | exact at3 | exact at4 | exact at5 | exact at6 | exact at7 | exact at8 | exact at9)
    (hu : P.underlying T = some d) (hd : (match d with | .struct _ | .array _ _ => true | _ => false) = true := by rfl) (hi : (P.info? T).map (·.size) = some cs.size)
    (h : wpList P ops Q rest (a.put dst (.agg cs)) w) : wpList P ops Q (⟨dst, .load T x, ty, pos, aft, gd⟩ :: rest) a w := wl_load hw hm hL hx hu hd hi h
theorem wlS {T U : TypeId} {x y : Operand} {v : Value} {b i : Nat} {cs cs' : Array Value} (hw : Region.wanted ⟨dst, .store T x y, ty, pos, aft, gd⟩ (yielded ops a.tmps) = true := by rfl) (hm : Mem w0 own L w) (hx : a.eval x = .pointer (some ⟨b, 0, none⟩) := by rfl) (hy : a.eval y = v := by rfl) (hL : L[i]? = some (b, .cells cs U (0, 0)) := by with_reducible first | exact at0 | exact at1 | exact at2 | exact at3 | exact at4 | exact at5 | exact at6 | exact at7 | exact at8 | exact at9) (hv : v = .agg cs')
    (hi : (P.info? T).map (·.size) = some cs'.size) (hs : cs.size = cs'.size) (h1 : cs'.all (·.oneCell') = true := by first | rfl | (simp only [List.size_toArray, List.length_cons, List.all_toArray', List.all_cons, List.all_nil, Value.oneCell', Bool.and_true, Bool.and_self]; done) | (simp [Value.oneCell']; done) | exact rowOf_one _ _ (fun _ _ => rfl) | (exact rowOf_one _ _ (by intro i _; repeat (first | rfl | split))))
    (h : ∀ w', Mem w0 own (L.set i (b, .cells cs' U (0, 0))) w' → wpList P ops Q rest (a.put dst undef) w') : wpList P ops Q (⟨dst, .store T x y, ty, pos, aft, gd⟩ :: rest) a w := wl_store hw hm hL hx hy hv hi hs h1 h
theorem wlSC {T U : TypeId} {x y : Operand} {b i off : Nat} {cs : Array Value} {v : Value} (hw : Region.wanted ⟨dst, .store T x y, ty, pos, aft, gd⟩ (yielded ops a.tmps) = true := by rfl) (hm : Mem w0 own L w) (hx : a.eval x = .pointer (some ⟨b, off, none⟩) := by rfl) (hy : a.eval y = v := by rfl) (hL : L[i]? = some (b, .cells cs U (0, 0)) := by with_reducible first | exact at0 | exact at1 | exact at2 | exact at3 | exact at4 | exact at5 | exact at6 | exact at7 | exact at8 | exact at9)
    (h1 : v.oneCell' = true := by rfl) (hi : (P.info? T).map (·.size) = some 1) (ho : off < cs.size)
    (h : ∀ w', Mem w0 own (L.set i (b, .cells (cs.setIfInBounds off v) U (0, 0))) w' → wpList P ops Q rest (a.put dst undef) w') : wpList P ops Q (⟨dst, .store T x y, ty, pos, aft, gd⟩ :: rest) a w := wl_storeCell hw hm hL hx hy h1 hi ho h
theorem wlLC {T U : TypeId} {x : Operand} {b i off : Nat} {cs : Array Value} {v : Value} {fr : Nat × Nat} {d : TypeDesc} (hw : Region.wanted ⟨dst, .load T x, ty, pos, aft, gd⟩ (yielded ops a.tmps) = true := by rfl) (hm : Mem w0 own L w) (hx : a.eval x = .pointer (some ⟨b, off, none⟩) := by rfl) (hL : L[i]? = some (b, .cells cs U fr) := by with_reducible first | exact at0 | exact at1 | exact at2 | exact at3 | exact at4 | exact at5 | exact at6 | exact at7 | exact at8 | exact at9)
    (hv : cs[off]? = some v := by rfl) (hu : P.underlying T = some d) (hd : (match d with | .struct _ | .array _ _ => true | _ => false) = false := by rfl)
    (h : wpList P ops Q rest (a.put dst v) w) : wpList P ops Q (⟨dst, .load T x, ty, pos, aft, gd⟩ :: rest) a w := wl_loadCell hw hm hL hx hv hu hd h
variable {S : World → Prop} {md : Region.Mode} {fuel : Nat} {listed : Array Bool} {i : Nat} {oi : Oper}
theorem whS {v : Value} (hi : ops[i]? = some oi := by rfl) (hs : Region.noSelect ops = true := by kernel_rfl) (hf : Region.free md ops listed i = true := by kernel_rfl) (hr : (Region.ready md ops listed).contains i = true := by kernel_rfl)
    (hQ : ∀ c v (a : Act) w, Q (.panic c) (a.put oi.dst v) w → Q (.panic c) a w := by exact fun _ _ _ _ h => h) (hw : Region.wanted oi (yielded ops a.tmps) = true := by rfl) (hS : S w)
    (h1 : ∀ w, S w → (execOp a.eval oi).run P w = .ok (.value v) w := by intro w hC; go_simp; try with_reducible rfl) (h : wpAnyH P md ops Q S fuel (listed.setIfInBounds i true) (a.put oi.dst v) w) : wpAnyH P md ops Q S (fuel + 1) listed a w :=
  wh_any hi hs hf hr hQ hw hS ⟨v, h1, h⟩
end
section
variable {P : Program} {ops : Array Oper} {C : World → Prop} {Q : Act → Prop} {rest : List Oper} {a : Act} {o : Oper} {w0 : World} {own : List Nat} {L : List (Nat × Obj)}
variable {dst : Option Tmp} {ty : TypeId} {pos : String} {aft : Array Edge} {gd : Option (Nat × Bool)}
theorem wqS {v : Value} (hw : Region.wanted o (yielded ops a.tmps) = true := by rfl) (h1 : ∀ w, C w → (execOp a.eval o).run P w = .ok (.value v) w := by intro w hC; go_simp; (try with_reducible rfl); done) (h : wpQuiet P ops C Q rest (a.put o.dst v)) : wpQuiet P ops C Q (o :: rest) a := wq_run hw h1 h
theorem wqL {T U : TypeId} {x : Operand} {b i : Nat} {cs : Array Value} {fr : Nat × Nat} {d : TypeDesc} (hw : Region.wanted ⟨dst, .load T x, ty, pos, aft, gd⟩ (yielded ops a.tmps) = true := by rfl)
    (hx : a.eval x = .pointer (some ⟨b, 0, none⟩) := by rfl) (hL : L[i]? = some (b, .cells cs U fr) := by with_reducible first | exact at0 | exact at1 | exact at2 | exact at3 | exact at4 | exact at5 | exact at6 | exact at7 | exact at8 | exact at9)
    (hu : P.underlying T = some d) (hd : (match d with | .struct _ | .array _ _ => true | _ => false) = true := by rfl) (hi : (P.info? T).map (·.size) = some cs.size)
    (h : wpQuiet P ops (Mem w0 own L) Q rest (a.put dst (.agg cs))) : wpQuiet P ops (Mem w0 own L) Q (⟨dst, .load T x, ty, pos, aft, gd⟩ :: rest) a := wq_load hw hL hx hu hd hi h
theorem wqLC {T U : TypeId} {x : Operand} {b i off : Nat} {cs : Array Value} {v : Value} {fr : Nat × Nat} {d : TypeDesc} (hw : Region.wanted ⟨dst, .load T x, ty, pos, aft, gd⟩ (yielded ops a.tmps) = true := by rfl)
    (hx : a.eval x = .pointer (some ⟨b, off, none⟩) := by rfl) (hL : L[i]? = some (b, .cells cs U fr) := by with_reducible first | exact at0 | exact at1 | exact at2 | exact at3 | exact at4 | exact at5 | exact at6 | exact at7 | exact at8 | exact at9) (hv : cs[off]? = some v := by rfl)
    (hu : P.underlying T = some d) (hd : (match d with | .struct _ | .array _ _ => true | _ => false) = false := by rfl)
    (h : wpQuiet P ops (Mem w0 own L) Q rest (a.put dst v)) : wpQuiet P ops (Mem w0 own L) Q (⟨dst, .load T x, ty, pos, aft, gd⟩ :: rest) a := wq_loadCell hw hL hx hv hu hd h
end
end Go.Proofs.Ytijkmbebfodhdaa

/- (LabB) -/
namespace Go.Proofs.Ytijkmbebfodhdaa
open Go.RowKit
set_option linter.unusedSimpArgs false
set_option linter.unusedVariables false
set_option maxHeartbeats 400000
set_option maxRecDepth 20000
attribute [local irreducible] wpQuiet wpList wpAnyH Calls
/-- The bits of the second child. -/
@[irreducible] def kid (b n : Nat) : Nat := b + 2 ^ (63 - n)
end Go.Proofs.Ytijkmbebfodhdaa

/- (Txt) -/
namespace Go.Proofs.Ytijkmbebfodhdaa
set_option linter.unusedSimpArgs false
set_option linter.unusedVariables false
set_option maxRecDepth 20000
theorem bytesB_congr {n : Nat} {f g : Nat → Nat} (h : ∀ i, i < n → f i = g i) : bytesB n f = bytesB n g := by
  apply ByteArray.ext
  apply Array.toList_inj.1
  rw [bytesB_toList, bytesB_toList]
  exact List.map_congr_left fun i hi => by rw [h i (List.mem_range.1 hi)]
theorem bytesB_append (a b : Nat) (f g : Nat → Nat) : bytesB a f ++ bytesB b g = bytesB (a + b) fun i => if i < a then f i else g (i - a) := by
  apply ByteArray.ext
  apply Array.toList_inj.1
  rw [ByteArray.data_append, Array.toList_append, bytesB_toList, bytesB_toList, bytesB_toList]
  apply List.ext_getElem?
  intro i
  by_cases h : i < a
  · rw [List.getElem?_append_left (by simpa using h)]
    simp [List.getElem?_map, List.getElem?_range, h, show i < a + b from by omega]
  · rw [List.getElem?_append_right (by simpa using h)]
    by_cases h2 : i < a + b
    · simp [List.getElem?_map, List.getElem?_range, h, h2, show i - a < b from by omega]
    · rw [List.getElem?_eq_none (by simp; omega), List.getElem?_eq_none (by simp; omega)]
theorem bytesB_take (n m : Nat) (f : Nat → Nat) (h : m ≤ n) : (bytesB n f).extract 0 m = bytesB m f := by
  apply ByteArray.ext
  apply Array.toList_inj.1
  rw [ByteArray.data_extract, Array.toList_extract, bytesB_toList, bytesB_toList, List.extract_eq_take_drop]
  apply List.ext_getElem?
  intro i
  by_cases hi : i < m
  · simp [List.getElem?_take, hi, List.getElem?_map, List.getElem?_range, show i < n from by omega]
  · rw [List.getElem?_eq_none (by simp; omega), List.getElem?_eq_none (by simp; omega)]
theorem bytesB_drop (n m : Nat) (f : Nat → Nat) (h : m ≤ n) : (bytesB n f).extract m n = bytesB (n - m) fun i => f (m + i) := by
  apply ByteArray.ext
  apply Array.toList_inj.1
  rw [ByteArray.data_extract, Array.toList_extract, bytesB_toList, bytesB_toList, List.extract_eq_take_drop]
  apply List.ext_getElem?
  intro i
  by_cases hi : i < n - m
  · simp [List.getElem?_take, hi, List.getElem?_map, List.getElem?_range, show m + i < n from by omega]
  · rw [List.getElem?_eq_none (by simp; omega), List.getElem?_eq_none (by simp; omega)]
theorem bytesB_get {n : Nat} {f : Nat → Nat} {i : Nat} (h : i < n) : (bytesB n f).data.toList[i]? = some (UInt8.ofNat (f i)) := by
  rw [bytesB_toList]
  simp [List.getElem?_map, List.getElem?_range, h]
/-- Every row of bytes is told by a function of the place. -/
theorem bytes_of (s : ByteArray) : s = bytesB s.size fun i => ((s.data.toList[i]?).getD 0).toNat := by
  apply ByteArray.ext
  apply Array.toList_inj.1
  rw [bytesB_toList]
  apply List.ext_getElem?
  intro i
  have hs : s.data.toList.length = s.size := Array.length_toList
  by_cases h : i < s.size
  · have h' : i < s.data.toList.length := by omega
    rw [List.getElem?_map, List.getElem?_range h, Option.map_some, List.getElem?_eq_getElem h', Option.getD_some, UInt8.ofNat_toNat]
  · rw [List.getElem?_eq_none (by omega), List.getElem?_eq_none (by simp; omega)]
/-- n bits of v as a text, the highest one first. -/
@[irreducible] def txt (n v : Nat) : ByteArray := bytesB n fun i => 48 + v / 2 ^ (n - 1 - i) % 2
theorem str_eq (a b : ByteArray) : (a.toList == b.toList) = decide (a = b) := by
  rw [← Go.beq_toListBytes, Bool.eq_iff_iff, Go.MapKept.bytes_beq, decide_eq_true_iff]
end Go.Proofs.Ytijkmbebfodhdaa

/- (RefA) -/
namespace Go.Proofs.Ytijkmbebfodhdaa
open Go.RowKit
set_option linter.unusedSimpArgs false
set_option linter.unusedVariables false
set_option maxHeartbeats 1000000
set_option maxRecDepth 20000
attribute [local irreducible] wpQuiet wpList wpAnyH Calls
/-- What the walk is told of a callee. -/
def Says (f : FuncId) (args : Array Value) (v : Value) : Prop := ∀ w, Calls Try.prog f args w fun e w' => e = .returned v ∧ Ext w w'
theorem undS : Try.prog.underlying 9 = some .string := by kernel_rfl
/-- A byte of a text. -/
theorem run_indexS {s : ByteArray} {k c : Nat} (h : s.data.toList[k]? = some (UInt8.ofNat c)) (hc : c < 256) (w : World) : (Instr.index 9 (.string s) (.int .i64 (k : Int))).run Try.prog w = .ok (.int .u8 (c : Int)) w := by
  have hk : k < s.data.toList.length := (List.getElem?_eq_some_iff.1 h).1
  have hb : s[k]? = some (UInt8.ofNat c) := by
    have : s.data[k]? = some (UInt8.ofNat c) := by rw [← Array.getElem?_toList]; exact h
    have hs : k < s.size := by rw [Array.length_toList] at hk; exact hk
    rw [getElem?_pos s k hs]
    rw [Array.getElem?_eq_getElem hs] at this
    exact this
  have hc' : (UInt8.ofNat c).toNat = c := by simp only [UInt8.toNat_ofNat']; omega
  simp [Instr.index, asIntOf, run_underlying undS, hb, hc']
theorem slice_to {s t : ByteArray} {n : Nat} (hn : n ≤ s.size) (h : s.extract 0 n = t) (w : World) : (Instr.slice 9 (.string s) none (some (.int .i64 (n : Int))) none).run Try.prog w = .ok (.string t) w := by
  rw [run_slice_string_to_if _ _ _ _ _ undS, if_pos ⟨by omega, by omega⟩, Int.toNat_natCast, h]
theorem slice_from {s t : ByteArray} {n : Nat} (hn : n ≤ s.size) (h : s.extract n s.size = t) (w : World) : (Instr.slice 9 (.string s) (some (.int .i64 (n : Int))) none none).run Try.prog w = .ok (.string t) w := by
  rw [run_slice_string_from_if _ _ _ _ _ undS, if_pos ⟨by omega, by omega⟩, Int.toNat_natCast, h]
end Go.Proofs.Ytijkmbebfodhdaa

/- (Shelf5) -/
namespace Go.Proofs
open Go.Shelf
def Try.lays129_ren : Go.Shelf.Ren := ⟨fun | 129 => 83 | n => n, fun | 53 => 22 | 3 => 3 | 4 => 4 | 46 => 73 | 5 => 5 | 9 => 9 | n => n, fun | n => n⟩
theorem Try.lays129 : Go.Proofs.Lays.n129 Try.prog Try.lays129_ren := {
  mixed := by kernel_rfl
  f129 := Try.func83.trans (congrArg some (by kernel_rfl))
  t3 := Try.underlying3
  a3 := Try.isAgg3
  z3 := Try.sizeOf3
  v3 := Try.zeroValue3
  t4 := Try.underlying4
  a4 := Try.isAgg4
  z4 := Try.sizeOf4
  v4 := Try.zeroValue4
  t5 := Try.underlying5
  a5 := Try.isAgg5
  z5 := Try.sizeOf5
  v5 := Try.zeroValue5
  t9 := Try.underlying9
  a9 := Try.isAgg9
  z9 := Try.sizeOf9
  v9 := Try.zeroValue9
  t46 := Try.underlying73
  a46 := Try.isAgg73
  z46 := Try.sizeOf73
  v46 := Try.zeroValue73
  t53 := Try.underlying22
  a53 := Try.isAgg22
  z53 := Try.sizeOf22
  v53 := Try.zeroValue22 }
/-- bits.Len64: "Len64 returns the minimum number of bits required to represent x; the result is 0 for x == 0.": IT RETURNS 'Lib.bitLen x'; the world is as it was. ('h0', 'h1': x is a uint64.) (LAID: no walk: one application.) -/
theorem Try.bits_Len64 (x : Int) (w : World) (h0 : 0 ≤ x) (h1 : x ≤ 18446744073709551615) :
    Calls Try.prog 83 #[.int .u64 x] w fun e w' => e = .returned (.int .i64 (Lib.bitLen x.toNat)) ∧ w' = w := Any.bits_Len64 Try.lays129 x w h0 h1
end Go.Proofs

/- (Mem7) -/
namespace Go.Proofs.Ytijkmbebfodhdaa
open Go.RowKit
set_option linter.unusedSimpArgs false
set_option linter.unusedVariables false
theorem Mem.start {w : World} {b : Nat} {o : Obj} (h : w.heap[b]? = some o) : Mem w [b] [(b, o)] w :=
  ⟨rfl, rfl, rfl, Nat.le_refl _, fun _ _ _ => rfl, fun p hp => by rw [List.mem_singleton.1 hp]; exact h, fun p hp => by rw [List.mem_singleton.1 hp]; exact Or.inr (List.mem_singleton.2 rfl),
   fun i j p q hi hj _ => by
    have h1 := (List.getElem?_eq_some_iff.1 hi).1
    have h2 := (List.getElem?_eq_some_iff.1 hj).1
    simp at h1 h2
    omega⟩
/-- Behind a callee that owned the blocks of B: it hands M back. -/
theorem Mem.callOwn {w0 w w' : World} {own : List Nat} {A B M : List (Nat × Obj)} (h : Mem w0 own (B ++ A) w) (hx : Mem w (B.map (·.1)) M w') : Mem w0 own (M ++ A) w' := by
  have far : ∀ p, p ∈ A → p.1 ∉ B.map (·.1) := fun p hp hq => by
    obtain ⟨q, hqB, e⟩ := List.mem_map.1 hq
    obtain ⟨i, hi⟩ := List.mem_iff_getElem?.1 hqB
    obtain ⟨j, hj⟩ := List.mem_iff_getElem?.1 hp
    have hil : i < B.length := (List.getElem?_eq_some_iff.1 hi).1
    have := h.apart i (B.length + j) q p (by rw [List.getElem?_append_left hil]; exact hi) (by rw [List.getElem?_append_right (by omega), Nat.add_sub_cancel_left]; exact hj) e
    omega
  have inA : ∀ p, p ∈ A → p ∈ B ++ A := fun p hp => List.mem_append.2 (Or.inr hp)
  have mayM : ∀ p, p ∈ M → w.heap.size ≤ p.1 ∨ p.1 ∈ B.map (·.1) := hx.may
  refine ⟨hx.os.trans h.os, hx.tape.trans h.tape, hx.output.trans h.output, Nat.le_trans h.size hx.size, fun k hk hn => ?_, fun p hp => ?_, fun p hp => ?_, fun i j p q hi hj e => ?_⟩
  · have hkB : k ∉ B.map (·.1) := fun hq => by
      obtain ⟨q, hqB, e⟩ := List.mem_map.1 hq
      rcases h.may q (List.mem_append.2 (Or.inl hqB)) with hm | hm
      · omega
      · exact hn (by rw [← e]; exact hm)
    rw [hx.old k (Nat.lt_of_lt_of_le hk h.size) hkB]
    exact h.old k hk hn
  · rcases List.mem_append.1 hp with hp | hp
    · exact hx.has p hp
    · rw [hx.old p.1 (h.lt (inA p hp)) (far p hp)]
      exact h.has p (inA p hp)
  · rcases List.mem_append.1 hp with hp | hp
    · rcases mayM p hp with hm | hm
      · exact Or.inl (Nat.le_trans h.size hm)
      · obtain ⟨q, hqB, e⟩ := List.mem_map.1 hm
        rw [← e]
        exact h.may q (List.mem_append.2 (Or.inl hqB))
    · exact h.may p (inA p hp)
  · have apartAM : ∀ (p q : Nat × Obj), p ∈ M → q ∈ A → p.1 ≠ q.1 := fun p q hp hq e => by
      rcases mayM p hp with hm | hm
      · have := h.lt (inA q hq); omega
      · exact far q hq (by rw [← e]; exact hm)
    by_cases hiM : i < M.length
    · rw [List.getElem?_append_left hiM] at hi
      by_cases hjM : j < M.length
      · rw [List.getElem?_append_left hjM] at hj
        exact hx.apart i j p q hi hj e
      · rw [List.getElem?_append_right (by omega)] at hj
        exact (apartAM p q (List.mem_of_getElem? hi) (List.mem_of_getElem? hj) e).elim
    · rw [List.getElem?_append_right (by omega)] at hi
      by_cases hjM : j < M.length
      · rw [List.getElem?_append_left hjM] at hj
        exact (apartAM q p (List.mem_of_getElem? hj) (List.mem_of_getElem? hi) e.symm).elim
      · rw [List.getElem?_append_right (by omega)] at hj
        have := h.apart (B.length + (i - M.length)) (B.length + (j - M.length)) p q (by rw [List.getElem?_append_right (by omega), Nat.add_sub_cancel_left]; exact hi) (by rw [List.getElem?_append_right (by omega), Nat.add_sub_cancel_left]; exact hj) e
        omega
end Go.Proofs.Ytijkmbebfodhdaa

/- (Mem9) -/
namespace Go.Proofs.Ytijkmbebfodhdaa
open Go.RowKit
set_option linter.unusedSimpArgs false
set_option linter.unusedVariables false
/-- The first n cells of block g read as F says; L tells other blocks. -/
def KeepS (w0 : World) (own : List Nat) (L : List (Nat × Obj)) (g n : Nat) (F : Nat → Value) (w : World) : Prop := Mem w0 own L w ∧ ∀ j, j < n → w.cell? ⟨g, j, none⟩ = some (F j)
section
variable {P : Program} {ops : Array Oper} {Q : Exit → Act → World → Prop} {rest : List Oper} {a : Act} {w0 w w' : World} {own : List Nat} {L : List (Nat × Obj)}
  {dst : Option Tmp} {ty : TypeId} {pos : String} {aft : Array Edge} {gd : Option (Nat × Bool)} {K : Act → World → Prop} {g n : Nat} {F : Nat → Value}
theorem cell_ext (hx : Ext w w') {b j : Nat} {v : Value} (h : w.cell? ⟨b, j, none⟩ = some v) : w'.cell? ⟨b, j, none⟩ = some v := by
  have hb : b < w.heap.size := by
    rcases Nat.lt_or_ge b w.heap.size with h' | h'
    · exact h'
    · simp [World.cell?, Array.getElem?_eq_none h'] at h
  have he := hx.old b hb (by simp)
  simp only [World.cell?] at h ⊢
  rw [he]; exact h
theorem KeepS.call (h : KeepS w0 own L g n F w) (hx : Ext w w') : KeepS w0 own L g n F w' := ⟨h.1.call hx, fun j hj => cell_ext hx (h.2 j hj)⟩
end
end Go.Proofs.Ytijkmbebfodhdaa

/- (Mem12) -/
namespace Go.Proofs.Ytijkmbebfodhdaa
open Go.RowKit
set_option linter.unusedSimpArgs false
set_option linter.unusedVariables false
theorem ow_value {P : Program} {Q : Exit → Act → World → Prop} {a : Act} {w : World} {K : Act → World → Prop} {o : Oper} {v : Value}
    (h1 : (execOp a.eval o).run P w = .ok (.value v) w) (h : K (a.put o.dst v) w) : Oper.wp P o a w K Q := by
  unfold Oper.wp
  rw [h1]
  exact h
end Go.Proofs.Ytijkmbebfodhdaa

/- (WirL) -/
namespace Go.Proofs.Ytijkmbebfodhdaa
open Go.RowKit
set_option linter.unusedSimpArgs false
set_option linter.unusedVariables false
set_option maxHeartbeats 1000000
set_option maxRecDepth 200000
attribute [local irreducible] wpQuiet wpList wpAnyH Calls
/-- How many bits. -/
def bl (v : Nat) : Nat := if v = 0 then 0 else v.log2 + 1
/-- How many bytes. -/
def nB (v : Nat) : Nat := if v = 0 then 0 else v.log2 / 8 + 1
theorem nB_bl (v : Nat) : (bl v + 7) / 8 = nB v := by unfold bl nB; split <;> omega
theorem nB_lt (v : Nat) : v < 256 ^ nB v := by
  unfold nB
  split
  · next h => rw [h]; decide
  · next h =>
    rw [show (256 : Nat) = 2 ^ 8 from rfl, ← Nat.pow_mul]
    exact Nat.lt_of_lt_of_le (Nat.lt_log2_self) (Nat.pow_le_pow_right (by omega) (by omega))
theorem nB_le (v : Nat) (h : 0 < v) : 256 ^ (nB v - 1) ≤ v := by
  unfold nB
  rw [if_neg (by omega), Nat.add_sub_cancel, show (256 : Nat) = 2 ^ 8 from rfl, ← Nat.pow_mul]
  exact Nat.le_trans (Nat.pow_le_pow_right (by omega) (by omega)) (Nat.log2_self_le (by omega))
theorem nB_pos (v : Nat) (h : 0 < v) : 0 < nB v := by unfold nB; rw [if_neg (by omega)]; omega
theorem nB_8 (v : Nat) (h : v < 2 ^ 64) : nB v ≤ 8 := by
  unfold nB
  split
  · omega
  · next h0 => have := (Nat.log2_lt h0).2 h; omega
theorem nB_unique (v k : Nat) (hk : 0 < k) (h1 : 256 ^ (k - 1) ≤ v) (h2 : v < 256 ^ k) : nB v = k := by
  have h0 : 0 < v := Nat.lt_of_lt_of_le (Nat.pow_pos (by omega)) h1
  have h3 := nB_lt v
  have h4 := nB_le v h0
  have h5 := nB_pos v h0
  have a1 : k - 1 < nB v := (Nat.pow_lt_pow_iff_right (show 1 < 256 by omega)).1 (Nat.lt_of_le_of_lt h1 h3)
  have a2 : nB v - 1 < k := (Nat.pow_lt_pow_iff_right (show 1 < 256 by omega)).1 (Nat.lt_of_le_of_lt h4 h2)
  omega
theorem bitLen_bl (v : Nat) (hv : v < 2 ^ 64) : Lib.bitLen v = bl v := by
  unfold Lib.bitLen bl
  by_cases h : v = 0
  · rw [h, Lib.bitLenAux_zero, if_pos rfl]
  · obtain ⟨h1, h2, h3⟩ := Lib.bitLenAux_bounds 64 v hv h
    rw [if_neg h, (Nat.log2_eq_iff h).2 ⟨h2, by rw [Nat.sub_add_cancel h1]; exact h3⟩]
    omega
theorem len64_c (v : Nat) (hv : v < 2 ^ 64) (w : World) : Calls Try.prog 83 #[.int .u64 (v : Int)] w fun e w' => e = .returned (.int .i64 ((bl v : Nat) : Int)) ∧ Ext w w' := by
  refine (Try.bits_Len64 (v : Int) w (by omega) (by omega)).mono ?_
  rintro e w' ⟨rfl, rfl⟩
  exact ⟨by rw [Int.toNat_natCast, bitLen_bl v hv], Ext.refl _⟩
end Go.Proofs.Ytijkmbebfodhdaa

/- (ShaI) -/
namespace Go.Proofs.Ytijkmbebfodhdaa
open Go.RowKit
set_option linter.unusedSimpArgs false
set_option linter.unusedVariables false
set_option maxHeartbeats 400000
set_option maxRecDepth 20000
attribute [local irreducible] wpQuiet wpList wpAnyH Calls
/-- Digit i (the highest is 0) of a number to the base 256, of twenty digits. -/
def dig (a i : Nat) : Nat := a / 256 ^ (19 - i) % 256
def idC (a : Nat) : Array Value := rowOf 20 fun i => .int .u8 ((dig a i : Nat) : Int)
@[irreducible] def idV (a : Nat) : Value := .agg (idC a)
theorem idV_eq (a : Nat) : idV a = .agg (idC a) := by unfold idV; rfl
theorem idC_size (a : Nat) : (idC a).size = 20 := rowOf_size _ _
theorem idC_one (a : Nat) : (idC a).all (·.oneCell') = true := rowOf_one _ _ fun _ _ => rfl
theorem idV_cells (a : Nat) : (idV a).cells = idC a := by rw [idV_eq]; rfl
theorem zeroID : (Try.prog.info? 24).bind (·.zero) = some (.agg (rowOf 20 fun _ => Value.int .u8 0)) := by
  unfold rowOf; kernel_rfl
theorem sizeID : (Try.prog.info? 24).map (·.size) = some 20 := by kernel_rfl
theorem sizeByteI : (Try.prog.info? 5).map (·.size) = some 1 := by kernel_rfl
theorem undID : Try.prog.underlying 24 = some (.array 20 5) := by kernel_rfl
theorem undByteI : Try.prog.underlying 5 = some (.int .u8) := by kernel_rfl
theorem dig_lt (a i : Nat) : dig a i < 256 := Nat.mod_lt _ (by omega)
/-- A digit's letter. -/
@[irreducible] def hexc (n : Nat) : Nat := if n < 10 then 48 + n else 87 + n
/-- Letter j of a place's text. -/
@[irreducible] def letter (a j : Nat) : Nat := hexc (if j % 2 = 0 then dig a (j / 2) / 16 else dig a (j / 2) % 16)
theorem elByteI : El Try.prog 71 5 1 1 (.int .u8 0) := El.mk (by kernel_rfl) (by kernel_rfl)
theorem undStrI : Try.prog.underlying 9 = some .string := by kernel_rfl
theorem undBytesI : Try.prog.underlying 71 = some (.slice 5) := by kernel_rfl
theorem hex_at : ∀ q : Fin 16, (({ data := #[48, 49, 50, 51, 52, 53, 54, 55, 56, 57, 97, 98, 99, 100, 101, 102] } : ByteArray)[q.1]?).map (fun b => b.toNat) = some (hexc q.1) := by
  unfold hexc; decide +kernel
@[go_sem high] theorem run_indexHex (q : Int) (h0 : 0 ≤ q) (h1 : q < 16) (w : World) : (Instr.index 9 (.string { data := #[48, 49, 50, 51, 52, 53, 54, 55, 56, 57, 97, 98, 99, 100, 101, 102] }) (.int .u8 q)).run Try.prog w = .ok (.int .u8 ((hexc q.toNat : Nat) : Int)) w := by
  have h := hex_at ⟨q.toNat, by omega⟩
  obtain ⟨b, hb, hv⟩ := Option.map_eq_some_iff.1 h
  simp only at hb hv
  simp [Instr.index, asIntOf, run_underlying undStrI, h0, hb, hv]
@[go_sem high] theorem run_indexID (a : Nat) (q : Int) (h0 : 0 ≤ q) (h1 : q < 20) (w : World) : (Instr.index 24 (idV a) (.int .i64 q)).run Try.prog w = .ok (.int .u8 ((dig a q.toNat : Nat) : Int)) w := by
  have hs := sizeByteI
  cases hi : Try.prog.info? 5 with
  | none => simp [hi] at hs
  | some it =>
    have hz : it.size = 1 := by simpa [hi] using hs
    have hp : (part 5 (idC a) q.toNat).run Try.prog w = .ok (.int .u8 ((dig a q.toNat : Nat) : Int)) w :=
      run_part_plain (P := Try.prog) w (by kernel_rfl) (rowOf_get _ _ _ (by omega))
    rw [idV_eq]
    simp [Instr.index, asIntOf, run_underlying undID, h0, h1, sizeOf, typeInfo, hi, hz, hp]
end Go.Proofs.Ytijkmbebfodhdaa

/- (WirA) -/
namespace Go.Proofs.Ytijkmbebfodhdaa
open Go.RowKit
set_option linter.unusedSimpArgs false
set_option linter.unusedVariables false
set_option maxHeartbeats 1000000
set_option maxRecDepth 20000
attribute [local irreducible] wpQuiet wpList wpAnyH Calls
/-- A row that begins with n of F's bytes. -/
def RowB (F : Nat → Nat) (n cap : Nat) (cur : Array Value) : Prop := n ≤ cap ∧ cap < 2 ^ 63 ∧ cur.size = cap ∧ ∀ j, j < n → cur[j]? = some (.int .u8 ((F j : Nat) : Int))
theorem rowB_push {F : Nat → Nat} {n cap cap' : Nat} {cur cur' : Array Value} (h : RowB F n cap cur) (p1 : n + 1 ≤ cap') (p2 : cap < 2 ^ 63 → cap' < 2 ^ 63) (p3 : cur'.size = cap' * 1) (p4 : ∀ j, j < n * 1 → cur'[j]? = cur[j]?) (p5 : cur'[n * 1 + 0]? = some (.int .u8 ((F n : Nat) : Int))) : RowB F (n + 1) cap' cur' := by
  refine ⟨p1, p2 h.2.1, by omega, fun j hj => ?_⟩
  by_cases hjn : j < n
  · rw [p4 j (by omega)]; exact h.2.2.2 j hjn
  · obtain rfl : j = n := by omega
    simpa using p5
theorem wrap_byte (x : Nat) : IntKind.u8.wrap (x : Int) = ((x % 256 : Nat) : Int) := by
  simp only [IntKind.wrap, IntKind.signed, IntKind.bits]
  simp
  try omega
/-- The bytes that a number is put as: how many, and each. -/
def numF (v j : Nat) : Nat := if j = 0 then nB v else v / 256 ^ (nB v - j) % 256
theorem numF_lt (v j : Nat) (hv : v < 2 ^ 64) : numF v j < 256 := by
  unfold numF
  split
  · have := nB_8 v hv; omega
  · omega
/-- A slice of just those bytes. -/
def BytesIn (F : Nat → Nat) (n : Nat) (w : World) (e : Ending) (w' : World) : Prop := ∃ g cap cur, e = .returned (.slice (some ⟨g, 0, none⟩) n n) ∧ RowB F n cap cur ∧ Mem w [] [(g, .cells cur 5 (0, 0))] w'
theorem wireNumber_c (v : Nat) (hv : v < 2 ^ 64) (w : World) : Calls Try.prog 47 #[.int .u64 (v : Int)] w (BytesIn (numF v) (nB v + 1) w) := by
  have hl := len64_c v hv
  have hLn := nB_bl v
  have hn8 := nB_8 v hv
  have hb64 : bl v ≤ 64 := by
    unfold bl
    split
    · omega
    · next h0 => have := (Nat.log2_lt h0).2 hv; omega
  have HF := hid (show ∀ t i, i + 1 + t = nB v → numF v (t + 1) = v / 2 ^ (8 * i) % 256 from fun t i h => by
    unfold numF
    rw [if_neg (by omega), show (256 : Nat) = 2 ^ 8 from rfl, ← Nat.pow_mul, show nB v - (t + 1) = i from by omega])
  have HF0 := hid (show numF v 0 = nB v from by unfold numF; rfl)
  obtain ⟨F, hF⟩ : ∃ F, numF v = F := ⟨_, rfl⟩
  rw [hF] at HF HF0 ⊢
  clear hF
  obtain ⟨n, hn⟩ : ∃ n, nB v = n := ⟨_, rfl⟩
  rw [hn] at hLn hn8 HF HF0 ⊢
  obtain ⟨L, hL⟩ : ∃ L, bl v = L := ⟨_, rfl⟩
  rw [hL] at hl hLn hb64
  obtain ⟨L8, hL8⟩ : ∃ x, L + 8 = x := ⟨_, rfl⟩
  obtain ⟨L7, hL7⟩ : ∃ x, L + 7 = x := ⟨_, rfl⟩
  obtain ⟨m, hm1⟩ : ∃ m, n + 1 = m := ⟨_, rfl⟩
  have f1 : IntKind.i64.wrap ((L : Int) + 8) = (L8 : Int) := by rw [wrap_i64 (by omega) (by omega)]; omega
  have f2 : IntKind.i64.wrap ((L8 : Int) - 1) = (L7 : Int) := by rw [wrap_i64 (by omega) (by omega)]; omega
  have f3 : (L7 : Int) / 8 = (n : Int) := by omega
  have f3' : (L7 : Int).tdiv 8 = (n : Int) := by rw [Int.tdiv_eq_ediv_of_nonneg (by omega)]; exact f3
  have f4 : IntKind.i64.wrap (n : Int) = (n : Int) := wrap_i64 (by omega) (by omega)
  have f5 : IntKind.u8.wrap (n : Int) = (n : Int) := wrap_u8 (by omega) (by omega)
  have f6 : IntKind.i64.wrap ((n : Int) - 1) = (n : Int) - 1 := wrap_i64 (by omega) (by omega)
  have f7 : IntKind.i64.wrap (1 + (n : Int)) = (m : Int) := by rw [wrap_i64 (by omega) (by omega)]; omega
  have HN := hid hn8
  have HV := hid hv
  have HM := hid hm1
  clear hn hL hLn hb64 hL8 hL7 hn8 hm1 hv
  go_enter Try.func47, Try.ntmps47
  have hm := Mem.refl w []
  go_wp2_with ((first | refine wpList_skip (by rfl) ?_ | (refine wlL (hm := hm) (hu := by first | exact undID) (hi := by (try simp only [rowOf_size]); first | exact sizeID) (h := ?_); (try simp only [Act.put, k1, k2, k3]); (try simp only [← idV_eq])) | (refine wlS (hm := hm) (hv := (by first | rfl | exact idV_eq _ | exact labV_eq _ _ | exact rectV_eq _ _ _ _)) (hi := by (try simp only [rowOf_size]); first | exact sizeID) (hs := by first | (simp only [rowOf_size]; done) | rfl) (h := ?_); clear hm; intro w1 hm; (try simp only [rowOf_set, k1, k2, k3, Value.cells, Act.eval, k7, k8, k9, kA, Option.getD_some] at hm)) | (refine wlA (hz := by first | exact zeroID) (hm := hm) (h := ?_); clear hm; intro b1 w1 hm; (try simp only [rowOf_set, k1, k2, k3, Value.cells, Act.eval, k7, k8, k9, kA, Option.getD_some] at hm)) | (refine wl_box (by rfl) rfl (by first | exact idV_cells _ | exact labV_cells _ _ | exact rectV_cells _ _ _ _ | rfl) hm ?_; clear hm; intro b1 w1 hm) | (go_at_call 83; refine (hl _).mono ?_; rintro e w1 ⟨rfl, hx⟩; replace hm := hm.call hx; clear hx) | (with_reducible first | refine stBs ?_ | refine stMs ?_ | refine stAp ?_ | refine stCo ?_ | (show wpList _ _ _ (⟨_, .convert 71 9 _, _, _, _, _⟩ :: _) _ _; refine Stop.mk ?_))); (try simp only [k4, k5, k6, Act.put, k1, k2, k3]))
  refine Stop.go (wl_buildSlice (ps := [(0, .int .u8 (n : Int))]) (cells := #[.int .u8 (n : Int)]) (by rfl) hm elByteI (by decide) (by decide) (by simp [Act.eval]) (fill_one _ _ rfl) ?_)
  clear hm; intro g0 w5 hm; simp only [Act.put, k1, k2, k3]
  go_wp2_with ((first | refine wpList_skip (by rfl) ?_ | (refine wlL (hm := hm) (hu := by first | exact undID) (hi := by (try simp only [rowOf_size]); first | exact sizeID) (h := ?_); (try simp only [Act.put, k1, k2, k3]); (try simp only [← idV_eq])) | (refine wlS (hm := hm) (hv := (by first | rfl | exact idV_eq _ | exact labV_eq _ _ | exact rectV_eq _ _ _ _)) (hi := by (try simp only [rowOf_size]); first | exact sizeID) (hs := by first | (simp only [rowOf_size]; done) | rfl) (h := ?_); clear hm; intro w1 hm; (try simp only [rowOf_set, k1, k2, k3, Value.cells, Act.eval, k7, k8, k9, kA, Option.getD_some] at hm)) | (refine wlA (hz := by first | exact zeroID) (hm := hm) (h := ?_); clear hm; intro b1 w1 hm; (try simp only [rowOf_set, k1, k2, k3, Value.cells, Act.eval, k7, k8, k9, kA, Option.getD_some] at hm)) | (refine wl_box (by rfl) rfl (by first | exact idV_cells _ | exact labV_cells _ _ | exact rectV_cells _ _ _ _ | rfl) hm ?_; clear hm; intro b1 w1 hm) | (go_at_call 83; refine (hl _).mono ?_; rintro e w1 ⟨rfl, hx⟩; replace hm := hm.call hx; clear hx) | (with_reducible first | refine stBs ?_ | refine stMs ?_ | refine stAp ?_ | refine stCo ?_ | (show wpList _ _ _ (⟨_, .convert 71 9 _, _, _, _, _⟩ :: _) _ _; refine Stop.mk ?_))); (try simp only [k4, k5, k6, Act.put, k1, k2, k3]))
  have hr0 : RowB F 1 1 #[.int .u8 (n : Int)] := ⟨by omega, by omega, rfl, fun j hj => by rw [show j = 0 from by omega, HF0.out]; rfl⟩
  go_loopw [4, 5] (fun vs vi wr => ∃ (t g cap : Nat) (cur : Array Value), t ≤ n ∧ vi = .int .i64 ((n : Int) - 1 - (t : Int)) ∧ vs = .slice (some ⟨g, 0, none⟩) (t + 1) cap ∧ Hid (RowB F (t + 1) cap cur) ∧ Mem w [] [(g, .cells cur 5 (0, 0))] wr)
    (fun _ vi _ => (intOf vi + 1).toNat)
  case atStart => exact ⟨0, g0, 1, _, by omega, by simp, rfl, hid hr0, hm⟩
  case round =>
    clear hm hr0
    obtain ⟨t, g, cap, cur, ht, rfl, rfl, HR, hm⟩ := hrel
    by_cases htn : t < n
    · obtain ⟨i, hi⟩ : ∃ i : Nat, i + 1 + t = n := ⟨n - 1 - t, by omega⟩
      have hx : (n : Int) - 1 - (t : Int) = (i : Int) := by omega
      have hfb := HF.out t i hi
      have hn8 := HN.out
      obtain ⟨s, hs⟩ : ∃ s, 8 * i = s := ⟨_, rfl⟩
      rw [hs] at hfb
      obtain ⟨p, hp⟩ : ∃ p, v / 2 ^ s = p := ⟨_, rfl⟩
      rw [hp] at hfb
      obtain ⟨r, hr⟩ : ∃ r, p % 256 = r := ⟨_, rfl⟩
      rw [hr] at hfb
      have g1 : IntKind.i64.wrap (8 * (i : Int)) = (s : Int) := by rw [wrap_i64 (by omega) (by omega)]; omega
      have g2 : (v : Int) / 2 ^ s = (p : Int) := by rw [← hp]; push_cast; rfl
      have g3 : IntKind.u8.wrap (p : Int) = (r : Int) := by rw [wrap_byte, hr]
      have g4 : IntKind.i64.wrap ((i : Int) - 1) = (i : Int) - 1 := wrap_i64 (by omega) (by omega)
      have z0 : (0 : Int) ≤ (s : Int) := by omega
      have z1 : (s : Int) ≤ 64 := by omega
      have z2 : (0 : Int) ≤ (i : Int) := by omega
      have HB := hid hfb
      have HI := hid hi
      rw [hx]
      clear hfb hs hp hr hx hi hn8 ht htn
      go_wp2_with ((first | refine wpList_skip (by rfl) ?_ | (refine wlL (hm := hm) (hu := by first | exact undID) (hi := by (try simp only [rowOf_size]); first | exact sizeID) (h := ?_); (try simp only [Act.put, k1, k2, k3]); (try simp only [← idV_eq])) | (refine wlS (hm := hm) (hv := (by first | rfl | exact idV_eq _ | exact labV_eq _ _ | exact rectV_eq _ _ _ _)) (hi := by (try simp only [rowOf_size]); first | exact sizeID) (hs := by first | (simp only [rowOf_size]; done) | rfl) (h := ?_); clear hm; intro w1 hm; (try simp only [rowOf_set, k1, k2, k3, Value.cells, Act.eval, k7, k8, k9, kA, Option.getD_some] at hm)) | (refine wlA (hz := by first | exact zeroID) (hm := hm) (h := ?_); clear hm; intro b1 w1 hm; (try simp only [rowOf_set, k1, k2, k3, Value.cells, Act.eval, k7, k8, k9, kA, Option.getD_some] at hm)) | (refine wl_box (by rfl) rfl (by first | exact idV_cells _ | exact labV_cells _ _ | exact rectV_cells _ _ _ _ | rfl) hm ?_; clear hm; intro b1 w1 hm) | (go_at_call 83; refine (hl _).mono ?_; rintro e w1 ⟨rfl, hx⟩; replace hm := hm.call hx; clear hx) | (with_reducible first | refine stBs ?_ | refine stMs ?_ | refine stAp ?_ | refine stCo ?_ | (show wpList _ _ _ (⟨_, .convert 71 9 _, _, _, _, _⟩ :: _) _ _; refine Stop.mk ?_))); (try simp only [k4, k5, k6, Act.put, k1, k2, k3]))
      refine Stop.go (wl_buildSlice (ps := [(0, .int .u8 (r : Int))]) (cells := #[.int .u8 (r : Int)]) (by rfl) hm elByteI (by decide) (by decide) (by simp [Act.eval]) (fill_one _ _ rfl) ?_)
      clear hm; intro gn w6 hm; simp only [Act.put, k1, k2, k3]
      go_wp2_with ((first | refine wpList_skip (by rfl) ?_ | (refine wlL (hm := hm) (hu := by first | exact undID) (hi := by (try simp only [rowOf_size]); first | exact sizeID) (h := ?_); (try simp only [Act.put, k1, k2, k3]); (try simp only [← idV_eq])) | (refine wlS (hm := hm) (hv := (by first | rfl | exact idV_eq _ | exact labV_eq _ _ | exact rectV_eq _ _ _ _)) (hi := by (try simp only [rowOf_size]); first | exact sizeID) (hs := by first | (simp only [rowOf_size]; done) | rfl) (h := ?_); clear hm; intro w1 hm; (try simp only [rowOf_set, k1, k2, k3, Value.cells, Act.eval, k7, k8, k9, kA, Option.getD_some] at hm)) | (refine wlA (hz := by first | exact zeroID) (hm := hm) (h := ?_); clear hm; intro b1 w1 hm; (try simp only [rowOf_set, k1, k2, k3, Value.cells, Act.eval, k7, k8, k9, kA, Option.getD_some] at hm)) | (refine wl_box (by rfl) rfl (by first | exact idV_cells _ | exact labV_cells _ _ | exact rectV_cells _ _ _ _ | rfl) hm ?_; clear hm; intro b1 w1 hm) | (go_at_call 83; refine (hl _).mono ?_; rintro e w1 ⟨rfl, hx⟩; replace hm := hm.call hx; clear hx) | (with_reducible first | refine stBs ?_ | refine stMs ?_ | refine stAp ?_ | refine stCo ?_ | (show wpList _ _ _ (⟨_, .convert 71 9 _, _, _, _, _⟩ :: _) _ _; refine Stop.mk ?_))); (try simp only [k4, k5, k6, Act.put, k1, k2, k3]))
      have hnw := news_of (i := 0) hm rfl
      have hn8 := HN.out
      have hi := HI.out
      refine Stop.go (wl_op (by rfl) fun K hK => ow_append (i := 1) (n := t + 1) (m := 1) (c := 1) (news := [.int .u8 (r : Int)]) (ad := ⟨gn, 0, none⟩) (sz := 1) (cur := cur) (g := g) hm elByteI ?h1 ?h2 ?h3 ?h4 HR.out.1 ?h5 ?h6 hnw ?h7 ?h8 ?h9 ?h10)
      case h1 => rfl
      case h2 => rfl
      case h3 => rfl
      case h4 => rfl
      case h5 => have := HR.out.2.2.1; omega
      case h6 => rfl
      case h7 => simp [Value.oneCell']
      case h8 => omega
      case h9 => omega
      clear hn8 hi
      intro g' cap' cur' w7 hm' p1 p2 p3 p4 p5 p6; clear hm; have hm := hm'; clear hm'; refine hK _ _ ?_; clear hK K; simp only [Act.put, k1, k2, k3]
      have HP := hid (rowB_push HR.out p1 p2 p3 p4 (by rw [p5 0 (by omega), HB.out]; rfl))
      clear p1 p2 p3 p4 p5 p6
      go_wp2_with ((first | refine wpList_skip (by rfl) ?_ | (refine wlL (hm := hm) (hu := by first | exact undID) (hi := by (try simp only [rowOf_size]); first | exact sizeID) (h := ?_); (try simp only [Act.put, k1, k2, k3]); (try simp only [← idV_eq])) | (refine wlS (hm := hm) (hv := (by first | rfl | exact idV_eq _ | exact labV_eq _ _ | exact rectV_eq _ _ _ _)) (hi := by (try simp only [rowOf_size]); first | exact sizeID) (hs := by first | (simp only [rowOf_size]; done) | rfl) (h := ?_); clear hm; intro w1 hm; (try simp only [rowOf_set, k1, k2, k3, Value.cells, Act.eval, k7, k8, k9, kA, Option.getD_some] at hm)) | (refine wlA (hz := by first | exact zeroID) (hm := hm) (h := ?_); clear hm; intro b1 w1 hm; (try simp only [rowOf_set, k1, k2, k3, Value.cells, Act.eval, k7, k8, k9, kA, Option.getD_some] at hm)) | (refine wl_box (by rfl) rfl (by first | exact idV_cells _ | exact labV_cells _ _ | exact rectV_cells _ _ _ _ | rfl) hm ?_; clear hm; intro b1 w1 hm) | (go_at_call 83; refine (hl _).mono ?_; rintro e w1 ⟨rfl, hx⟩; replace hm := hm.call hx; clear hx) | (with_reducible first | refine stBs ?_ | refine stMs ?_ | refine stAp ?_ | refine stCo ?_ | (show wpList _ _ _ (⟨_, .convert 71 9 _, _, _, _, _⟩ :: _) _ _; refine Stop.mk ?_))); (try simp only [k4, k5, k6, Act.put, k1, k2, k3]))
      go_roundw
      case rel => exact ⟨t + 1, g', cap', cur', by have := HI.out; omega, by have := HI.out; congr 1; omega, rfl, HP, hm.tail⟩
      case measure => (have := HI.out; simp [intOf]; try omega)
    · obtain rfl : t = n := by omega
      have hx : (t : Int) - 1 - (t : Int) = -1 := by omega
      have c1 : m ≤ cap := by have := HR.out.1; have := HM.out; omega
      have c2 : (m : Int) ≤ (cap : Int) := by omega
      have c3 : (0 : Int) ≤ (m : Int) := by omega
      rw [hx]
      clear hx ht htn
      go_wp2_with ((first | refine wpList_skip (by rfl) ?_ | (refine wlL (hm := hm) (hu := by first | exact undID) (hi := by (try simp only [rowOf_size]); first | exact sizeID) (h := ?_); (try simp only [Act.put, k1, k2, k3]); (try simp only [← idV_eq])) | (refine wlS (hm := hm) (hv := (by first | rfl | exact idV_eq _ | exact labV_eq _ _ | exact rectV_eq _ _ _ _)) (hi := by (try simp only [rowOf_size]); first | exact sizeID) (hs := by first | (simp only [rowOf_size]; done) | rfl) (h := ?_); clear hm; intro w1 hm; (try simp only [rowOf_set, k1, k2, k3, Value.cells, Act.eval, k7, k8, k9, kA, Option.getD_some] at hm)) | (refine wlA (hz := by first | exact zeroID) (hm := hm) (h := ?_); clear hm; intro b1 w1 hm; (try simp only [rowOf_set, k1, k2, k3, Value.cells, Act.eval, k7, k8, k9, kA, Option.getD_some] at hm)) | (refine wl_box (by rfl) rfl (by first | exact idV_cells _ | exact labV_cells _ _ | exact rectV_cells _ _ _ _ | rfl) hm ?_; clear hm; intro b1 w1 hm) | (go_at_call 83; refine (hl _).mono ?_; rintro e w1 ⟨rfl, hx⟩; replace hm := hm.call hx; clear hx) | (with_reducible first | refine stBs ?_ | refine stMs ?_ | refine stAp ?_ | refine stCo ?_ | (show wpList _ _ _ (⟨_, .convert 71 9 _, _, _, _, _⟩ :: _) _ _; refine Stop.mk ?_))); (try simp only [k4, k5, k6, Act.put, k1, k2, k3]))
      go_ret
      have := HM.out
      subst this
      exact ⟨g, cap, cur, rfl, HR.out, hm⟩
end Go.Proofs.Ytijkmbebfodhdaa

/- (WirB) -/
namespace Go.Proofs.Ytijkmbebfodhdaa
open Go.RowKit
set_option linter.unusedSimpArgs false
set_option linter.unusedVariables false
set_option maxHeartbeats 1000000
set_option maxRecDepth 20000
attribute [local irreducible] wpQuiet wpList wpAnyH Calls
theorem one_c (v : Nat) (hv : v < 2 ^ 64) : Says 46 #[.int .u64 (v : Int)] (.string (bytesB 1 fun _ => v % 256)) := by
  intro w
  obtain ⟨r, hr⟩ : ∃ r, v % 256 = r := ⟨_, rfl⟩
  have f1 : (v : Int) % 256 = (r : Int) := by omega
  have f2 : (v : Int).tmod 256 = (r : Int) := by rw [Int.tmod_eq_emod_of_nonneg (by omega)]; exact f1
  have f3 : IntKind.u64.wrap (r : Int) = (r : Int) := wrap_u64 (by omega) (by omega)
  have f4 : IntKind.u8.wrap (r : Int) = (r : Int) := wrap_u8 (by omega) (by omega)
  rw [hr]
  clear hr hv
  go_enter Try.func46, Try.ntmps46
  have hm := Mem.refl w []
  go_wp2_with ((first | refine wpList_skip (by rfl) ?_ | (refine wlL (hm := hm) (hu := by first | exact undID | exact undLabel) (hi := by (try simp only [rowOf_size, idC_size]); first | exact sizeID | exact sizeLabel) (h := ?_); (try simp only [Act.put, k1, k2, k3]); (try simp only [← labV_eq, ← idV_eq])) | refine wlLC (hm := hm) (hv := by first | exact C1.out | rfl) (hu := by first | exact undByteI | exact undInt | exact undU64) (h := ?_) | (refine wlS (hm := hm) (hv := (by first | rfl | exact idV_eq _ | exact labV_eq _ _ | exact rectV_eq _ _ _ _)) (hi := by (try simp only [rowOf_size, idC_size]); first | exact sizeID | exact sizeLabel) (hs := by first | (simp only [rowOf_size, idC_size]; done) | rfl) (h1 := by first | rfl | exact idC_one _ | exact rowOf_one _ _ (fun _ _ => rfl) | (simp only [List.size_toArray, List.length_cons, List.all_toArray', List.all_cons, List.all_nil, Value.oneCell', Bool.and_true, Bool.and_self]; done) | (simp [Value.oneCell']; done)) (h := ?_); clear hm; intro w1 hm; (try simp only [rowOf_set, k1, k2, k3, Value.cells, Act.eval, k7, k8, k9, kA, Option.getD_some] at hm)) | (refine wlSC (hm := hm) (hi := by first | exact sizeByteI | exact sizeInt | exact sizeU64) (ho := by first | decide | (simp only [rowOf_size, idC_size]; omega) | (simp; done)) (h := ?_); clear hm; intro w1 hm; (try simp only [rowOf_set, k1, k2, k3, Value.cells, Act.eval, k7, k8, k9, kA, Option.getD_some] at hm)) | (refine wlA (hz := by first | exact zeroID | exact zeroLabel) (hm := hm) (h := ?_); clear hm; intro b1 w1 hm; (try simp only [rowOf_set, k1, k2, k3, Value.cells, Act.eval, k7, k8, k9, kA, Option.getD_some] at hm)) | (refine wl_box (by rfl) rfl (by first | exact idV_cells _ | exact labV_cells _ _ | exact rectV_cells _ _ _ _ | rfl) hm ?_; clear hm; intro b1 w1 hm) | (with_reducible first | refine stBs ?_ | refine stMs ?_ | refine stAp ?_ | refine stCo ?_ | (show wpList _ _ _ (⟨_, .convert 71 9 _, _, _, _, _⟩ :: _) _ _; refine Stop.mk ?_))); (try simp only [k4, k5, k6, Act.put, k1, k2, k3]))
  refine Stop.go (wl_buildSlice (ps := [(0, .int .u8 (r : Int))]) (cells := #[.int .u8 (r : Int)]) (by rfl) hm elByteI (by decide) (by decide) (by simp [Act.eval]) (fill_one _ _ rfl) ?_)
  clear hm; intro gn w6 hm; simp only [Act.put, k1, k2, k3]
  go_wp2_with ((first | refine wpList_skip (by rfl) ?_ | (refine wlL (hm := hm) (hu := by first | exact undID | exact undLabel) (hi := by (try simp only [rowOf_size, idC_size]); first | exact sizeID | exact sizeLabel) (h := ?_); (try simp only [Act.put, k1, k2, k3]); (try simp only [← labV_eq, ← idV_eq])) | refine wlLC (hm := hm) (hv := by first | exact C1.out | rfl) (hu := by first | exact undByteI | exact undInt | exact undU64) (h := ?_) | (refine wlS (hm := hm) (hv := (by first | rfl | exact idV_eq _ | exact labV_eq _ _ | exact rectV_eq _ _ _ _)) (hi := by (try simp only [rowOf_size, idC_size]); first | exact sizeID | exact sizeLabel) (hs := by first | (simp only [rowOf_size, idC_size]; done) | rfl) (h1 := by first | rfl | exact idC_one _ | exact rowOf_one _ _ (fun _ _ => rfl) | (simp only [List.size_toArray, List.length_cons, List.all_toArray', List.all_cons, List.all_nil, Value.oneCell', Bool.and_true, Bool.and_self]; done) | (simp [Value.oneCell']; done)) (h := ?_); clear hm; intro w1 hm; (try simp only [rowOf_set, k1, k2, k3, Value.cells, Act.eval, k7, k8, k9, kA, Option.getD_some] at hm)) | (refine wlSC (hm := hm) (hi := by first | exact sizeByteI | exact sizeInt | exact sizeU64) (ho := by first | decide | (simp only [rowOf_size, idC_size]; omega) | (simp; done)) (h := ?_); clear hm; intro w1 hm; (try simp only [rowOf_set, k1, k2, k3, Value.cells, Act.eval, k7, k8, k9, kA, Option.getD_some] at hm)) | (refine wlA (hz := by first | exact zeroID | exact zeroLabel) (hm := hm) (h := ?_); clear hm; intro b1 w1 hm; (try simp only [rowOf_set, k1, k2, k3, Value.cells, Act.eval, k7, k8, k9, kA, Option.getD_some] at hm)) | (refine wl_box (by rfl) rfl (by first | exact idV_cells _ | exact labV_cells _ _ | exact rectV_cells _ _ _ _ | rfl) hm ?_; clear hm; intro b1 w1 hm) | (with_reducible first | refine stBs ?_ | refine stMs ?_ | refine stAp ?_ | refine stCo ?_ | (show wpList _ _ _ (⟨_, .convert 71 9 _, _, _, _, _⟩ :: _) _ _; refine Stop.mk ?_))); (try simp only [k4, k5, k6, Act.put, k1, k2, k3]))
  have hrs := run_toString (P := Try.prog) undBytesI undByteI undStrI hm (i := 0) (off := 0) (n := 1) (cap := 1) rfl (fun _ => r) (fun j hj => by have h0 : j = 0 := Nat.lt_one_iff.1 hj; subst h0; rfl)
  refine Stop.go ?_
  go_wp2
  go_ret
  exact ⟨rfl, hm.ext⟩
/-- The bytes of a number, from the highest. -/
def digF (v k j : Nat) : Nat := v / 256 ^ (k - 1 - j) % 256
theorem dig_push (v k : Nat) : bytesB 1 (fun _ => v / 256 ^ k % 256) ++ bytesB k (digF v k) = bytesB (k + 1) (digF v (k + 1)) := by
  rw [bytesB_append, Nat.add_comm 1 k]
  refine bytesB_congr fun j hj => ?_
  unfold digF
  split
  · next h => rw [show k + 1 - 1 - j = k from by omega]
  · next h => rw [show k - 1 - (j - 1) = k + 1 - 1 - j from by omega]
theorem num_whole (v : Nat) (hv : v < 2 ^ 64) : bytesB 1 (fun _ => nB v % 256) ++ bytesB (nB v) (digF v (nB v)) = bytesB (nB v + 1) (numF v) := by
  have := nB_8 v hv
  rw [bytesB_append, Nat.add_comm 1 (nB v)]
  refine bytesB_congr fun j hj => ?_
  unfold digF numF
  by_cases h : j = 0
  · rw [if_pos (by omega), if_pos h]; omega
  · rw [if_neg (by omega), if_neg h, show nB v - 1 - (j - 1) = nB v - j from by omega]
theorem refNumber_c (v : Nat) (hv : v < 2 ^ 64) : Says 20 #[.int .u64 (v : Int)] (.string (bytesB (nB v + 1) (numF v))) := by
  intro w
  rw [← num_whole v hv]
  have hn8 := nB_8 v hv
  have HE := hid (show ∀ k, k ≤ nB v → v / 256 ^ k = 0 → k = nB v from fun k hk h => by
    by_cases h0 : 0 < v
    · have h1 := nB_le v h0
      have h2 : v < 256 ^ k := by
        have := Nat.div_eq_zero_iff.1 h
        have hp : 0 < 256 ^ k := Nat.pow_pos (by omega)
        omega
      have h3 := (Nat.pow_lt_pow_iff_right (show 1 < 256 by omega)).1 (Nat.lt_of_le_of_lt h1 h2)
      omega
    · have : nB v = 0 := by unfold nB; rw [if_pos (by omega)]
      omega)
  have HL := hid (show ∀ k, k ≤ nB v → 0 < v / 256 ^ k → k < nB v from fun k hk h => by
    have h1 := nB_lt v
    rcases Nat.lt_or_ge k (nB v) with h2 | h2
    · exact h2
    · obtain rfl : k = nB v := by omega
      rw [Nat.div_eq_of_lt h1] at h
      omega)
  have HP := hid (dig_push v)
  have HV := hid hv
  have HN := hid hn8
  have HD := hid (show ∀ k, v / 256 ^ k < 2 ^ 64 from fun k => Nat.lt_of_le_of_lt (Nat.div_le_self _ _) hv)
  have HS := hid (show ∀ k, v / 256 ^ k / 256 = v / 256 ^ (k + 1) from fun k => by rw [Nat.div_div_eq_div_mul, ← Nat.pow_succ])
  have e0 : bytesB 0 (digF v 0) = { data := #[] } := by unfold bytesB; rfl
  obtain ⟨n, hn⟩ : ∃ n, nB v = n := ⟨_, rfl⟩
  rw [hn] at HE HL HN ⊢
  clear hn hn8 hv
  have H0 := hid e0
  clear e0
  have hv0 : v = v / 256 ^ 0 := by rw [Nat.pow_zero, Nat.div_one]
  have HZ := hid hv0
  clear hv0
  go_enter Try.func20, Try.ntmps20
  have hm := Mem.refl w []
  go_wp2_with ((first | refine wpList_skip (by rfl) ?_ | (refine wlL (hm := hm) (hu := by first | exact undID | exact undLabel) (hi := by (try simp only [rowOf_size, idC_size]); first | exact sizeID | exact sizeLabel) (h := ?_); (try simp only [Act.put, k1, k2, k3]); (try simp only [← labV_eq, ← idV_eq])) | refine wlLC (hm := hm) (hv := by first | exact C1.out | rfl) (hu := by first | exact undByteI | exact undInt | exact undU64) (h := ?_) | (refine wlS (hm := hm) (hv := (by first | rfl | exact idV_eq _ | exact labV_eq _ _ | exact rectV_eq _ _ _ _)) (hi := by (try simp only [rowOf_size, idC_size]); first | exact sizeID | exact sizeLabel) (hs := by first | (simp only [rowOf_size, idC_size]; done) | rfl) (h1 := by first | rfl | exact idC_one _ | exact rowOf_one _ _ (fun _ _ => rfl) | (simp only [List.size_toArray, List.length_cons, List.all_toArray', List.all_cons, List.all_nil, Value.oneCell', Bool.and_true, Bool.and_self]; done) | (simp [Value.oneCell']; done)) (h := ?_); clear hm; intro w1 hm; (try simp only [rowOf_set, k1, k2, k3, Value.cells, Act.eval, k7, k8, k9, kA, Option.getD_some] at hm)) | (refine wlSC (hm := hm) (hi := by first | exact sizeByteI | exact sizeInt | exact sizeU64) (ho := by first | decide | (simp only [rowOf_size, idC_size]; omega) | (simp; done)) (h := ?_); clear hm; intro w1 hm; (try simp only [rowOf_set, k1, k2, k3, Value.cells, Act.eval, k7, k8, k9, kA, Option.getD_some] at hm)) | (refine wlA (hz := by first | exact zeroID | exact zeroLabel) (hm := hm) (h := ?_); clear hm; intro b1 w1 hm; (try simp only [rowOf_set, k1, k2, k3, Value.cells, Act.eval, k7, k8, k9, kA, Option.getD_some] at hm)) | (refine wl_box (by rfl) rfl (by first | exact idV_cells _ | exact labV_cells _ _ | exact rectV_cells _ _ _ _ | rfl) hm ?_; clear hm; intro b1 w1 hm) | (go_at_call 46; refine (ho _).mono ?_; rintro e w1 ⟨rfl, hx⟩; replace hm := hm.call hx; clear hx) | (with_reducible first | refine stBs ?_ | refine stMs ?_ | refine stAp ?_ | refine stCo ?_ | (show wpList _ _ _ (⟨_, .convert 71 9 _, _, _, _, _⟩ :: _) _ _; refine Stop.mk ?_))); (try simp only [k4, k5, k6, Act.put, k1, k2, k3]))
  go_loopw [0, 3] (fun vv vo wr => ∃ k x : Nat, k ≤ n ∧ Hid (v / 256 ^ k = x) ∧ vv = .int .u64 (x : Int) ∧ vo = .string (bytesB k (digF v k)) ∧ Mem w [] [] wr)
    (fun vv _ _ => (intOf vv).toNat)
  case atStart => exact ⟨0, v, by omega, hid HZ.out.symm, rfl, by rw [H0.out], hm⟩
  case round =>
    clear hm
    obtain ⟨k, x, hk, HX, rfl, rfl, hm⟩ := hrel
    by_cases hx : 0 < x
    · have hkn := HL.out k hk (by rw [HX.out]; exact hx)
      have hxl := HD.out k
      rw [HX.out] at hxl
      have ho := one_c x hxl
      have hpush := HP.out k
      rw [HX.out] at hpush
      have hsz : ¬ 9223372036854775807 < (bytesB 1 fun _ => x % 256).size + (bytesB k (digF v k)).size := by rw [bytesB_size, bytesB_size]; have := HN.out; omega
      obtain ⟨y, hy⟩ : ∃ y, x / 256 = y := ⟨_, rfl⟩
      have f1 : (x : Int) / 256 = (y : Int) := by omega
      have f2 : (x : Int).tdiv 256 = (y : Int) := by rw [Int.tdiv_eq_ediv_of_nonneg (by omega)]; exact f1
      have f3 : IntKind.u64.wrap (y : Int) = (y : Int) := wrap_u64 (by omega) (by omega)
      have HY := hid (show v / 256 ^ (k + 1) = y from by rw [← HS.out, HX.out, hy])
      have HK := hid (show y < x from by omega)
      have HKN := hid hkn
      obtain ⟨A, hA⟩ : ∃ A, (bytesB 1 fun _ => x % 256) = A := ⟨_, rfl⟩
      obtain ⟨B, hB⟩ : ∃ B, bytesB k (digF v k) = B := ⟨_, rfl⟩
      rw [hA] at ho hpush hsz
      rw [hB] at hpush hsz ⊢
      have HU := hid hpush
      clear hA hB hy hpush hkn hxl hk
      go_wp2_with ((first | refine wpList_skip (by rfl) ?_ | (refine wlL (hm := hm) (hu := by first | exact undID | exact undLabel) (hi := by (try simp only [rowOf_size, idC_size]); first | exact sizeID | exact sizeLabel) (h := ?_); (try simp only [Act.put, k1, k2, k3]); (try simp only [← labV_eq, ← idV_eq])) | refine wlLC (hm := hm) (hv := by first | exact C1.out | rfl) (hu := by first | exact undByteI | exact undInt | exact undU64) (h := ?_) | (refine wlS (hm := hm) (hv := (by first | rfl | exact idV_eq _ | exact labV_eq _ _ | exact rectV_eq _ _ _ _)) (hi := by (try simp only [rowOf_size, idC_size]); first | exact sizeID | exact sizeLabel) (hs := by first | (simp only [rowOf_size, idC_size]; done) | rfl) (h1 := by first | rfl | exact idC_one _ | exact rowOf_one _ _ (fun _ _ => rfl) | (simp only [List.size_toArray, List.length_cons, List.all_toArray', List.all_cons, List.all_nil, Value.oneCell', Bool.and_true, Bool.and_self]; done) | (simp [Value.oneCell']; done)) (h := ?_); clear hm; intro w1 hm; (try simp only [rowOf_set, k1, k2, k3, Value.cells, Act.eval, k7, k8, k9, kA, Option.getD_some] at hm)) | (refine wlSC (hm := hm) (hi := by first | exact sizeByteI | exact sizeInt | exact sizeU64) (ho := by first | decide | (simp only [rowOf_size, idC_size]; omega) | (simp; done)) (h := ?_); clear hm; intro w1 hm; (try simp only [rowOf_set, k1, k2, k3, Value.cells, Act.eval, k7, k8, k9, kA, Option.getD_some] at hm)) | (refine wlA (hz := by first | exact zeroID | exact zeroLabel) (hm := hm) (h := ?_); clear hm; intro b1 w1 hm; (try simp only [rowOf_set, k1, k2, k3, Value.cells, Act.eval, k7, k8, k9, kA, Option.getD_some] at hm)) | (refine wl_box (by rfl) rfl (by first | exact idV_cells _ | exact labV_cells _ _ | exact rectV_cells _ _ _ _ | rfl) hm ?_; clear hm; intro b1 w1 hm) | (go_at_call 46; refine (ho _).mono ?_; rintro e w1 ⟨rfl, hx⟩; replace hm := hm.call hx; clear hx) | (with_reducible first | refine stBs ?_ | refine stMs ?_ | refine stAp ?_ | refine stCo ?_ | (show wpList _ _ _ (⟨_, .convert 71 9 _, _, _, _, _⟩ :: _) _ _; refine Stop.mk ?_))); (try simp only [k4, k5, k6, Act.put, k1, k2, k3]))
      go_roundw
      case rel => exact ⟨k + 1, y, by have := HKN.out; omega, HY, rfl, by rw [HU.out], hm⟩
      case measure => (have := HK.out; simp [intOf]; try omega)
    · obtain rfl : x = 0 := by omega
      obtain rfl := HE.out k hk HX.out
      have ho := one_c k (by have := HN.out; omega)
      have hsz := bytesB_size k (digF v k)
      have hsz2 := bytesB_size 1 (fun _ => k % 256)
      obtain ⟨A, hA⟩ : ∃ A, (bytesB 1 fun _ => k % 256) = A := ⟨_, rfl⟩
      obtain ⟨B, hB⟩ : ∃ B, bytesB k (digF v k) = B := ⟨_, rfl⟩
      rw [hA] at ho hsz2
      rw [hB] at hsz ⊢
      have HA := hid hA
      have HB := hid hB
      have f4 : IntKind.u64.wrap (k : Int) = (k : Int) := wrap_u64 (by omega) (by have := HN.out; omega)
      have hs3 : ¬ 9223372036854775807 < 1 + k := by have := HN.out; omega
      clear hA hB hk
      go_wp2_with ((first | refine wpList_skip (by rfl) ?_ | (refine wlL (hm := hm) (hu := by first | exact undID | exact undLabel) (hi := by (try simp only [rowOf_size, idC_size]); first | exact sizeID | exact sizeLabel) (h := ?_); (try simp only [Act.put, k1, k2, k3]); (try simp only [← labV_eq, ← idV_eq])) | refine wlLC (hm := hm) (hv := by first | exact C1.out | rfl) (hu := by first | exact undByteI | exact undInt | exact undU64) (h := ?_) | (refine wlS (hm := hm) (hv := (by first | rfl | exact idV_eq _ | exact labV_eq _ _ | exact rectV_eq _ _ _ _)) (hi := by (try simp only [rowOf_size, idC_size]); first | exact sizeID | exact sizeLabel) (hs := by first | (simp only [rowOf_size, idC_size]; done) | rfl) (h1 := by first | rfl | exact idC_one _ | exact rowOf_one _ _ (fun _ _ => rfl) | (simp only [List.size_toArray, List.length_cons, List.all_toArray', List.all_cons, List.all_nil, Value.oneCell', Bool.and_true, Bool.and_self]; done) | (simp [Value.oneCell']; done)) (h := ?_); clear hm; intro w1 hm; (try simp only [rowOf_set, k1, k2, k3, Value.cells, Act.eval, k7, k8, k9, kA, Option.getD_some] at hm)) | (refine wlSC (hm := hm) (hi := by first | exact sizeByteI | exact sizeInt | exact sizeU64) (ho := by first | decide | (simp only [rowOf_size, idC_size]; omega) | (simp; done)) (h := ?_); clear hm; intro w1 hm; (try simp only [rowOf_set, k1, k2, k3, Value.cells, Act.eval, k7, k8, k9, kA, Option.getD_some] at hm)) | (refine wlA (hz := by first | exact zeroID | exact zeroLabel) (hm := hm) (h := ?_); clear hm; intro b1 w1 hm; (try simp only [rowOf_set, k1, k2, k3, Value.cells, Act.eval, k7, k8, k9, kA, Option.getD_some] at hm)) | (refine wl_box (by rfl) rfl (by first | exact idV_cells _ | exact labV_cells _ _ | exact rectV_cells _ _ _ _ | rfl) hm ?_; clear hm; intro b1 w1 hm) | (go_at_call 46; refine (ho _).mono ?_; rintro e w1 ⟨rfl, hx⟩; replace hm := hm.call hx; clear hx) | (with_reducible first | refine stBs ?_ | refine stMs ?_ | refine stAp ?_ | refine stCo ?_ | (show wpList _ _ _ (⟨_, .convert 71 9 _, _, _, _, _⟩ :: _) _ _; refine Stop.mk ?_))); (try simp only [k4, k5, k6, Act.put, k1, k2, k3]))
      go_ret
      exact ⟨by rw [HA.out, HB.out] <;> rfl, hm.ext⟩
theorem putNumber_go (b : ByteArray) (v : Int) (F : Nat → Nat) (m : Nat) (hb : b.size + m < 2 ^ 62) (hc : ∀ w, Calls Try.prog 47 #[.int .u64 v] w (BytesIn F m w)) :
    Says 19 #[.string b, .int .u64 v] (.string (b ++ bytesB m F)) := by
  intro w
  have hz := bytesB_size m F
  have HB := hid hb
  go_enter Try.func19, Try.ntmps19
  have hm := Mem.refl w []
  go_wp2_with (with_reducible first | refine stAl ?_ | refine stBo ?_ | refine stLo ?_ | refine stSo ?_ | refine stBu ?_ | refine stBs ?_ | refine stMs ?_ | refine stAp ?_ | refine stCo ?_ | (show wpList _ _ _ (⟨_, .convert 71 9 _, _, _, _, _⟩ :: _) _ _; refine Stop.mk ?_))
  refine (hc _).mono ?_
  rintro e w2 ⟨g, cap, cur, rfl, hr, hx⟩
  replace hm := Mem.callOwn (B := []) hm hx
  simp only [List.append_nil] at hm
  clear hx hc hb
  go_wp2_with ((first | refine wpList_skip (by rfl) ?_ | (refine wlL (hm := hm) (hu := by first | exact undID | exact undLabel) (hi := by (try simp only [rowOf_size, idC_size]); first | exact sizeID | exact sizeLabel) (h := ?_); (try simp only [Act.put, k1, k2, k3]); (try simp only [← labV_eq, ← idV_eq])) | refine wlLC (hm := hm) (hv := by first | exact C1.out | rfl) (hu := by first | exact undByteI | exact undInt | exact undU64) (h := ?_) | (refine wlS (hm := hm) (hv := (by first | rfl | exact idV_eq _ | exact labV_eq _ _ | exact rectV_eq _ _ _ _)) (hi := by (try simp only [rowOf_size, idC_size]); first | exact sizeID | exact sizeLabel) (hs := by first | (simp only [rowOf_size, idC_size]; done) | rfl) (h1 := by first | rfl | exact idC_one _ | exact rowOf_one _ _ (fun _ _ => rfl) | (simp only [List.size_toArray, List.length_cons, List.all_toArray', List.all_cons, List.all_nil, Value.oneCell', Bool.and_true, Bool.and_self]; done) | (simp [Value.oneCell']; done)) (h := ?_); clear hm; intro w1 hm; (try simp only [rowOf_set, k1, k2, k3, Value.cells, Act.eval, k7, k8, k9, kA, Option.getD_some] at hm)) | (refine wlSC (hm := hm) (hi := by first | exact sizeByteI | exact sizeInt | exact sizeU64) (ho := by first | decide | (simp only [rowOf_size, idC_size]; omega) | (simp; done)) (h := ?_); clear hm; intro w1 hm; (try simp only [rowOf_set, k1, k2, k3, Value.cells, Act.eval, k7, k8, k9, kA, Option.getD_some] at hm)) | (refine wlA (hz := by first | exact zeroID | exact zeroLabel) (hm := hm) (h := ?_); clear hm; intro b1 w1 hm; (try simp only [rowOf_set, k1, k2, k3, Value.cells, Act.eval, k7, k8, k9, kA, Option.getD_some] at hm)) | (refine wl_box (by rfl) rfl (by first | exact idV_cells _ | exact labV_cells _ _ | exact rectV_cells _ _ _ _ | rfl) hm ?_; clear hm; intro b1 w1 hm) | (with_reducible first | refine stBs ?_ | refine stMs ?_ | refine stAp ?_ | refine stCo ?_ | (show wpList _ _ _ (⟨_, .convert 71 9 _, _, _, _, _⟩ :: _) _ _; refine Stop.mk ?_))); (try simp only [k4, k5, k6, Act.put, k1, k2, k3]))
  have hrs := run_toString (P := Try.prog) undBytesI undByteI undStrI hm (i := 0) (off := 0) (n := m) (cap := m) rfl F (fun j hj => by rw [Nat.zero_add]; exact hr.2.2.2 j hj)
  have hs3 : ¬ 9223372036854775807 < b.size + m := by have := HB.out; omega
  clear hr
  refine Stop.go ?_
  go_wp2
  go_ret
  exact ⟨rfl, hm.ext⟩
theorem putNumber_c (b : ByteArray) (v : Nat) (hv : v < 2 ^ 64) (hb : b.size < 2 ^ 61) : Says 19 #[.string b, .int .u64 (v : Int)] (.string (b ++ bytesB (nB v + 1) (numF v))) :=
  putNumber_go b v _ _ (by have := nB_8 v hv; omega) (wireNumber_c v hv)
theorem putPlace_c (b : ByteArray) (a : Nat) (hb : b.size < 2 ^ 61) : Says 21 #[.string b, idV a] (.string (b ++ bytesB 20 (dig a))) := by
  intro w
  have hz := bytesB_size 20 (dig a)
  have hs3 : ¬ 9223372036854775807 < b.size + 20 := by omega
  clear hb
  go_enter Try.func21, Try.ntmps21
  have hm := Mem.refl w []
  go_wp2_with (with_reducible first | refine stAl ?_ | refine stBo ?_ | refine stLo ?_ | refine stSo ?_ | refine stBu ?_ | refine stBs ?_ | refine stMs ?_ | refine stAp ?_ | refine stCo ?_ | (show wpList _ _ _ (⟨_, .convert 71 9 _, _, _, _, _⟩ :: _) _ _; refine Stop.mk ?_)); refine Stop.go (wl_box (by rfl) rfl (idV_cells a) hm ?_); clear hm; intro b1 w1 hm; simp only [Act.put, k1, k2, k3]; (try simp only [rowOf_set, k1, k2, k3, Value.cells, Act.eval, k7, k8, k9, kA, Option.getD_some] at hm)
  go_wp2_with ((first | refine wpList_skip (by rfl) ?_ | (refine wlL (hm := hm) (hu := by first | exact undID | exact undLabel) (hi := by (try simp only [rowOf_size, idC_size]); first | exact sizeID | exact sizeLabel) (h := ?_); (try simp only [Act.put, k1, k2, k3]); (try simp only [← labV_eq, ← idV_eq])) | refine wlLC (hm := hm) (hv := by first | exact C1.out | rfl) (hu := by first | exact undByteI | exact undInt | exact undU64) (h := ?_) | (refine wlS (hm := hm) (hv := (by first | rfl | exact idV_eq _ | exact labV_eq _ _ | exact rectV_eq _ _ _ _)) (hi := by (try simp only [rowOf_size, idC_size]); first | exact sizeID | exact sizeLabel) (hs := by first | (simp only [rowOf_size, idC_size]; done) | rfl) (h1 := by first | rfl | exact idC_one _ | exact rowOf_one _ _ (fun _ _ => rfl) | (simp only [List.size_toArray, List.length_cons, List.all_toArray', List.all_cons, List.all_nil, Value.oneCell', Bool.and_true, Bool.and_self]; done) | (simp [Value.oneCell']; done)) (h := ?_); clear hm; intro w1 hm; (try simp only [rowOf_set, k1, k2, k3, Value.cells, Act.eval, k7, k8, k9, kA, Option.getD_some] at hm)) | (refine wlSC (hm := hm) (hi := by first | exact sizeByteI | exact sizeInt | exact sizeU64) (ho := by first | decide | (simp only [rowOf_size, idC_size]; omega) | (simp; done)) (h := ?_); clear hm; intro w1 hm; (try simp only [rowOf_set, k1, k2, k3, Value.cells, Act.eval, k7, k8, k9, kA, Option.getD_some] at hm)) | (refine wlA (hz := by first | exact zeroID | exact zeroLabel) (hm := hm) (h := ?_); clear hm; intro b1 w1 hm; (try simp only [rowOf_set, k1, k2, k3, Value.cells, Act.eval, k7, k8, k9, kA, Option.getD_some] at hm)) | (refine wl_box (by rfl) rfl (by first | exact idV_cells _ | exact labV_cells _ _ | exact rectV_cells _ _ _ _ | rfl) hm ?_; clear hm; intro b1 w1 hm) | (with_reducible first | refine stBs ?_ | refine stMs ?_ | refine stAp ?_ | refine stCo ?_ | (show wpList _ _ _ (⟨_, .convert 71 9 _, _, _, _, _⟩ :: _) _ _; refine Stop.mk ?_))); (try simp only [k4, k5, k6, Act.put, k1, k2, k3]))
  have hrs := run_toString (P := Try.prog) undBytesI undByteI undStrI hm (i := 0) (off := 0) (n := 20) (cap := 20) rfl (dig a) (fun j hj => by rw [Nat.zero_add]; exact rowOf_get _ _ j hj)
  refine Stop.go ?_
  go_wp2
  go_ret
  exact ⟨rfl, hm.ext⟩
end Go.Proofs.Ytijkmbebfodhdaa

/- (WirD) -/
namespace Go.Proofs.Ytijkmbebfodhdaa
open Go.RowKit
set_option linter.unusedSimpArgs false
set_option linter.unusedVariables false
set_option maxHeartbeats 1000000
set_option maxRecDepth 20000
/-- Behind a callee that owned one block of ours, wherever it stands in the list. -/
theorem Mem.callAt {w0 w w' : World} {own : List Nat} {L : List (Nat × Obj)} {i b : Nat} {o o' : Obj} (h : Mem w0 own L w) (hi : L[i]? = some (b, o)) (hx : Mem w [b] [(b, o')] w') : Mem w0 own (L.set i (b, o')) w' := by
  have hil : i < L.length := (List.getElem?_eq_some_iff.1 hi).1
  have hmem : (b, o) ∈ L := List.mem_of_getElem? hi
  have hfst : ∀ j p, (L.set i (b, o'))[j]? = some p → ∃ q, L[j]? = some q ∧ q.1 = p.1 ∧ (j ≠ i → q = p) := fun j p hj => by
    by_cases hji : j = i
    · subst hji
      rw [List.getElem?_set_self hil] at hj
      exact ⟨_, hi, by rw [← Option.some.inj hj], fun h => (h rfl).elim⟩
    · rw [List.getElem?_set_ne (fun e => hji e.symm)] at hj
      exact ⟨p, hj, rfl, fun _ => rfl⟩
  refine ⟨hx.os.trans h.os, hx.tape.trans h.tape, hx.output.trans h.output, Nat.le_trans h.size hx.size, fun k hk hn => ?_, fun p hp => ?_, fun p hp => ?_, fun j k p q hj hk e => ?_⟩
  · have hkb : k ∉ [b] := fun hq => by
      rw [List.mem_singleton] at hq
      subst hq
      rcases h.may _ hmem with hm | hm
      · have : w0.heap.size ≤ k := hm; omega
      · exact hn hm
    rw [hx.old k (Nat.lt_of_lt_of_le hk h.size) hkb]
    exact h.old k hk hn
  · obtain ⟨j, hj⟩ := List.mem_iff_getElem?.1 hp
    by_cases hji : j = i
    · subst hji
      rw [List.getElem?_set_self hil] at hj
      rw [← Option.some.inj hj]
      exact hx.has _ (List.mem_singleton.2 rfl)
    · rw [List.getElem?_set_ne (fun e => hji e.symm)] at hj
      have hpL := List.mem_of_getElem? hj
      have hne : p.1 ∉ [b] := fun hq => by
        rw [List.mem_singleton] at hq
        exact hji (h.apart j i _ _ hj hi hq)
      rw [hx.old p.1 (h.lt hpL) hne]
      exact h.has p hpL
  · obtain ⟨j, hj⟩ := List.mem_iff_getElem?.1 hp
    obtain ⟨q, hq, e, _⟩ := hfst j p hj
    rw [← e]
    exact h.may q (List.mem_of_getElem? hq)
  · obtain ⟨p', hp', e1, _⟩ := hfst j p hj
    obtain ⟨q', hq', e2, _⟩ := hfst k q hk
    exact h.apart j k p' q' hp' hq' (by rw [e1, e2, e])
theorem undStr : Try.prog.underlying 9 = some .string := by kernel_rfl
theorem sizeStr : (Try.prog.info? 9).map (·.size) = some 1 := by kernel_rfl
theorem built_rd (s : ByteArray) : Try.prog.built 76 [(0, .string s)] = some #[.string s] := by kernel_rfl
/-- A call on a reader: it had s, and has r now. -/
def Takes (f : FuncId) (args : Array Value) (b : Nat) (s : ByteArray) (v : Value) (r : ByteArray) : Prop :=
  ∀ w, w.heap[b]? = some (.cells #[.string s] 76 (0, 0)) → Calls Try.prog f args w fun e w' => e = .returned v ∧ Mem w [b] [(b, .cells #[.string r] 76 (0, 0))] w'
attribute [local irreducible] wpQuiet wpList wpAnyH Calls
theorem new_c (s : ByteArray) (w : World) : Calls Try.prog 23 #[.string s] w fun e w' => ∃ b, e = .returned (.pointer (some ⟨b, 0, none⟩)) ∧ Mem w [] [(b, .cells #[.string s] 76 (0, 0))] w' := by
  go_enter Try.func23, Try.ntmps23
  have hm := Mem.refl w []
  go_wp2_with ((first | refine wpList_skip (by rfl) ?_ | (refine wlL (hm := hm) (hu := by first | exact undID | exact undLabel) (hi := by (try simp only [rowOf_size, idC_size]); first | exact sizeID | exact sizeLabel) (h := ?_); (try simp only [Act.put, k1, k2, k3]); (try simp only [← labV_eq, ← idV_eq])) | refine wlLC (hm := hm) (hu := by first | exact undStr | exact undByteI | exact undInt | exact undU64) (h := ?_) | (refine wlS (hm := hm) (hv := (by first | rfl | exact idV_eq _ | exact labV_eq _ _ | exact rectV_eq _ _ _ _)) (hi := by (try simp only [rowOf_size, idC_size]); first | exact sizeID | exact sizeLabel) (hs := by first | (simp only [rowOf_size, idC_size]; done) | rfl) (h1 := by first | rfl | exact idC_one _ | exact rowOf_one _ _ (fun _ _ => rfl) | (simp only [List.size_toArray, List.length_cons, List.all_toArray', List.all_cons, List.all_nil, Value.oneCell', Bool.and_true, Bool.and_self]; done) | (simp [Value.oneCell']; done)) (h := ?_); clear hm; intro w1 hm; (try simp only [rowOf_set, k1, k2, k3, Value.cells, Act.eval, k7, k8, k9, kA, Option.getD_some] at hm)) | (refine wlSC (hm := hm) (hi := by first | exact sizeStr | exact sizeByteI | exact sizeInt | exact sizeU64) (ho := by first | decide | (simp only [rowOf_size, idC_size]; omega) | (simp; done)) (h := ?_); clear hm; intro w1 hm; (try simp only [rowOf_set, k1, k2, k3, Value.cells, Act.eval, k7, k8, k9, kA, Option.getD_some] at hm)) | (refine wlA (hz := by first | exact zeroID | exact zeroLabel) (hm := hm) (h := ?_); clear hm; intro b1 w1 hm; (try simp only [rowOf_set, k1, k2, k3, Value.cells, Act.eval, k7, k8, k9, kA, Option.getD_some] at hm)) | (refine wl_box (by rfl) rfl (by first | exact idV_cells _ | exact labV_cells _ _ | exact rectV_cells _ _ _ _ | rfl) hm ?_; clear hm; intro b1 w1 hm) | (refine wl_build (by rfl) (built_rd _) rfl ?_; (try simp only [Act.put, k1, k2, k3]); (try simp only [← labV_eq, ← idV_eq])) | (with_reducible first | refine stBs ?_ | refine stMs ?_ | refine stAp ?_ | refine stCo ?_)); (try simp only [k4, k5, k6, Act.put, k1, k2, k3]))
  go_ret
  exact ⟨b1, rfl, hm⟩
theorem left_c (b : Nat) (s : ByteArray) (n : Nat) (hs : s.size = n) : Takes 27 #[.pointer (some ⟨b, 0, none⟩)] b s (.int .i64 (n : Int)) s := by
  intro w h
  go_enter Try.func27, Try.ntmps27
  have hm := Mem.start h
  go_wp2_with ((first | refine wpList_skip (by rfl) ?_ | (refine wlL (hm := hm) (hu := by first | exact undID | exact undLabel) (hi := by (try simp only [rowOf_size, idC_size]); first | exact sizeID | exact sizeLabel) (h := ?_); (try simp only [Act.put, k1, k2, k3]); (try simp only [← labV_eq, ← idV_eq])) | refine wlLC (hm := hm) (hu := by first | exact undStr | exact undByteI | exact undInt | exact undU64) (h := ?_) | (refine wlS (hm := hm) (hv := (by first | rfl | exact idV_eq _ | exact labV_eq _ _ | exact rectV_eq _ _ _ _)) (hi := by (try simp only [rowOf_size, idC_size]); first | exact sizeID | exact sizeLabel) (hs := by first | (simp only [rowOf_size, idC_size]; done) | rfl) (h1 := by first | rfl | exact idC_one _ | exact rowOf_one _ _ (fun _ _ => rfl) | (simp only [List.size_toArray, List.length_cons, List.all_toArray', List.all_cons, List.all_nil, Value.oneCell', Bool.and_true, Bool.and_self]; done) | (simp [Value.oneCell']; done)) (h := ?_); clear hm; intro w1 hm; (try simp only [rowOf_set, k1, k2, k3, Value.cells, Act.eval, k7, k8, k9, kA, Option.getD_some] at hm)) | (refine wlSC (hm := hm) (hi := by first | exact sizeStr | exact sizeByteI | exact sizeInt | exact sizeU64) (ho := by first | decide | (simp only [rowOf_size, idC_size]; omega) | (simp; done)) (h := ?_); clear hm; intro w1 hm; (try simp only [rowOf_set, k1, k2, k3, Value.cells, Act.eval, k7, k8, k9, kA, Option.getD_some] at hm)) | (refine wlA (hz := by first | exact zeroID | exact zeroLabel) (hm := hm) (h := ?_); clear hm; intro b1 w1 hm; (try simp only [rowOf_set, k1, k2, k3, Value.cells, Act.eval, k7, k8, k9, kA, Option.getD_some] at hm)) | (refine wl_box (by rfl) rfl (by first | exact idV_cells _ | exact labV_cells _ _ | exact rectV_cells _ _ _ _ | rfl) hm ?_; clear hm; intro b1 w1 hm) | (refine wl_build (by rfl) (built_rd _) rfl ?_; (try simp only [Act.put, k1, k2, k3]); (try simp only [← labV_eq, ← idV_eq])) | (with_reducible first | refine stBs ?_ | refine stMs ?_ | refine stAp ?_ | refine stCo ?_)); (try simp only [k4, k5, k6, Act.put, k1, k2, k3]))
  go_ret
  exact ⟨rfl, hm⟩
theorem take_more (b : Nat) (s : ByteArray) (m n : Nat) (hs : s.size = m) (h : m < n) : Takes 84 #[.pointer (some ⟨b, 0, none⟩), .int .i64 (n : Int)] b s (.tuple #[.string { data := #[] }, .int .i64 4]) s := by
  intro w hw
  go_enter Try.func84, Try.ntmps84
  have hm := Mem.start hw
  go_wp2_with ((first | refine wpList_skip (by rfl) ?_ | (refine wlL (hm := hm) (hu := by first | exact undID | exact undLabel) (hi := by (try simp only [rowOf_size, idC_size]); first | exact sizeID | exact sizeLabel) (h := ?_); (try simp only [Act.put, k1, k2, k3]); (try simp only [← labV_eq, ← idV_eq])) | refine wlLC (hm := hm) (hu := by first | exact undStr | exact undByteI | exact undInt | exact undU64) (h := ?_) | (refine wlS (hm := hm) (hv := (by first | rfl | exact idV_eq _ | exact labV_eq _ _ | exact rectV_eq _ _ _ _)) (hi := by (try simp only [rowOf_size, idC_size]); first | exact sizeID | exact sizeLabel) (hs := by first | (simp only [rowOf_size, idC_size]; done) | rfl) (h1 := by first | rfl | exact idC_one _ | exact rowOf_one _ _ (fun _ _ => rfl) | (simp only [List.size_toArray, List.length_cons, List.all_toArray', List.all_cons, List.all_nil, Value.oneCell', Bool.and_true, Bool.and_self]; done) | (simp [Value.oneCell']; done)) (h := ?_); clear hm; intro w1 hm; (try simp only [rowOf_set, k1, k2, k3, Value.cells, Act.eval, k7, k8, k9, kA, Option.getD_some] at hm)) | (refine wlSC (hm := hm) (hi := by first | exact sizeStr | exact sizeByteI | exact sizeInt | exact sizeU64) (ho := by first | decide | (simp only [rowOf_size, idC_size]; omega) | (simp; done)) (h := ?_); clear hm; intro w1 hm; (try simp only [rowOf_set, k1, k2, k3, Value.cells, Act.eval, k7, k8, k9, kA, Option.getD_some] at hm)) | (refine wlA (hz := by first | exact zeroID | exact zeroLabel) (hm := hm) (h := ?_); clear hm; intro b1 w1 hm; (try simp only [rowOf_set, k1, k2, k3, Value.cells, Act.eval, k7, k8, k9, kA, Option.getD_some] at hm)) | (refine wl_box (by rfl) rfl (by first | exact idV_cells _ | exact labV_cells _ _ | exact rectV_cells _ _ _ _ | rfl) hm ?_; clear hm; intro b1 w1 hm) | (refine wl_build (by rfl) (built_rd _) rfl ?_; (try simp only [Act.put, k1, k2, k3]); (try simp only [← labV_eq, ← idV_eq])) | (with_reducible first | refine stBs ?_ | refine stMs ?_ | refine stAp ?_ | refine stCo ?_)); (try simp only [k4, k5, k6, Act.put, k1, k2, k3]))
  go_ret2
  exact ⟨rfl, hm⟩
theorem take_ok (b : Nat) (s t r : ByteArray) (m n : Nat) (hs : s.size = m) (h : n ≤ m) (ht : s.extract 0 n = t) (hr : s.extract n s.size = r) : Takes 84 #[.pointer (some ⟨b, 0, none⟩), .int .i64 (n : Int)] b s (.tuple #[.string t, .int .i64 0]) r := by
  intro w hw
  have c1 := slice_to (s := s) (t := t) (n := n) (by omega) ht
  have c2 := slice_from (s := s) (t := r) (n := n) (by omega) hr
  have hnm : ¬ m < n := by omega
  clear ht hr h
  go_enter Try.func84, Try.ntmps84
  have hm := Mem.start hw
  go_wp2_with ((first | refine wpList_skip (by rfl) ?_ | (refine wlL (hm := hm) (hu := by first | exact undID | exact undLabel) (hi := by (try simp only [rowOf_size, idC_size]); first | exact sizeID | exact sizeLabel) (h := ?_); (try simp only [Act.put, k1, k2, k3]); (try simp only [← labV_eq, ← idV_eq])) | refine wlLC (hm := hm) (hu := by first | exact undStr | exact undByteI | exact undInt | exact undU64) (h := ?_) | (refine wlS (hm := hm) (hv := (by first | rfl | exact idV_eq _ | exact labV_eq _ _ | exact rectV_eq _ _ _ _)) (hi := by (try simp only [rowOf_size, idC_size]); first | exact sizeID | exact sizeLabel) (hs := by first | (simp only [rowOf_size, idC_size]; done) | rfl) (h1 := by first | rfl | exact idC_one _ | exact rowOf_one _ _ (fun _ _ => rfl) | (simp only [List.size_toArray, List.length_cons, List.all_toArray', List.all_cons, List.all_nil, Value.oneCell', Bool.and_true, Bool.and_self]; done) | (simp [Value.oneCell']; done)) (h := ?_); clear hm; intro w1 hm; (try simp only [rowOf_set, k1, k2, k3, Value.cells, Act.eval, k7, k8, k9, kA, Option.getD_some] at hm)) | (refine wlSC (hm := hm) (hi := by first | exact sizeStr | exact sizeByteI | exact sizeInt | exact sizeU64) (ho := by first | decide | (simp only [rowOf_size, idC_size]; omega) | (simp; done)) (h := ?_); clear hm; intro w1 hm; (try simp only [rowOf_set, k1, k2, k3, Value.cells, Act.eval, k7, k8, k9, kA, Option.getD_some] at hm)) | (refine wlA (hz := by first | exact zeroID | exact zeroLabel) (hm := hm) (h := ?_); clear hm; intro b1 w1 hm; (try simp only [rowOf_set, k1, k2, k3, Value.cells, Act.eval, k7, k8, k9, kA, Option.getD_some] at hm)) | (refine wl_box (by rfl) rfl (by first | exact idV_cells _ | exact labV_cells _ _ | exact rectV_cells _ _ _ _ | rfl) hm ?_; clear hm; intro b1 w1 hm) | (refine wl_build (by rfl) (built_rd _) rfl ?_; (try simp only [Act.put, k1, k2, k3]); (try simp only [← labV_eq, ← idV_eq])) | (with_reducible first | refine stBs ?_ | refine stMs ?_ | refine stAp ?_ | refine stCo ?_)); (try simp only [k4, k5, k6, Act.put, k1, k2, k3]))
  go_ret2
  exact ⟨rfl, hm⟩
end Go.Proofs.Ytijkmbebfodhdaa

/- (WirE) -/
namespace Go.Proofs.Ytijkmbebfodhdaa
open Go.RowKit
set_option linter.unusedSimpArgs false
set_option linter.unusedVariables false
set_option maxHeartbeats 1000000
set_option maxRecDepth 20000
attribute [local irreducible] wpQuiet wpList wpAnyH Calls
theorem empty_size (p : ByteArray) : p.toList.isEmpty = decide (p.size = 0) := by
  have h := str_eq p { data := #[] }
  have e : ({ data := #[] } : ByteArray).toList = [] := by decide +kernel
  rw [e] at h
  have h2 : (p.toList == []) = p.toList.isEmpty := by cases p.toList <;> rfl
  rw [← h2, h, decide_eq_decide]
  exact ⟨fun h => by rw [h]; rfl, fun h => ByteArray.ext (Array.eq_empty_of_size_eq_zero h)⟩
/-- Bytes as a number. -/
def valB (F : Nat → Nat) : Nat → Nat
  | 0 => 0
  | k + 1 => valB F k * 256 + F k
theorem valB_lt (F : Nat → Nat) (hF : ∀ k, F k < 256) : ∀ k, valB F k < 256 ^ k
  | 0 => by rw [valB]; decide
  | k + 1 => by
    have h1 := valB_lt F hF k
    have h2 := hF k
    rw [valB, Nat.pow_succ]
    omega
theorem number_err1 (b : Nat) (s r : ByteArray) (x : ByteArray) (h1 : Takes 84 #[.pointer (some ⟨b, 0, none⟩), .int .i64 1] b s (.tuple #[.string x, .int .i64 4]) r) :
    Takes 49 #[.pointer (some ⟨b, 0, none⟩)] b s (.tuple #[.int .u64 0, .int .i64 4]) r := by
  intro w hw
  go_enter Try.func49, Try.ntmps49
  have hm := Mem.start hw
  go_wp2_with ((first | refine wpList_skip (by rfl) ?_ | (refine wlL (hm := hm) (hu := by first | exact undID | exact undLabel) (hi := by (try simp only [rowOf_size, idC_size]); first | exact sizeID | exact sizeLabel) (h := ?_); (try simp only [Act.put, k1, k2, k3]); (try simp only [← labV_eq, ← idV_eq])) | refine wlLC (hm := hm) (hu := by first | exact undStr | exact undByteI | exact undInt | exact undU64) (h := ?_) | (refine wlS (hm := hm) (hv := (by first | rfl | exact idV_eq _ | exact labV_eq _ _ | exact rectV_eq _ _ _ _)) (hi := by (try simp only [rowOf_size, idC_size]); first | exact sizeID | exact sizeLabel) (hs := by first | (simp only [rowOf_size, idC_size]; done) | rfl) (h1 := by first | rfl | exact idC_one _ | exact rowOf_one _ _ (fun _ _ => rfl) | (simp only [List.size_toArray, List.length_cons, List.all_toArray', List.all_cons, List.all_nil, Value.oneCell', Bool.and_true, Bool.and_self]; done) | (simp [Value.oneCell']; done)) (h := ?_); clear hm; intro w1 hm; (try simp only [rowOf_set, k1, k2, k3, Value.cells, Act.eval, k7, k8, k9, kA, Option.getD_some] at hm)) | (refine wlSC (hm := hm) (hi := by first | exact sizeStr | exact sizeByteI | exact sizeInt | exact sizeU64) (ho := by first | decide | (simp only [rowOf_size, idC_size]; omega) | (simp; done)) (h := ?_); clear hm; intro w1 hm; (try simp only [rowOf_set, k1, k2, k3, Value.cells, Act.eval, k7, k8, k9, kA, Option.getD_some] at hm)) | (refine wlA (hz := by first | exact zeroID | exact zeroLabel) (hm := hm) (h := ?_); clear hm; intro b1 w1 hm; (try simp only [rowOf_set, k1, k2, k3, Value.cells, Act.eval, k7, k8, k9, kA, Option.getD_some] at hm)) | (refine wl_box (by rfl) rfl (by first | exact idV_cells _ | exact labV_cells _ _ | exact rectV_cells _ _ _ _ | rfl) hm ?_; clear hm; intro b1 w1 hm) | (go_at_call 84; refine (h1 _ (hm.heap (by with_reducible first | exact at0 | exact at1 | exact at2 | exact at3))).mono ?_; rintro e w1 ⟨rfl, hx⟩; replace hm := hm.callAt (by with_reducible first | exact at0 | exact at1 | exact at2 | exact at3) hx; clear hx; simp only [k2, k3] at hm) | (with_reducible first | refine stBs ?_ | refine stMs ?_ | refine stAp ?_ | refine stCo ?_)); (try simp only [k4, k5, k6, Act.put, k1, k2, k3]))
  go_ret2
  exact ⟨rfl, hm⟩
theorem number_form1 (b : Nat) (s r t0 : ByteArray) (n : Nat) (hn : 8 < n) (hI0 : ∀ w, (Instr.index 9 (.string t0) (.int .i64 0)).run Try.prog w = .ok (.int .u8 (n : Int)) w)
    (h1 : Takes 84 #[.pointer (some ⟨b, 0, none⟩), .int .i64 1] b s (.tuple #[.string t0, .int .i64 0]) r) :
    Takes 49 #[.pointer (some ⟨b, 0, none⟩)] b s (.tuple #[.int .u64 0, .int .i64 3]) r := by
  intro w hw
  go_enter Try.func49, Try.ntmps49
  have hm := Mem.start hw
  go_wp2_with ((first | refine wpList_skip (by rfl) ?_ | (refine wlL (hm := hm) (hu := by first | exact undID | exact undLabel) (hi := by (try simp only [rowOf_size, idC_size]); first | exact sizeID | exact sizeLabel) (h := ?_); (try simp only [Act.put, k1, k2, k3]); (try simp only [← labV_eq, ← idV_eq])) | refine wlLC (hm := hm) (hu := by first | exact undStr | exact undByteI | exact undInt | exact undU64) (h := ?_) | (refine wlS (hm := hm) (hv := (by first | rfl | exact idV_eq _ | exact labV_eq _ _ | exact rectV_eq _ _ _ _)) (hi := by (try simp only [rowOf_size, idC_size]); first | exact sizeID | exact sizeLabel) (hs := by first | (simp only [rowOf_size, idC_size]; done) | rfl) (h1 := by first | rfl | exact idC_one _ | exact rowOf_one _ _ (fun _ _ => rfl) | (simp only [List.size_toArray, List.length_cons, List.all_toArray', List.all_cons, List.all_nil, Value.oneCell', Bool.and_true, Bool.and_self]; done) | (simp [Value.oneCell']; done)) (h := ?_); clear hm; intro w1 hm; (try simp only [rowOf_set, k1, k2, k3, Value.cells, Act.eval, k7, k8, k9, kA, Option.getD_some] at hm)) | (refine wlSC (hm := hm) (hi := by first | exact sizeStr | exact sizeByteI | exact sizeInt | exact sizeU64) (ho := by first | decide | (simp only [rowOf_size, idC_size]; omega) | (simp; done)) (h := ?_); clear hm; intro w1 hm; (try simp only [rowOf_set, k1, k2, k3, Value.cells, Act.eval, k7, k8, k9, kA, Option.getD_some] at hm)) | (refine wlA (hz := by first | exact zeroID | exact zeroLabel) (hm := hm) (h := ?_); clear hm; intro b1 w1 hm; (try simp only [rowOf_set, k1, k2, k3, Value.cells, Act.eval, k7, k8, k9, kA, Option.getD_some] at hm)) | (refine wl_box (by rfl) rfl (by first | exact idV_cells _ | exact labV_cells _ _ | exact rectV_cells _ _ _ _ | rfl) hm ?_; clear hm; intro b1 w1 hm) | (go_at_call 84; refine (h1 _ (hm.heap (by with_reducible first | exact at0 | exact at1 | exact at2 | exact at3))).mono ?_; rintro e w1 ⟨rfl, hx⟩; replace hm := hm.callAt (by with_reducible first | exact at0 | exact at1 | exact at2 | exact at3) hx; clear hx; simp only [k2, k3] at hm) | (with_reducible first | refine stBs ?_ | refine stMs ?_ | refine stAp ?_ | refine stCo ?_)); (try simp only [k4, k5, k6, Act.put, k1, k2, k3]))
  go_ret2
  exact ⟨rfl, hm⟩
theorem number_err2 (b : Nat) (s s1 r t0 x : ByteArray) (n : Nat) (hn : ¬ 8 < n) (hI0 : ∀ w, (Instr.index 9 (.string t0) (.int .i64 0)).run Try.prog w = .ok (.int .u8 (n : Int)) w)
    (h1 : Takes 84 #[.pointer (some ⟨b, 0, none⟩), .int .i64 1] b s (.tuple #[.string t0, .int .i64 0]) s1)
    (h2 : Takes 84 #[.pointer (some ⟨b, 0, none⟩), .int .i64 (n : Int)] b s1 (.tuple #[.string x, .int .i64 4]) r) :
    Takes 49 #[.pointer (some ⟨b, 0, none⟩)] b s (.tuple #[.int .u64 0, .int .i64 4]) r := by
  intro w hw
  have f1 : IntKind.i64.wrap (n : Int) = (n : Int) := wrap_i64 (by omega) (by omega)
  go_enter Try.func49, Try.ntmps49
  have hm := Mem.start hw
  go_wp2_with ((first | refine wpList_skip (by rfl) ?_ | (refine wlL (hm := hm) (hu := by first | exact undID | exact undLabel) (hi := by (try simp only [rowOf_size, idC_size]); first | exact sizeID | exact sizeLabel) (h := ?_); (try simp only [Act.put, k1, k2, k3]); (try simp only [← labV_eq, ← idV_eq])) | refine wlLC (hm := hm) (hu := by first | exact undStr | exact undByteI | exact undInt | exact undU64) (h := ?_) | (refine wlS (hm := hm) (hv := (by first | rfl | exact idV_eq _ | exact labV_eq _ _ | exact rectV_eq _ _ _ _)) (hi := by (try simp only [rowOf_size, idC_size]); first | exact sizeID | exact sizeLabel) (hs := by first | (simp only [rowOf_size, idC_size]; done) | rfl) (h1 := by first | rfl | exact idC_one _ | exact rowOf_one _ _ (fun _ _ => rfl) | (simp only [List.size_toArray, List.length_cons, List.all_toArray', List.all_cons, List.all_nil, Value.oneCell', Bool.and_true, Bool.and_self]; done) | (simp [Value.oneCell']; done)) (h := ?_); clear hm; intro w1 hm; (try simp only [rowOf_set, k1, k2, k3, Value.cells, Act.eval, k7, k8, k9, kA, Option.getD_some] at hm)) | (refine wlSC (hm := hm) (hi := by first | exact sizeStr | exact sizeByteI | exact sizeInt | exact sizeU64) (ho := by first | decide | (simp only [rowOf_size, idC_size]; omega) | (simp; done)) (h := ?_); clear hm; intro w1 hm; (try simp only [rowOf_set, k1, k2, k3, Value.cells, Act.eval, k7, k8, k9, kA, Option.getD_some] at hm)) | (refine wlA (hz := by first | exact zeroID | exact zeroLabel) (hm := hm) (h := ?_); clear hm; intro b1 w1 hm; (try simp only [rowOf_set, k1, k2, k3, Value.cells, Act.eval, k7, k8, k9, kA, Option.getD_some] at hm)) | (refine wl_box (by rfl) rfl (by first | exact idV_cells _ | exact labV_cells _ _ | exact rectV_cells _ _ _ _ | rfl) hm ?_; clear hm; intro b1 w1 hm) | (go_at_call 84; refine (h1 _ (hm.heap (by with_reducible first | exact at0 | exact at1 | exact at2 | exact at3))).mono ?_; rintro e w1 ⟨rfl, hx⟩; replace hm := hm.callAt (by with_reducible first | exact at0 | exact at1 | exact at2 | exact at3) hx; clear hx; simp only [k2, k3] at hm) | (go_at_call 84; refine (h2 _ (hm.heap (by with_reducible first | exact at0 | exact at1 | exact at2 | exact at3))).mono ?_; rintro e w1 ⟨rfl, hx⟩; replace hm := hm.callAt (by with_reducible first | exact at0 | exact at1 | exact at2 | exact at3) hx; clear hx; simp only [k2, k3] at hm) | (with_reducible first | refine stBs ?_ | refine stMs ?_ | refine stAp ?_ | refine stCo ?_)); (try simp only [k4, k5, k6, Act.put, k1, k2, k3]))
  go_ret2
  exact ⟨rfl, hm⟩
/-- The walk behind the second take. -/
theorem number_go (b : Nat) (s s1 r t0 t : ByteArray) (n : Nat) (F : Nat → Nat) (hF : ∀ k, F k < 256) (hn : ¬ 8 < n) (ht : t.size = n) (bad : Bool) (hbad : bad = (decide (0 < n) && (F 0 == 0)))
    (hI0 : ∀ w, (Instr.index 9 (.string t0) (.int .i64 0)).run Try.prog w = .ok (.int .u8 (n : Int)) w) (hI : ∀ k : Nat, k < n → ∀ w, (Instr.index 9 (.string t) (.int .i64 (k : Int))).run Try.prog w = .ok (.int .u8 ((F k : Nat) : Int)) w)
    (h1 : Takes 84 #[.pointer (some ⟨b, 0, none⟩), .int .i64 1] b s (.tuple #[.string t0, .int .i64 0]) s1)
    (h2 : Takes 84 #[.pointer (some ⟨b, 0, none⟩), .int .i64 (n : Int)] b s1 (.tuple #[.string t, .int .i64 0]) r) :
    Takes 49 #[.pointer (some ⟨b, 0, none⟩)] b s (if bad then .tuple #[.int .u64 0, .int .i64 3] else .tuple #[.int .u64 ((valB F n : Nat) : Int), .int .i64 0]) r := by
  intro w hw
  have f1 : IntKind.i64.wrap (n : Int) = (n : Int) := wrap_i64 (by omega) (by omega)
  obtain ⟨res, hres⟩ : ∃ res, (if bad then Value.tuple #[.int .u64 0, .int .i64 3] else .tuple #[.int .u64 ((valB F n : Nat) : Int), .int .i64 0]) = res := ⟨_, rfl⟩
  rw [hres]
  have HRes := hid hres
  have HB := hid hbad
  have HF := hid hF
  have HI := hid hI
  have HN := hid hn
  clear hres hbad hF hI
  go_enter Try.func49, Try.ntmps49
  have hm := Mem.start hw
  clear hw
  go_wp2_with ((first | refine wpList_skip (by rfl) ?_ | (refine wlL (hm := hm) (hu := by first | exact undID | exact undLabel) (hi := by (try simp only [rowOf_size, idC_size]); first | exact sizeID | exact sizeLabel) (h := ?_); (try simp only [Act.put, k1, k2, k3]); (try simp only [← labV_eq, ← idV_eq])) | refine wlLC (hm := hm) (hu := by first | exact undStr | exact undByteI | exact undInt | exact undU64) (h := ?_) | (refine wlS (hm := hm) (hv := (by first | rfl | exact idV_eq _ | exact labV_eq _ _ | exact rectV_eq _ _ _ _)) (hi := by (try simp only [rowOf_size, idC_size]); first | exact sizeID | exact sizeLabel) (hs := by first | (simp only [rowOf_size, idC_size]; done) | rfl) (h1 := by first | rfl | exact idC_one _ | exact rowOf_one _ _ (fun _ _ => rfl) | (simp only [List.size_toArray, List.length_cons, List.all_toArray', List.all_cons, List.all_nil, Value.oneCell', Bool.and_true, Bool.and_self]; done) | (simp [Value.oneCell']; done)) (h := ?_); clear hm; intro w1 hm; (try simp only [rowOf_set, k1, k2, k3, Value.cells, Act.eval, k7, k8, k9, kA, Option.getD_some] at hm)) | (refine wlSC (hm := hm) (hi := by first | exact sizeStr | exact sizeByteI | exact sizeInt | exact sizeU64) (ho := by first | decide | (simp only [rowOf_size, idC_size]; omega) | (simp; done)) (h := ?_); clear hm; intro w1 hm; (try simp only [rowOf_set, k1, k2, k3, Value.cells, Act.eval, k7, k8, k9, kA, Option.getD_some] at hm)) | (refine wlA (hz := by first | exact zeroID | exact zeroLabel) (hm := hm) (h := ?_); clear hm; intro b1 w1 hm; (try simp only [rowOf_set, k1, k2, k3, Value.cells, Act.eval, k7, k8, k9, kA, Option.getD_some] at hm)) | (refine wl_box (by rfl) rfl (by first | exact idV_cells _ | exact labV_cells _ _ | exact rectV_cells _ _ _ _ | rfl) hm ?_; clear hm; intro b1 w1 hm) | (go_at_call 84; refine (h1 _ (hm.heap (by with_reducible first | exact at0 | exact at1 | exact at2 | exact at3))).mono ?_; rintro e w1 ⟨rfl, hx⟩; replace hm := hm.callAt (by with_reducible first | exact at0 | exact at1 | exact at2 | exact at3) hx; clear hx; simp only [k2, k3] at hm) | (go_at_call 84; refine (h2 _ (hm.heap (by with_reducible first | exact at0 | exact at1 | exact at2 | exact at3))).mono ?_; rintro e w1 ⟨rfl, hx⟩; replace hm := hm.callAt (by with_reducible first | exact at0 | exact at1 | exact at2 | exact at3) hx; clear hx; simp only [k2, k3] at hm) | (with_reducible first | refine stBs ?_ | refine stMs ?_ | refine stAp ?_ | refine stCo ?_)); (try simp only [k4, k5, k6, Act.put, k1, k2, k3]))
  clear h1 h2 hI0 f1 hn
  go_loopw [6, 32] (fun vv vi wr => ∃ k : Nat, k ≤ n ∧ vi = .int .i64 (k : Int) ∧ vv = .int .u64 ((valB F k : Nat) : Int) ∧ Mem w [b] [(b, .cells #[.string r] 76 (0, 0))] wr)
    (fun _ vi _ => (n - intOf vi).toNat)
  case atStart => exact ⟨0, by omega, rfl, rfl, hm⟩
  case round =>
    clear hm
    obtain ⟨k, hk, rfl, rfl, hm⟩ := hrel
    by_cases hkn : k < n
    · have hi := HI.out k hkn
      have hfk := HF.out k
      have hv := valB_lt F HF.out k
      have hp : 256 ^ k ≤ 256 ^ 7 := Nat.pow_le_pow_right (by omega) (by have := HN.out; omega)
      have HS := hid (show valB F (k + 1) = valB F k * 256 + F k from rfl)
      obtain ⟨v, hv'⟩ : ∃ v, valB F k = v := ⟨_, rfl⟩
      obtain ⟨y, hy⟩ : ∃ y, F k = y := ⟨_, rfl⟩
      rw [hv'] at hv HS ⊢
      rw [hy] at hi hfk HS
      have hv56 : v < 2 ^ 56 := by have : (256 : Nat) ^ 7 = 2 ^ 56 := by decide
                                   omega
      obtain ⟨z, hz⟩ : ∃ z, v * 256 + y = z := ⟨_, rfl⟩
      rw [hz] at HS
      obtain ⟨u, hu⟩ : ∃ u, v * 256 = u := ⟨_, rfl⟩
      have g1 : IntKind.u64.wrap ((v : Int) * 256) = (u : Int) := by rw [wrap_u64 (by omega) (by omega)]; omega
      have g2 : IntKind.u64.wrap (y : Int) = (y : Int) := wrap_u64 (by omega) (by omega)
      have g3 : bits .or .u64 (u : Int) (y : Int) = (z : Int) := by
        rw [u64_or_nat _ _ (by omega) (by omega), ← hz, ← hu]
        have := Nat.two_pow_add_eq_or_of_lt (i := 8) (show y < 2 ^ 8 by omega) v
        rw [Nat.mul_comm v 256, show (256 : Nat) = 2 ^ 8 from rfl, ← this]
      have g4 : IntKind.i64.wrap ((k : Int) + 1) = (k : Int) + 1 := wrap_i64 (by have := HN.out; omega) (by have := HN.out; omega)
      have e1 : (k : Int) < (n : Int) := by omega
      clear hv' hy hz hu hv56 hv hp hfk hk
      go_wp2_with ((first | refine wpList_skip (by rfl) ?_ | (refine wlL (hm := hm) (hu := by first | exact undID | exact undLabel) (hi := by (try simp only [rowOf_size, idC_size]); first | exact sizeID | exact sizeLabel) (h := ?_); (try simp only [Act.put, k1, k2, k3]); (try simp only [← labV_eq, ← idV_eq])) | refine wlLC (hm := hm) (hu := by first | exact undStr | exact undByteI | exact undInt | exact undU64) (h := ?_) | (refine wlS (hm := hm) (hv := (by first | rfl | exact idV_eq _ | exact labV_eq _ _ | exact rectV_eq _ _ _ _)) (hi := by (try simp only [rowOf_size, idC_size]); first | exact sizeID | exact sizeLabel) (hs := by first | (simp only [rowOf_size, idC_size]; done) | rfl) (h1 := by first | rfl | exact idC_one _ | exact rowOf_one _ _ (fun _ _ => rfl) | (simp only [List.size_toArray, List.length_cons, List.all_toArray', List.all_cons, List.all_nil, Value.oneCell', Bool.and_true, Bool.and_self]; done) | (simp [Value.oneCell']; done)) (h := ?_); clear hm; intro w1 hm; (try simp only [rowOf_set, k1, k2, k3, Value.cells, Act.eval, k7, k8, k9, kA, Option.getD_some] at hm)) | (refine wlSC (hm := hm) (hi := by first | exact sizeStr | exact sizeByteI | exact sizeInt | exact sizeU64) (ho := by first | decide | (simp only [rowOf_size, idC_size]; omega) | (simp; done)) (h := ?_); clear hm; intro w1 hm; (try simp only [rowOf_set, k1, k2, k3, Value.cells, Act.eval, k7, k8, k9, kA, Option.getD_some] at hm)) | (refine wlA (hz := by first | exact zeroID | exact zeroLabel) (hm := hm) (h := ?_); clear hm; intro b1 w1 hm; (try simp only [rowOf_set, k1, k2, k3, Value.cells, Act.eval, k7, k8, k9, kA, Option.getD_some] at hm)) | (refine wl_box (by rfl) rfl (by first | exact idV_cells _ | exact labV_cells _ _ | exact rectV_cells _ _ _ _ | rfl) hm ?_; clear hm; intro b1 w1 hm) | (go_at_call 84; refine (h1 _ (hm.heap (by with_reducible first | exact at0 | exact at1 | exact at2 | exact at3))).mono ?_; rintro e w1 ⟨rfl, hx⟩; replace hm := hm.callAt (by with_reducible first | exact at0 | exact at1 | exact at2 | exact at3) hx; clear hx; simp only [k2, k3] at hm) | (go_at_call 84; refine (h2 _ (hm.heap (by with_reducible first | exact at0 | exact at1 | exact at2 | exact at3))).mono ?_; rintro e w1 ⟨rfl, hx⟩; replace hm := hm.callAt (by with_reducible first | exact at0 | exact at1 | exact at2 | exact at3) hx; clear hx; simp only [k2, k3] at hm) | (with_reducible first | refine stBs ?_ | refine stMs ?_ | refine stAp ?_ | refine stCo ?_)); (try simp only [k4, k5, k6, Act.put, k1, k2, k3]))
      go_roundw
      case rel => exact ⟨k + 1, by omega, by go_num, by rw [HS.out], hm⟩
      case measure => (simp [intOf]; try omega)
    · obtain rfl : k = n := by omega
      clear hk hkn
      by_cases h0 : k = 0
      · subst h0
        have e0 : t.toList.isEmpty = true := by rw [empty_size, ht]; rfl
        have hb2 := HB.out
        have hrs := HRes.out
        simp only [Nat.lt_irrefl, decide_false, Bool.false_and] at hb2
        rw [hb2, if_neg (by decide)] at hrs
        have HR2 := hid hrs
        clear hrs hb2
        go_wp2_with ((first | refine wpList_skip (by rfl) ?_ | (refine wlL (hm := hm) (hu := by first | exact undID | exact undLabel) (hi := by (try simp only [rowOf_size, idC_size]); first | exact sizeID | exact sizeLabel) (h := ?_); (try simp only [Act.put, k1, k2, k3]); (try simp only [← labV_eq, ← idV_eq])) | refine wlLC (hm := hm) (hu := by first | exact undStr | exact undByteI | exact undInt | exact undU64) (h := ?_) | (refine wlS (hm := hm) (hv := (by first | rfl | exact idV_eq _ | exact labV_eq _ _ | exact rectV_eq _ _ _ _)) (hi := by (try simp only [rowOf_size, idC_size]); first | exact sizeID | exact sizeLabel) (hs := by first | (simp only [rowOf_size, idC_size]; done) | rfl) (h1 := by first | rfl | exact idC_one _ | exact rowOf_one _ _ (fun _ _ => rfl) | (simp only [List.size_toArray, List.length_cons, List.all_toArray', List.all_cons, List.all_nil, Value.oneCell', Bool.and_true, Bool.and_self]; done) | (simp [Value.oneCell']; done)) (h := ?_); clear hm; intro w1 hm; (try simp only [rowOf_set, k1, k2, k3, Value.cells, Act.eval, k7, k8, k9, kA, Option.getD_some] at hm)) | (refine wlSC (hm := hm) (hi := by first | exact sizeStr | exact sizeByteI | exact sizeInt | exact sizeU64) (ho := by first | decide | (simp only [rowOf_size, idC_size]; omega) | (simp; done)) (h := ?_); clear hm; intro w1 hm; (try simp only [rowOf_set, k1, k2, k3, Value.cells, Act.eval, k7, k8, k9, kA, Option.getD_some] at hm)) | (refine wlA (hz := by first | exact zeroID | exact zeroLabel) (hm := hm) (h := ?_); clear hm; intro b1 w1 hm; (try simp only [rowOf_set, k1, k2, k3, Value.cells, Act.eval, k7, k8, k9, kA, Option.getD_some] at hm)) | (refine wl_box (by rfl) rfl (by first | exact idV_cells _ | exact labV_cells _ _ | exact rectV_cells _ _ _ _ | rfl) hm ?_; clear hm; intro b1 w1 hm) | (go_at_call 84; refine (h1 _ (hm.heap (by with_reducible first | exact at0 | exact at1 | exact at2 | exact at3))).mono ?_; rintro e w1 ⟨rfl, hx⟩; replace hm := hm.callAt (by with_reducible first | exact at0 | exact at1 | exact at2 | exact at3) hx; clear hx; simp only [k2, k3] at hm) | (go_at_call 84; refine (h2 _ (hm.heap (by with_reducible first | exact at0 | exact at1 | exact at2 | exact at3))).mono ?_; rintro e w1 ⟨rfl, hx⟩; replace hm := hm.callAt (by with_reducible first | exact at0 | exact at1 | exact at2 | exact at3) hx; clear hx; simp only [k2, k3] at hm) | (with_reducible first | refine stBs ?_ | refine stMs ?_ | refine stAp ?_ | refine stCo ?_)); (try simp only [k4, k5, k6, Act.put, k1, k2, k3]))
        go_ret2
        exact ⟨by rw [← HR2.out] <;> rfl, hm⟩
      · have e0 : t.toList.isEmpty = false := by rw [empty_size, ht]; exact decide_eq_false h0
        have hi := HI.out 0 (by omega)
        have hi0 : ∀ w, (Instr.index 9 (.string t) (.int .i64 0)).run Try.prog w = .ok (.int .u8 ((F 0 : Nat) : Int)) w := hi
        obtain ⟨y, hy⟩ : ∃ y, F 0 = y := ⟨_, rfl⟩
        have hb2 := HB.out
        have hrs := HRes.out
        rw [hy] at hi0 hb2
        rw [decide_eq_true (by omega), Bool.true_and] at hb2
        have HR2 := hid hrs
        clear hrs hi hy
        by_cases hy0 : y = 0
        · subst hy0
          have hb3 : bad = true := by rw [hb2]; rfl
          have hrs := HR2.out
          rw [hb3, if_pos rfl] at hrs
          have HR3 := hid hrs
          clear hrs hb2 hb3
          go_wp2_with ((first | refine wpList_skip (by rfl) ?_ | (refine wlL (hm := hm) (hu := by first | exact undID | exact undLabel) (hi := by (try simp only [rowOf_size, idC_size]); first | exact sizeID | exact sizeLabel) (h := ?_); (try simp only [Act.put, k1, k2, k3]); (try simp only [← labV_eq, ← idV_eq])) | refine wlLC (hm := hm) (hu := by first | exact undStr | exact undByteI | exact undInt | exact undU64) (h := ?_) | (refine wlS (hm := hm) (hv := (by first | rfl | exact idV_eq _ | exact labV_eq _ _ | exact rectV_eq _ _ _ _)) (hi := by (try simp only [rowOf_size, idC_size]); first | exact sizeID | exact sizeLabel) (hs := by first | (simp only [rowOf_size, idC_size]; done) | rfl) (h1 := by first | rfl | exact idC_one _ | exact rowOf_one _ _ (fun _ _ => rfl) | (simp only [List.size_toArray, List.length_cons, List.all_toArray', List.all_cons, List.all_nil, Value.oneCell', Bool.and_true, Bool.and_self]; done) | (simp [Value.oneCell']; done)) (h := ?_); clear hm; intro w1 hm; (try simp only [rowOf_set, k1, k2, k3, Value.cells, Act.eval, k7, k8, k9, kA, Option.getD_some] at hm)) | (refine wlSC (hm := hm) (hi := by first | exact sizeStr | exact sizeByteI | exact sizeInt | exact sizeU64) (ho := by first | decide | (simp only [rowOf_size, idC_size]; omega) | (simp; done)) (h := ?_); clear hm; intro w1 hm; (try simp only [rowOf_set, k1, k2, k3, Value.cells, Act.eval, k7, k8, k9, kA, Option.getD_some] at hm)) | (refine wlA (hz := by first | exact zeroID | exact zeroLabel) (hm := hm) (h := ?_); clear hm; intro b1 w1 hm; (try simp only [rowOf_set, k1, k2, k3, Value.cells, Act.eval, k7, k8, k9, kA, Option.getD_some] at hm)) | (refine wl_box (by rfl) rfl (by first | exact idV_cells _ | exact labV_cells _ _ | exact rectV_cells _ _ _ _ | rfl) hm ?_; clear hm; intro b1 w1 hm) | (go_at_call 84; refine (h1 _ (hm.heap (by with_reducible first | exact at0 | exact at1 | exact at2 | exact at3))).mono ?_; rintro e w1 ⟨rfl, hx⟩; replace hm := hm.callAt (by with_reducible first | exact at0 | exact at1 | exact at2 | exact at3) hx; clear hx; simp only [k2, k3] at hm) | (go_at_call 84; refine (h2 _ (hm.heap (by with_reducible first | exact at0 | exact at1 | exact at2 | exact at3))).mono ?_; rintro e w1 ⟨rfl, hx⟩; replace hm := hm.callAt (by with_reducible first | exact at0 | exact at1 | exact at2 | exact at3) hx; clear hx; simp only [k2, k3] at hm) | (with_reducible first | refine stBs ?_ | refine stMs ?_ | refine stAp ?_ | refine stCo ?_)); (try simp only [k4, k5, k6, Act.put, k1, k2, k3]))
          go_ret2
          exact ⟨by rw [← HR3.out] <;> rfl, hm⟩
        · have hb3 : bad = false := by rw [hb2]; simp [hy0]
          have hrs := HR2.out
          rw [hb3, if_neg (by decide)] at hrs
          have HR3 := hid hrs
          have d1 : ((y : Int) == 0) = false := by rw [beq_eq_false_iff_ne]; omega
          have d2 : ¬ (y : Int) = 0 := by omega
          clear hrs hb2 hb3
          go_wp2_with ((first | refine wpList_skip (by rfl) ?_ | (refine wlL (hm := hm) (hu := by first | exact undID | exact undLabel) (hi := by (try simp only [rowOf_size, idC_size]); first | exact sizeID | exact sizeLabel) (h := ?_); (try simp only [Act.put, k1, k2, k3]); (try simp only [← labV_eq, ← idV_eq])) | refine wlLC (hm := hm) (hu := by first | exact undStr | exact undByteI | exact undInt | exact undU64) (h := ?_) | (refine wlS (hm := hm) (hv := (by first | rfl | exact idV_eq _ | exact labV_eq _ _ | exact rectV_eq _ _ _ _)) (hi := by (try simp only [rowOf_size, idC_size]); first | exact sizeID | exact sizeLabel) (hs := by first | (simp only [rowOf_size, idC_size]; done) | rfl) (h1 := by first | rfl | exact idC_one _ | exact rowOf_one _ _ (fun _ _ => rfl) | (simp only [List.size_toArray, List.length_cons, List.all_toArray', List.all_cons, List.all_nil, Value.oneCell', Bool.and_true, Bool.and_self]; done) | (simp [Value.oneCell']; done)) (h := ?_); clear hm; intro w1 hm; (try simp only [rowOf_set, k1, k2, k3, Value.cells, Act.eval, k7, k8, k9, kA, Option.getD_some] at hm)) | (refine wlSC (hm := hm) (hi := by first | exact sizeStr | exact sizeByteI | exact sizeInt | exact sizeU64) (ho := by first | decide | (simp only [rowOf_size, idC_size]; omega) | (simp; done)) (h := ?_); clear hm; intro w1 hm; (try simp only [rowOf_set, k1, k2, k3, Value.cells, Act.eval, k7, k8, k9, kA, Option.getD_some] at hm)) | (refine wlA (hz := by first | exact zeroID | exact zeroLabel) (hm := hm) (h := ?_); clear hm; intro b1 w1 hm; (try simp only [rowOf_set, k1, k2, k3, Value.cells, Act.eval, k7, k8, k9, kA, Option.getD_some] at hm)) | (refine wl_box (by rfl) rfl (by first | exact idV_cells _ | exact labV_cells _ _ | exact rectV_cells _ _ _ _ | rfl) hm ?_; clear hm; intro b1 w1 hm) | (go_at_call 84; refine (h1 _ (hm.heap (by with_reducible first | exact at0 | exact at1 | exact at2 | exact at3))).mono ?_; rintro e w1 ⟨rfl, hx⟩; replace hm := hm.callAt (by with_reducible first | exact at0 | exact at1 | exact at2 | exact at3) hx; clear hx; simp only [k2, k3] at hm) | (go_at_call 84; refine (h2 _ (hm.heap (by with_reducible first | exact at0 | exact at1 | exact at2 | exact at3))).mono ?_; rintro e w1 ⟨rfl, hx⟩; replace hm := hm.callAt (by with_reducible first | exact at0 | exact at1 | exact at2 | exact at3) hx; clear hx; simp only [k2, k3] at hm) | (with_reducible first | refine stBs ?_ | refine stMs ?_ | refine stAp ?_ | refine stCo ?_)); (try simp only [k4, k5, k6, Act.put, k1, k2, k3]))
          go_ret2
          exact ⟨by rw [← HR3.out] <;> rfl, hm⟩
end Go.Proofs.Ytijkmbebfodhdaa

/- (WirF) -/
namespace Go.Proofs.Ytijkmbebfodhdaa
open Go.RowKit
set_option linter.unusedSimpArgs false
set_option linter.unusedVariables false
set_option maxHeartbeats 1000000
set_option maxRecDepth 20000
attribute [local irreducible] wpQuiet wpList wpAnyH Calls
theorem readU_ok (b : Nat) (s r : ByteArray) (v : Int) (h1 : Takes 49 #[.pointer (some ⟨b, 0, none⟩)] b s (.tuple #[.int .u64 v, .int .i64 0]) r) :
    Takes 48 #[.pointer (some ⟨b, 0, none⟩), .func (.func 49) #[.pointer (some ⟨b, 0, none⟩)] #[]] b s (.tuple #[.int .u64 v, .int .i64 0]) r := by
  intro w hw
  go_enter Try.func48, Try.ntmps48
  have hm := Mem.start hw
  go_wp2_with ((first | refine wpList_skip (by rfl) ?_ | (refine wlL (hm := hm) (hu := by first | exact undID | exact undLabel) (hi := by (try simp only [rowOf_size, idC_size]); first | exact sizeID | exact sizeLabel) (h := ?_); (try simp only [Act.put, k1, k2, k3]); (try simp only [← labV_eq, ← idV_eq])) | refine wlLC (hm := hm) (hu := by first | exact undStr | exact undByteI | exact undInt | exact undU64) (h := ?_) | (refine wlS (hm := hm) (hv := (by first | rfl | exact idV_eq _ | exact labV_eq _ _ | exact rectV_eq _ _ _ _)) (hi := by (try simp only [rowOf_size, idC_size]); first | exact sizeID | exact sizeLabel) (hs := by first | (simp only [rowOf_size, idC_size]; done) | rfl) (h1 := by first | rfl | exact idC_one _ | exact rowOf_one _ _ (fun _ _ => rfl) | (simp only [List.size_toArray, List.length_cons, List.all_toArray', List.all_cons, List.all_nil, Value.oneCell', Bool.and_true, Bool.and_self]; done) | (simp [Value.oneCell']; done)) (h := ?_); clear hm; intro w1 hm; (try simp only [rowOf_set, k1, k2, k3, Value.cells, Act.eval, k7, k8, k9, kA, Option.getD_some] at hm)) | (refine wlSC (hm := hm) (hi := by first | exact sizeStr | exact sizeByteI | exact sizeInt | exact sizeU64) (ho := by first | decide | (simp only [rowOf_size, idC_size]; omega) | (simp; done)) (h := ?_); clear hm; intro w1 hm; (try simp only [rowOf_set, k1, k2, k3, Value.cells, Act.eval, k7, k8, k9, kA, Option.getD_some] at hm)) | (refine wlA (hz := by first | exact zeroID | exact zeroLabel) (hm := hm) (h := ?_); clear hm; intro b1 w1 hm; (try simp only [rowOf_set, k1, k2, k3, Value.cells, Act.eval, k7, k8, k9, kA, Option.getD_some] at hm)) | (refine wl_box (by rfl) rfl (by first | exact idV_cells _ | exact labV_cells _ _ | exact rectV_cells _ _ _ _ | rfl) hm ?_; clear hm; intro b1 w1 hm) | (go_at_call 49; refine (h1 _ (hm.heap (by with_reducible first | exact at0 | exact at1 | exact at2 | exact at3))).mono ?_; rintro e w1 ⟨rfl, hx⟩; replace hm := hm.callAt (by with_reducible first | exact at0 | exact at1 | exact at2 | exact at3) hx; clear hx; simp only [k2, k3] at hm) | (with_reducible first | refine stBs ?_ | refine stMs ?_ | refine stAp ?_ | refine stCo ?_)); (try simp only [k4, k5, k6, Act.put, k1, k2, k3]))
  go_ret2
  exact ⟨rfl, hm⟩
theorem readU_err (b : Nat) (s r : ByteArray) (v e : Int) (he : e ≠ 0) (h1 : Takes 49 #[.pointer (some ⟨b, 0, none⟩)] b s (.tuple #[.int .u64 v, .int .i64 e]) r) :
    Takes 48 #[.pointer (some ⟨b, 0, none⟩), .func (.func 49) #[.pointer (some ⟨b, 0, none⟩)] #[]] b s (.tuple #[.int .u64 0, .int .i64 e]) s := by
  intro w hw
  have he1 : (e != 0) = true := by simp [bne, he]
  go_enter Try.func48, Try.ntmps48
  have hm := Mem.start hw
  go_wp2_with ((first | refine wpList_skip (by rfl) ?_ | (refine wlL (hm := hm) (hu := by first | exact undID | exact undLabel) (hi := by (try simp only [rowOf_size, idC_size]); first | exact sizeID | exact sizeLabel) (h := ?_); (try simp only [Act.put, k1, k2, k3]); (try simp only [← labV_eq, ← idV_eq])) | refine wlLC (hm := hm) (hu := by first | exact undStr | exact undByteI | exact undInt | exact undU64) (h := ?_) | (refine wlS (hm := hm) (hv := (by first | rfl | exact idV_eq _ | exact labV_eq _ _ | exact rectV_eq _ _ _ _)) (hi := by (try simp only [rowOf_size, idC_size]); first | exact sizeID | exact sizeLabel) (hs := by first | (simp only [rowOf_size, idC_size]; done) | rfl) (h1 := by first | rfl | exact idC_one _ | exact rowOf_one _ _ (fun _ _ => rfl) | (simp only [List.size_toArray, List.length_cons, List.all_toArray', List.all_cons, List.all_nil, Value.oneCell', Bool.and_true, Bool.and_self]; done) | (simp [Value.oneCell']; done)) (h := ?_); clear hm; intro w1 hm; (try simp only [rowOf_set, k1, k2, k3, Value.cells, Act.eval, k7, k8, k9, kA, Option.getD_some] at hm)) | (refine wlSC (hm := hm) (hi := by first | exact sizeStr | exact sizeByteI | exact sizeInt | exact sizeU64) (ho := by first | decide | (simp only [rowOf_size, idC_size]; omega) | (simp; done)) (h := ?_); clear hm; intro w1 hm; (try simp only [rowOf_set, k1, k2, k3, Value.cells, Act.eval, k7, k8, k9, kA, Option.getD_some] at hm)) | (refine wlA (hz := by first | exact zeroID | exact zeroLabel) (hm := hm) (h := ?_); clear hm; intro b1 w1 hm; (try simp only [rowOf_set, k1, k2, k3, Value.cells, Act.eval, k7, k8, k9, kA, Option.getD_some] at hm)) | (refine wl_box (by rfl) rfl (by first | exact idV_cells _ | exact labV_cells _ _ | exact rectV_cells _ _ _ _ | rfl) hm ?_; clear hm; intro b1 w1 hm) | (go_at_call 49; refine (h1 _ (hm.heap (by with_reducible first | exact at0 | exact at1 | exact at2 | exact at3))).mono ?_; rintro e w1 ⟨rfl, hx⟩; replace hm := hm.callAt (by with_reducible first | exact at0 | exact at1 | exact at2 | exact at3) hx; clear hx; simp only [k2, k3] at hm) | (with_reducible first | refine stBs ?_ | refine stMs ?_ | refine stAp ?_ | refine stCo ?_)); (try simp only [k4, k5, k6, Act.put, k1, k2, k3]))
  go_ret2
  exact ⟨rfl, hm⟩
theorem Number_go (b : Nat) (s r : ByteArray) (v e : Int) (h1 : Takes 48 #[.pointer (some ⟨b, 0, none⟩), .func (.func 49) #[.pointer (some ⟨b, 0, none⟩)] #[]] b s (.tuple #[.int .u64 v, .int .i64 e]) r) :
    Takes 24 #[.pointer (some ⟨b, 0, none⟩)] b s (.tuple #[.int .u64 v, .int .i64 e]) r := by
  intro w hw
  go_enter Try.func24, Try.ntmps24
  have hm := Mem.start hw
  go_wp2_with ((first | refine wpList_skip (by rfl) ?_ | (refine wlL (hm := hm) (hu := by first | exact undID | exact undLabel) (hi := by (try simp only [rowOf_size, idC_size]); first | exact sizeID | exact sizeLabel) (h := ?_); (try simp only [Act.put, k1, k2, k3]); (try simp only [← labV_eq, ← idV_eq])) | refine wlLC (hm := hm) (hu := by first | exact undStr | exact undByteI | exact undInt | exact undU64) (h := ?_) | (refine wlS (hm := hm) (hv := (by first | rfl | exact idV_eq _ | exact labV_eq _ _ | exact rectV_eq _ _ _ _)) (hi := by (try simp only [rowOf_size, idC_size]); first | exact sizeID | exact sizeLabel) (hs := by first | (simp only [rowOf_size, idC_size]; done) | rfl) (h1 := by first | rfl | exact idC_one _ | exact rowOf_one _ _ (fun _ _ => rfl) | (simp only [List.size_toArray, List.length_cons, List.all_toArray', List.all_cons, List.all_nil, Value.oneCell', Bool.and_true, Bool.and_self]; done) | (simp [Value.oneCell']; done)) (h := ?_); clear hm; intro w1 hm; (try simp only [rowOf_set, k1, k2, k3, Value.cells, Act.eval, k7, k8, k9, kA, Option.getD_some] at hm)) | (refine wlSC (hm := hm) (hi := by first | exact sizeStr | exact sizeByteI | exact sizeInt | exact sizeU64) (ho := by first | decide | (simp only [rowOf_size, idC_size]; omega) | (simp; done)) (h := ?_); clear hm; intro w1 hm; (try simp only [rowOf_set, k1, k2, k3, Value.cells, Act.eval, k7, k8, k9, kA, Option.getD_some] at hm)) | (refine wlA (hz := by first | exact zeroID | exact zeroLabel) (hm := hm) (h := ?_); clear hm; intro b1 w1 hm; (try simp only [rowOf_set, k1, k2, k3, Value.cells, Act.eval, k7, k8, k9, kA, Option.getD_some] at hm)) | (refine wl_box (by rfl) rfl (by first | exact idV_cells _ | exact labV_cells _ _ | exact rectV_cells _ _ _ _ | rfl) hm ?_; clear hm; intro b1 w1 hm) | (go_at_call 48; refine (h1 _ (hm.heap (by with_reducible first | exact at0 | exact at1 | exact at2 | exact at3))).mono ?_; rintro e w1 ⟨rfl, hx⟩; replace hm := hm.callAt (by with_reducible first | exact at0 | exact at1 | exact at2 | exact at3) hx; clear hx; simp only [k2, k3] at hm) | (with_reducible first | refine stBs ?_ | refine stMs ?_ | refine stAp ?_ | refine stCo ?_)); (try simp only [k4, k5, k6, Act.put, k1, k2, k3]))
  go_ret2
  exact ⟨rfl, hm⟩
/-- What Number reads of the bytes f, m of them: the error, or 0. -/
def numE (m : Nat) (f : Nat → Nat) : Nat := if m = 0 then 4 else if 8 < f 0 then 3 else if m < 1 + f 0 then 4 else if 0 < f 0 ∧ f 1 = 0 then 3 else 0
/-- The bytes behind the first k. -/
def dropF (k : Nat) (f : Nat → Nat) (j : Nat) : Nat := f (k + j)
/-- A string of m bytes f, and how a reader of it takes. -/
theorem takeB_ok (b m n : Nat) (f : Nat → Nat) (h : n ≤ m) : Takes 84 #[.pointer (some ⟨b, 0, none⟩), .int .i64 (n : Int)] b (bytesB m f) (.tuple #[.string (bytesB n f), .int .i64 0]) (bytesB (m - n) (dropF n f)) :=
  take_ok b _ _ _ m n (bytesB_size m f) h (bytesB_take m n f h) (by rw [bytesB_size]; exact bytesB_drop m n f h)
theorem number_any (b m : Nat) (f : Nat → Nat) (hf : ∀ j, f j < 256) : ∃ (v : Nat) (r : ByteArray), Takes 49 #[.pointer (some ⟨b, 0, none⟩)] b (bytesB m f) (.tuple #[.int .u64 (v : Int), .int .i64 ((numE m f : Nat) : Int)]) r ∧
    (numE m f = 0 → v = valB (dropF 1 f) (f 0) ∧ r = bytesB (m - 1 - f 0) (dropF (1 + f 0) f)) := by
  unfold numE
  by_cases h0 : m = 0
  · rw [if_pos h0]
    exact ⟨0, _, number_err1 b _ _ _ (take_more b _ m 1 (bytesB_size m f) (by omega)), fun h => by omega⟩
  · rw [if_neg h0]
    have k1 := takeB_ok b m 1 f (by omega)
    have hI0 : ∀ w, (Instr.index 9 (.string (bytesB 1 f)) (.int .i64 0)).run Try.prog w = .ok (.int .u8 ((f 0 : Nat) : Int)) w := run_indexS (k := 0) (bytesB_get (show 0 < 1 by omega)) (hf 0)
    by_cases h8 : 8 < f 0
    · rw [if_pos h8]
      exact ⟨0, _, number_form1 b _ _ _ (f 0) h8 hI0 k1, fun h => by omega⟩
    · rw [if_neg h8]
      by_cases hm : m < 1 + f 0
      · rw [if_pos hm]
        exact ⟨0, _, number_err2 b _ _ _ _ _ (f 0) h8 hI0 k1 (take_more b _ (m - 1) (f 0) (bytesB_size _ _) (by omega)), fun h => by omega⟩
      · rw [if_neg hm]
        have k2 := takeB_ok b (m - 1) (f 0) (dropF 1 f) (by omega)
        have hg := number_go b _ _ _ _ _ (f 0) (dropF 1 f) (fun k => hf _) h8 (bytesB_size _ _) _ rfl hI0 (fun k hk => run_indexS (bytesB_get hk) (hf _)) k1 k2
        have e1 : dropF 1 f 0 = f 1 := rfl
        have e2 : bytesB (m - 1 - f 0) (dropF (f 0) (dropF 1 f)) = bytesB (m - 1 - f 0) (dropF (1 + f 0) f) := bytesB_congr fun j _ => by unfold dropF; rw [Nat.add_assoc]
        by_cases hb : 0 < f 0 ∧ f 1 = 0
        · rw [if_pos hb]
          rw [e1, hb.2, decide_eq_true hb.1, if_pos (by decide)] at hg
          exact ⟨0, _, hg, fun h => by omega⟩
        · rw [if_neg hb]
          rw [if_neg (by rw [e1]; simp; omega), e2] at hg
          exact ⟨_, _, hg, fun _ => ⟨rfl, rfl⟩⟩
/-- A reader's Number. -/
theorem Number_ok (b m : Nat) (f : Nat → Nat) (hf : ∀ j, f j < 256) (h : numE m f = 0) : Takes 24 #[.pointer (some ⟨b, 0, none⟩)] b (bytesB m f) (.tuple #[.int .u64 ((valB (dropF 1 f) (f 0) : Nat) : Int), .int .i64 0]) (bytesB (m - 1 - f 0) (dropF (1 + f 0) f)) := by
  obtain ⟨v, r, h1, h2⟩ := number_any b m f hf
  obtain ⟨rfl, rfl⟩ := h2 h
  rw [h] at h1
  exact Number_go b _ _ _ _ (readU_ok b _ _ _ h1)
theorem Number_err (b m : Nat) (f : Nat → Nat) (hf : ∀ j, f j < 256) (h : numE m f ≠ 0) : Takes 24 #[.pointer (some ⟨b, 0, none⟩)] b (bytesB m f) (.tuple #[.int .u64 0, .int .i64 ((numE m f : Nat) : Int)]) (bytesB m f) := by
  obtain ⟨v, r, h1, _⟩ := number_any b m f hf
  exact Number_go b _ _ _ _ (readU_err b _ _ _ _ (by omega) h1)
end Go.Proofs.Ytijkmbebfodhdaa

/- (Mem8) -/
namespace Go.Proofs.Ytijkmbebfodhdaa
open Go.RowKit
set_option linter.unusedSimpArgs false
set_option linter.unusedVariables false
section
variable {P : Program} {ops : Array Oper} {Q : Exit → Act → World → Prop} {rest : List Oper} {a : Act} {w0 w : World} {own : List Nat} {L : List (Nat × Obj)}
  {dst : Option Tmp} {ty : TypeId} {pos : String} {aft : Array Edge} {gd : Option (Nat × Bool)} {K : Act → World → Prop}
theorem ow_copy_full {T U E V : TypeId} {x y : Operand} {g i n cap : Nat} {cur : Array Value} {f : Nat → Nat} (hm : Mem w0 own L w) (hu : P.underlying T = some (.slice E)) (hs : (P.info? E).map (·.size) = some 1) (hL : L[i]? = some (g, .cells cur V (0, 0)))
    (hx : a.eval x = .slice (some ⟨g, 0, none⟩) n cap) (hy : a.eval y = .string (bytesB n f)) (hf : ∀ j, j < n → f j < 256) (hn : cur.size = n)
    (h : ∀ w', Mem w0 own (L.set i (g, .cells (rowOf n fun j => .int .u8 ((f j : Nat) : Int)) V (0, 0))) w' → K (a.put dst (.int .i64 (n : Int))) w') : Oper.wp P ⟨dst, .call ⟨.builtin .copy, #[x, y], #[T, U]⟩, ty, pos, aft, gd⟩ a w K Q := by
  have hsz := bytesB_size n f
  have hr := Lib.run_copy_row_string (P := P) w T U ty E g 0 n cap (bytesB n f) cur V hu hs (hm.heap hL) (by omega) (by omega)
  have hrow : (cur.toList.take 0 ++ Lib.byteCells (bytesB n f).data.toList ++ cur.toList.drop (0 + (bytesB n f).size)).toArray = rowOf n fun j => .int .u8 ((f j : Nat) : Int) := by
    apply Array.ext_getElem?
    intro j
    have hl : (Lib.byteCells (bytesB n f).data.toList).length = n := by rw [Lib.byteCells_length, bytesB_toList]; simp
    have hd : cur.toList.drop (0 + (bytesB n f).size) = [] := by rw [List.drop_eq_nil_iff, Array.length_toList]; omega
    rw [hd, List.append_nil, List.take_zero, List.nil_append, List.getElem?_toArray]
    by_cases hj : j < n
    · rw [rowOf_get _ _ _ hj]
      simp only [Lib.byteCells, List.getElem?_map, bytesB_get hj, Option.map_some, UInt8.toNat_ofNat', Option.some.injEq, Value.int.injEq, true_and]
      have := hf j hj
      omega
    · rw [List.getElem?_eq_none (by omega), Array.getElem?_eq_none (by rw [rowOf_size]; omega)]
  rw [hrow, hsz] at hr
  unfold Oper.wp execOp
  simp only [resolve, invoke, builtin, Sem.run_bind, Sem.run_pure, Result.andThen_ok, List.map_toArray, List.map_cons, List.map_nil, hx, hy, hr]
  exact h _ (hm.setRow hL _)
end
end Go.Proofs.Ytijkmbebfodhdaa

/- (WirH) -/
namespace Go.Proofs.Ytijkmbebfodhdaa
open Go.RowKit
set_option linter.unusedSimpArgs false
set_option linter.unusedVariables false
set_option maxHeartbeats 1000000
set_option maxRecDepth 20000
section
variable {P : Program} {ops : Array Oper} {Q : Exit → Act → World → Prop} {rest : List Oper} {a : Act} {w0 w : World} {own : List Nat} {L : List (Nat × Obj)}
  {dst : Option Tmp} {ty : TypeId} {pos : String} {aft : Array Edge} {gd : Option (Nat × Bool)} {K : Act → World → Prop}
theorem ow_copy_none {T U E V : TypeId} {x y : Operand} {g i n cap : Nat} {cur : Array Value} (hm : Mem w0 own L w) (hu : P.underlying T = some (.slice E)) (hs : (P.info? E).map (·.size) = some 1) (hL : L[i]? = some (g, .cells cur V (0, 0)))
    (hx : a.eval x = .slice (some ⟨g, 0, none⟩) n cap) (hy : a.eval y = .string { data := #[] }) (hn : cur.size = n)
    (h : ∀ w', Mem w0 own (L.set i (g, .cells cur V (0, 0))) w' → K (a.put dst (.int .i64 0)) w') : Oper.wp P ⟨dst, .call ⟨.builtin .copy, #[x, y], #[T, U]⟩, ty, pos, aft, gd⟩ a w K Q := by
  have hr := Lib.run_copy_row_string (P := P) w T U ty E g 0 n cap { data := #[] } cur V hu hs (hm.heap hL) (by show 0 ≤ n; omega) (by show 0 + 0 ≤ cur.size; omega)
  have hrow : (cur.toList.take 0 ++ Lib.byteCells ({ data := #[] } : ByteArray).data.toList ++ cur.toList.drop (0 + ({ data := #[] } : ByteArray).size)).toArray = cur := by
    show (([] ++ [] ++ cur.toList.drop 0).toArray) = cur
    simp
  rw [hrow] at hr
  unfold Oper.wp execOp
  simp only [resolve, invoke, builtin, Sem.run_bind, Sem.run_pure, Result.andThen_ok, List.map_toArray, List.map_cons, List.map_nil, hx, hy, hr]
  exact h _ (hm.setRow hL _)
end
theorem idV_zero : idV 0 = .agg (rowOf 20 fun _ => .int .u8 0) := by
  rw [idV_eq, idC]
  congr 1
  exact rowOf_congr fun i hi => by simp [dig]
theorem built_id : Try.prog.built 24 [] = some (rowOf 20 fun _ => .int .u8 0) := by unfold rowOf; kernel_rfl
attribute [local irreducible] wpQuiet wpList wpAnyH Calls
theorem place_ok (b a : Nat) (s r : ByteArray) (h1 : Takes 84 #[.pointer (some ⟨b, 0, none⟩), .int .i64 20] b s (.tuple #[.string (bytesB 20 (dig a)), .int .i64 0]) r) :
    Takes 56 #[.pointer (some ⟨b, 0, none⟩)] b s (.tuple #[idV a, .int .i64 0]) r := by
  intro w hw
  go_enter Try.func56, Try.ntmps56
  have hm := Mem.start hw
  go_wp2_with (with_reducible first | refine stAl ?_ | refine stBo ?_ | refine stLo ?_ | refine stSo ?_ | refine stBu ?_ | refine stBs ?_ | refine stMs ?_ | refine stAp ?_ | refine stCo ?_); refine Stop.go (wl_alloc (by rfl) zeroID rfl hm ?_); clear hm; intro b2 w2 hm; simp only [Act.put, k1, k2, k3]; (try simp only [rowOf_set, k1, k2, k3, Value.cells, Act.eval, k7, k8, k9, kA, Option.getD_some] at hm)
  go_wp2_with (with_reducible first | refine stAl ?_ | refine stBo ?_ | refine stLo ?_ | refine stSo ?_ | refine stBu ?_ | refine stBs ?_ | refine stMs ?_ | refine stAp ?_ | refine stCo ?_); refine Stop.go (wl_alloc (by rfl) zeroID rfl hm ?_); clear hm; intro b3 w3 hm; simp only [Act.put, k1, k2, k3]; (try simp only [rowOf_set, k1, k2, k3, Value.cells, Act.eval, k7, k8, k9, kA, Option.getD_some] at hm)
  go_wp2_with ((first | refine wpList_skip (by rfl) ?_ | (refine wlL (hm := hm) (hu := by first | exact undID | exact undLabel) (hi := by (try simp only [rowOf_size, idC_size]); first | exact sizeID | exact sizeLabel) (h := ?_); (try simp only [Act.put, k1, k2, k3]); (try simp only [← labV_eq, ← idV_eq])) | refine wlLC (hm := hm) (hu := by first | exact undStr | exact undByteI | exact undInt | exact undU64) (h := ?_) | (refine wlS (hm := hm) (hv := (by first | rfl | exact idV_eq _ | exact labV_eq _ _ | exact rectV_eq _ _ _ _)) (hi := by (try simp only [rowOf_size, idC_size]); first | exact sizeID | exact sizeLabel) (hs := by first | (simp only [rowOf_size, idC_size]; done) | rfl) (h1 := by first | rfl | exact idC_one _ | exact rowOf_one _ _ (fun _ _ => rfl) | (simp only [List.size_toArray, List.length_cons, List.all_toArray', List.all_cons, List.all_nil, Value.oneCell', Bool.and_true, Bool.and_self]; done) | (simp [Value.oneCell']; done)) (h := ?_); clear hm; intro w1 hm; (try simp only [rowOf_set, k1, k2, k3, Value.cells, Act.eval, k7, k8, k9, kA, Option.getD_some] at hm)) | (refine wlSC (hm := hm) (hi := by first | exact sizeStr | exact sizeByteI | exact sizeInt | exact sizeU64) (ho := by first | decide | (simp only [rowOf_size, idC_size]; omega) | (simp; done)) (h := ?_); clear hm; intro w1 hm; (try simp only [rowOf_set, k1, k2, k3, Value.cells, Act.eval, k7, k8, k9, kA, Option.getD_some] at hm)) | (refine wlA (hz := by first | exact zeroID | exact zeroLabel) (hm := hm) (h := ?_); clear hm; intro b1 w1 hm; (try simp only [rowOf_set, k1, k2, k3, Value.cells, Act.eval, k7, k8, k9, kA, Option.getD_some] at hm)) | (refine wl_box (by rfl) rfl (by first | exact idV_cells _ | exact labV_cells _ _ | exact rectV_cells _ _ _ _ | rfl) hm ?_; clear hm; intro b1 w1 hm) | (go_at_call 84; refine (h1 _ (hm.heap (by with_reducible first | exact at0 | exact at1 | exact at2 | exact at3 | exact at4))).mono ?_; rintro e w1 ⟨rfl, hx⟩; replace hm := hm.callAt (by with_reducible first | exact at0 | exact at1 | exact at2 | exact at3 | exact at4) hx; clear hx; simp only [k2, k3] at hm) | (with_reducible first | refine stBs ?_ | refine stMs ?_ | refine stAp ?_ | refine stCo ?_)); (try simp only [k4, k5, k6, Act.put, k1, k2, k3]))
  refine Stop.go (wl_op (by rfl) fun K hK => ow_copy_full (i := 0) (n := 20) (cap := 20) (f := dig a) hm undBytesI sizeByteI rfl rfl rfl (fun j _ => dig_lt a j) (rowOf_size _ _) ?_)
  clear hm; intro w5 hm; refine hK _ _ ?_; clear hK K; simp only [Act.put, k1, k2, k3]
  rw [k2] at hm
  replace hm : Mem w [b] [(b3, .cells (idC a) 24 (0, 0)), (b2, .cells (rowOf 20 fun _ => .int .u8 0) 24 (0, 0)), (b, .cells #[.string r] 76 (0, 0))] w5 := hm
  go_wp2_with ((first | refine wpList_skip (by rfl) ?_ | (refine wlL (hm := hm) (hu := by first | exact undID | exact undLabel) (hi := by (try simp only [rowOf_size, idC_size]); first | exact sizeID | exact sizeLabel) (h := ?_); (try simp only [Act.put, k1, k2, k3]); (try simp only [← labV_eq, ← idV_eq])) | refine wlLC (hm := hm) (hu := by first | exact undStr | exact undByteI | exact undInt | exact undU64) (h := ?_) | (refine wlS (hm := hm) (hv := (by first | rfl | exact idV_eq _ | exact labV_eq _ _ | exact rectV_eq _ _ _ _)) (hi := by (try simp only [rowOf_size, idC_size]); first | exact sizeID | exact sizeLabel) (hs := by first | (simp only [rowOf_size, idC_size]; done) | rfl) (h1 := by first | rfl | exact idC_one _ | exact rowOf_one _ _ (fun _ _ => rfl) | (simp only [List.size_toArray, List.length_cons, List.all_toArray', List.all_cons, List.all_nil, Value.oneCell', Bool.and_true, Bool.and_self]; done) | (simp [Value.oneCell']; done)) (h := ?_); clear hm; intro w1 hm; (try simp only [rowOf_set, k1, k2, k3, Value.cells, Act.eval, k7, k8, k9, kA, Option.getD_some] at hm)) | (refine wlSC (hm := hm) (hi := by first | exact sizeStr | exact sizeByteI | exact sizeInt | exact sizeU64) (ho := by first | decide | (simp only [rowOf_size, idC_size]; omega) | (simp; done)) (h := ?_); clear hm; intro w1 hm; (try simp only [rowOf_set, k1, k2, k3, Value.cells, Act.eval, k7, k8, k9, kA, Option.getD_some] at hm)) | (refine wlA (hz := by first | exact zeroID | exact zeroLabel) (hm := hm) (h := ?_); clear hm; intro b1 w1 hm; (try simp only [rowOf_set, k1, k2, k3, Value.cells, Act.eval, k7, k8, k9, kA, Option.getD_some] at hm)) | (refine wl_box (by rfl) rfl (by first | exact idV_cells _ | exact labV_cells _ _ | exact rectV_cells _ _ _ _ | rfl) hm ?_; clear hm; intro b1 w1 hm) | (go_at_call 84; refine (h1 _ (hm.heap (by with_reducible first | exact at0 | exact at1 | exact at2 | exact at3 | exact at4))).mono ?_; rintro e w1 ⟨rfl, hx⟩; replace hm := hm.callAt (by with_reducible first | exact at0 | exact at1 | exact at2 | exact at3 | exact at4) hx; clear hx; simp only [k2, k3] at hm) | (with_reducible first | refine stBs ?_ | refine stMs ?_ | refine stAp ?_ | refine stCo ?_)); (try simp only [k4, k5, k6, Act.put, k1, k2, k3]))
  refine bodyPost_ret (results_row_tmp (h := rfl) _ _ _ _ _ _ _ rfl (hm.heap (i := 1) rfl) undID rfl (by first | exact sizeID | (simp only [rowOf_size, idC_size]; exact sizeID))) rfl ?_
  exact ⟨by rw [idV_eq a] <;> rfl, hm.tail.tail⟩
theorem place_err (b : Nat) (s r : ByteArray) (e : Int) (h1 : Takes 84 #[.pointer (some ⟨b, 0, none⟩), .int .i64 20] b s (.tuple #[.string { data := #[] }, .int .i64 e]) r) :
    Takes 56 #[.pointer (some ⟨b, 0, none⟩)] b s (.tuple #[idV 0, .int .i64 e]) r := by
  intro w hw
  rw [idV_zero]
  go_enter Try.func56, Try.ntmps56
  have hm := Mem.start hw
  go_wp2_with (with_reducible first | refine stAl ?_ | refine stBo ?_ | refine stLo ?_ | refine stSo ?_ | refine stBu ?_ | refine stBs ?_ | refine stMs ?_ | refine stAp ?_ | refine stCo ?_); refine Stop.go (wl_alloc (by rfl) zeroID rfl hm ?_); clear hm; intro b2 w2 hm; simp only [Act.put, k1, k2, k3]; (try simp only [rowOf_set, k1, k2, k3, Value.cells, Act.eval, k7, k8, k9, kA, Option.getD_some] at hm)
  go_wp2_with (with_reducible first | refine stAl ?_ | refine stBo ?_ | refine stLo ?_ | refine stSo ?_ | refine stBu ?_ | refine stBs ?_ | refine stMs ?_ | refine stAp ?_ | refine stCo ?_); refine Stop.go (wl_alloc (by rfl) zeroID rfl hm ?_); clear hm; intro b3 w3 hm; simp only [Act.put, k1, k2, k3]; (try simp only [rowOf_set, k1, k2, k3, Value.cells, Act.eval, k7, k8, k9, kA, Option.getD_some] at hm)
  go_wp2_with ((first | refine wpList_skip (by rfl) ?_ | (refine wlL (hm := hm) (hu := by first | exact undID | exact undLabel) (hi := by (try simp only [rowOf_size, idC_size]); first | exact sizeID | exact sizeLabel) (h := ?_); (try simp only [Act.put, k1, k2, k3]); (try simp only [← labV_eq, ← idV_eq])) | refine wlLC (hm := hm) (hu := by first | exact undStr | exact undByteI | exact undInt | exact undU64) (h := ?_) | (refine wlS (hm := hm) (hv := (by first | rfl | exact idV_eq _ | exact labV_eq _ _ | exact rectV_eq _ _ _ _)) (hi := by (try simp only [rowOf_size, idC_size]); first | exact sizeID | exact sizeLabel) (hs := by first | (simp only [rowOf_size, idC_size]; done) | rfl) (h1 := by first | rfl | exact idC_one _ | exact rowOf_one _ _ (fun _ _ => rfl) | (simp only [List.size_toArray, List.length_cons, List.all_toArray', List.all_cons, List.all_nil, Value.oneCell', Bool.and_true, Bool.and_self]; done) | (simp [Value.oneCell']; done)) (h := ?_); clear hm; intro w1 hm; (try simp only [rowOf_set, k1, k2, k3, Value.cells, Act.eval, k7, k8, k9, kA, Option.getD_some] at hm)) | (refine wlSC (hm := hm) (hi := by first | exact sizeStr | exact sizeByteI | exact sizeInt | exact sizeU64) (ho := by first | decide | (simp only [rowOf_size, idC_size]; omega) | (simp; done)) (h := ?_); clear hm; intro w1 hm; (try simp only [rowOf_set, k1, k2, k3, Value.cells, Act.eval, k7, k8, k9, kA, Option.getD_some] at hm)) | (refine wlA (hz := by first | exact zeroID | exact zeroLabel) (hm := hm) (h := ?_); clear hm; intro b1 w1 hm; (try simp only [rowOf_set, k1, k2, k3, Value.cells, Act.eval, k7, k8, k9, kA, Option.getD_some] at hm)) | (refine wl_box (by rfl) rfl (by first | exact idV_cells _ | exact labV_cells _ _ | exact rectV_cells _ _ _ _ | rfl) hm ?_; clear hm; intro b1 w1 hm) | (go_at_call 84; refine (h1 _ (hm.heap (by with_reducible first | exact at0 | exact at1 | exact at2 | exact at3 | exact at4))).mono ?_; rintro e w1 ⟨rfl, hx⟩; replace hm := hm.callAt (by with_reducible first | exact at0 | exact at1 | exact at2 | exact at3 | exact at4) hx; clear hx; simp only [k2, k3] at hm) | (with_reducible first | refine stBs ?_ | refine stMs ?_ | refine stAp ?_ | refine stCo ?_)); (try simp only [k4, k5, k6, Act.put, k1, k2, k3]))
  refine Stop.go (wl_op (by rfl) fun K hK => ow_copy_none (i := 0) (n := 20) (cap := 20) hm undBytesI sizeByteI rfl rfl rfl (rowOf_size _ _) ?_)
  clear hm; intro w5 hm; refine hK _ _ ?_; clear hK K; simp only [Act.put, k1, k2, k3]
  rw [k2] at hm
  go_wp2_with ((first | refine wpList_skip (by rfl) ?_ | (refine wlL (hm := hm) (hu := by first | exact undID | exact undLabel) (hi := by (try simp only [rowOf_size, idC_size]); first | exact sizeID | exact sizeLabel) (h := ?_); (try simp only [Act.put, k1, k2, k3]); (try simp only [← labV_eq, ← idV_eq])) | refine wlLC (hm := hm) (hu := by first | exact undStr | exact undByteI | exact undInt | exact undU64) (h := ?_) | (refine wlS (hm := hm) (hv := (by first | rfl | exact idV_eq _ | exact labV_eq _ _ | exact rectV_eq _ _ _ _)) (hi := by (try simp only [rowOf_size, idC_size]); first | exact sizeID | exact sizeLabel) (hs := by first | (simp only [rowOf_size, idC_size]; done) | rfl) (h1 := by first | rfl | exact idC_one _ | exact rowOf_one _ _ (fun _ _ => rfl) | (simp only [List.size_toArray, List.length_cons, List.all_toArray', List.all_cons, List.all_nil, Value.oneCell', Bool.and_true, Bool.and_self]; done) | (simp [Value.oneCell']; done)) (h := ?_); clear hm; intro w1 hm; (try simp only [rowOf_set, k1, k2, k3, Value.cells, Act.eval, k7, k8, k9, kA, Option.getD_some] at hm)) | (refine wlSC (hm := hm) (hi := by first | exact sizeStr | exact sizeByteI | exact sizeInt | exact sizeU64) (ho := by first | decide | (simp only [rowOf_size, idC_size]; omega) | (simp; done)) (h := ?_); clear hm; intro w1 hm; (try simp only [rowOf_set, k1, k2, k3, Value.cells, Act.eval, k7, k8, k9, kA, Option.getD_some] at hm)) | (refine wlA (hz := by first | exact zeroID | exact zeroLabel) (hm := hm) (h := ?_); clear hm; intro b1 w1 hm; (try simp only [rowOf_set, k1, k2, k3, Value.cells, Act.eval, k7, k8, k9, kA, Option.getD_some] at hm)) | (refine wl_box (by rfl) rfl (by first | exact idV_cells _ | exact labV_cells _ _ | exact rectV_cells _ _ _ _ | rfl) hm ?_; clear hm; intro b1 w1 hm) | (go_at_call 84; refine (h1 _ (hm.heap (by with_reducible first | exact at0 | exact at1 | exact at2 | exact at3 | exact at4))).mono ?_; rintro e w1 ⟨rfl, hx⟩; replace hm := hm.callAt (by with_reducible first | exact at0 | exact at1 | exact at2 | exact at3 | exact at4) hx; clear hx; simp only [k2, k3] at hm) | (with_reducible first | refine stBs ?_ | refine stMs ?_ | refine stAp ?_ | refine stCo ?_)); (try simp only [k4, k5, k6, Act.put, k1, k2, k3]))
  refine bodyPost_ret (results_row_tmp (h := rfl) _ _ _ _ _ _ _ rfl (hm.heap (i := 1) rfl) undID rfl (by first | exact sizeID | (simp only [rowOf_size, idC_size]; exact sizeID))) rfl ?_
  exact ⟨rfl, hm.tail.tail⟩
theorem readI_ok (b a : Nat) (s r : ByteArray) (h1 : Takes 56 #[.pointer (some ⟨b, 0, none⟩)] b s (.tuple #[idV a, .int .i64 0]) r) :
    Takes 55 #[.pointer (some ⟨b, 0, none⟩), .func (.func 56) #[.pointer (some ⟨b, 0, none⟩)] #[]] b s (.tuple #[idV a, .int .i64 0]) r := by
  intro w hw
  go_enter Try.func55, Try.ntmps55
  have hm := Mem.start hw
  go_wp2_with ((first | refine wpList_skip (by rfl) ?_ | (refine wlL (hm := hm) (hu := by first | exact undID | exact undLabel) (hi := by (try simp only [rowOf_size, idC_size]); first | exact sizeID | exact sizeLabel) (h := ?_); (try simp only [Act.put, k1, k2, k3]); (try simp only [← labV_eq, ← idV_eq])) | refine wlLC (hm := hm) (hu := by first | exact undStr | exact undByteI | exact undInt | exact undU64) (h := ?_) | (refine wlS (hm := hm) (hv := (by first | rfl | exact idV_eq _ | exact labV_eq _ _ | exact rectV_eq _ _ _ _)) (hi := by (try simp only [rowOf_size, idC_size]); first | exact sizeID | exact sizeLabel) (hs := by first | (simp only [rowOf_size, idC_size]; done) | rfl) (h1 := by first | rfl | exact idC_one _ | exact rowOf_one _ _ (fun _ _ => rfl) | (simp only [List.size_toArray, List.length_cons, List.all_toArray', List.all_cons, List.all_nil, Value.oneCell', Bool.and_true, Bool.and_self]; done) | (simp [Value.oneCell']; done)) (h := ?_); clear hm; intro w1 hm; (try simp only [rowOf_set, k1, k2, k3, Value.cells, Act.eval, k7, k8, k9, kA, Option.getD_some] at hm)) | (refine wlSC (hm := hm) (hi := by first | exact sizeStr | exact sizeByteI | exact sizeInt | exact sizeU64) (ho := by first | decide | (simp only [rowOf_size, idC_size]; omega) | (simp; done)) (h := ?_); clear hm; intro w1 hm; (try simp only [rowOf_set, k1, k2, k3, Value.cells, Act.eval, k7, k8, k9, kA, Option.getD_some] at hm)) | (refine wlA (hz := by first | exact zeroID | exact zeroLabel) (hm := hm) (h := ?_); clear hm; intro b1 w1 hm; (try simp only [rowOf_set, k1, k2, k3, Value.cells, Act.eval, k7, k8, k9, kA, Option.getD_some] at hm)) | (refine wl_box (by rfl) rfl (by first | exact idV_cells _ | exact labV_cells _ _ | exact rectV_cells _ _ _ _ | rfl) hm ?_; clear hm; intro b1 w1 hm) | (go_at_call 56; refine (h1 _ (hm.heap (by with_reducible first | exact at0 | exact at1 | exact at2 | exact at3 | exact at4))).mono ?_; rintro e w1 ⟨rfl, hx⟩; replace hm := hm.callAt (by with_reducible first | exact at0 | exact at1 | exact at2 | exact at3 | exact at4) hx; clear hx; simp only [k2, k3] at hm) | (with_reducible first | refine stBs ?_ | refine stMs ?_ | refine stAp ?_ | refine stCo ?_)); (try simp only [k4, k5, k6, Act.put, k1, k2, k3]))
  refine bodyPost_ret (results_row_tmp (h := rfl) _ _ _ _ _ _ _ rfl (hm.heap (i := 2) rfl) undID rfl (by first | exact sizeID | (simp only [rowOf_size, idC_size]; exact sizeID))) rfl ?_
  exact ⟨by rw [idV_eq a] <;> rfl, hm.tail.tail.tail⟩
theorem readI_err (b a : Nat) (s r : ByteArray) (e : Int) (he : e ≠ 0) (h1 : Takes 56 #[.pointer (some ⟨b, 0, none⟩)] b s (.tuple #[idV a, .int .i64 e]) r) :
    Takes 55 #[.pointer (some ⟨b, 0, none⟩), .func (.func 56) #[.pointer (some ⟨b, 0, none⟩)] #[]] b s (.tuple #[idV 0, .int .i64 e]) s := by
  intro w hw
  have he1 : (e != 0) = true := by simp [bne, he]
  rw [idV_zero]
  go_enter Try.func55, Try.ntmps55
  have hm := Mem.start hw
  go_wp2_with ((first | refine wpList_skip (by rfl) ?_ | (refine wlL (hm := hm) (hu := by first | exact undID | exact undLabel) (hi := by (try simp only [rowOf_size, idC_size]); first | exact sizeID | exact sizeLabel) (h := ?_); (try simp only [Act.put, k1, k2, k3]); (try simp only [← labV_eq, ← idV_eq])) | refine wlLC (hm := hm) (hu := by first | exact undStr | exact undByteI | exact undInt | exact undU64) (h := ?_) | (refine wlS (hm := hm) (hv := (by first | rfl | exact idV_eq _ | exact labV_eq _ _ | exact rectV_eq _ _ _ _)) (hi := by (try simp only [rowOf_size, idC_size]); first | exact sizeID | exact sizeLabel) (hs := by first | (simp only [rowOf_size, idC_size]; done) | rfl) (h1 := by first | rfl | exact idC_one _ | exact rowOf_one _ _ (fun _ _ => rfl) | (simp only [List.size_toArray, List.length_cons, List.all_toArray', List.all_cons, List.all_nil, Value.oneCell', Bool.and_true, Bool.and_self]; done) | (simp [Value.oneCell']; done)) (h := ?_); clear hm; intro w1 hm; (try simp only [rowOf_set, k1, k2, k3, Value.cells, Act.eval, k7, k8, k9, kA, Option.getD_some] at hm)) | (refine wlSC (hm := hm) (hi := by first | exact sizeStr | exact sizeByteI | exact sizeInt | exact sizeU64) (ho := by first | decide | (simp only [rowOf_size, idC_size]; omega) | (simp; done)) (h := ?_); clear hm; intro w1 hm; (try simp only [rowOf_set, k1, k2, k3, Value.cells, Act.eval, k7, k8, k9, kA, Option.getD_some] at hm)) | (refine wlA (hz := by first | exact zeroID | exact zeroLabel) (hm := hm) (h := ?_); clear hm; intro b1 w1 hm; (try simp only [rowOf_set, k1, k2, k3, Value.cells, Act.eval, k7, k8, k9, kA, Option.getD_some] at hm)) | (refine wl_box (by rfl) rfl (by first | exact idV_cells _ | exact labV_cells _ _ | exact rectV_cells _ _ _ _ | rfl) hm ?_; clear hm; intro b1 w1 hm) | (go_at_call 56; refine (h1 _ (hm.heap (by with_reducible first | exact at0 | exact at1 | exact at2 | exact at3 | exact at4))).mono ?_; rintro e w1 ⟨rfl, hx⟩; replace hm := hm.callAt (by with_reducible first | exact at0 | exact at1 | exact at2 | exact at3 | exact at4) hx; clear hx; simp only [k2, k3] at hm) | (with_reducible first | refine stBs ?_ | refine stMs ?_ | refine stAp ?_ | refine stCo ?_)); (try simp only [k4, k5, k6, Act.put, k1, k2, k3]))
  refine bodyPost_ret (results_row_tmp (h := rfl) _ _ _ _ _ _ _ rfl (hm.heap (i := 2) rfl) undID rfl (by first | exact sizeID | (simp only [rowOf_size, idC_size]; exact sizeID))) rfl ?_
  exact ⟨rfl, hm.tail.tail.tail⟩
theorem Place_go (b a : Nat) (s r : ByteArray) (e : Int) (h1 : Takes 55 #[.pointer (some ⟨b, 0, none⟩), .func (.func 56) #[.pointer (some ⟨b, 0, none⟩)] #[]] b s (.tuple #[idV a, .int .i64 e]) r) :
    Takes 30 #[.pointer (some ⟨b, 0, none⟩)] b s (.tuple #[idV a, .int .i64 e]) r := by
  intro w hw
  go_enter Try.func30, Try.ntmps30
  have hm := Mem.start hw
  go_wp2_with ((first | refine wpList_skip (by rfl) ?_ | (refine wlL (hm := hm) (hu := by first | exact undID | exact undLabel) (hi := by (try simp only [rowOf_size, idC_size]); first | exact sizeID | exact sizeLabel) (h := ?_); (try simp only [Act.put, k1, k2, k3]); (try simp only [← labV_eq, ← idV_eq])) | refine wlLC (hm := hm) (hu := by first | exact undStr | exact undByteI | exact undInt | exact undU64) (h := ?_) | (refine wlS (hm := hm) (hv := (by first | rfl | exact idV_eq _ | exact labV_eq _ _ | exact rectV_eq _ _ _ _)) (hi := by (try simp only [rowOf_size, idC_size]); first | exact sizeID | exact sizeLabel) (hs := by first | (simp only [rowOf_size, idC_size]; done) | rfl) (h1 := by first | rfl | exact idC_one _ | exact rowOf_one _ _ (fun _ _ => rfl) | (simp only [List.size_toArray, List.length_cons, List.all_toArray', List.all_cons, List.all_nil, Value.oneCell', Bool.and_true, Bool.and_self]; done) | (simp [Value.oneCell']; done)) (h := ?_); clear hm; intro w1 hm; (try simp only [rowOf_set, k1, k2, k3, Value.cells, Act.eval, k7, k8, k9, kA, Option.getD_some] at hm)) | (refine wlSC (hm := hm) (hi := by first | exact sizeStr | exact sizeByteI | exact sizeInt | exact sizeU64) (ho := by first | decide | (simp only [rowOf_size, idC_size]; omega) | (simp; done)) (h := ?_); clear hm; intro w1 hm; (try simp only [rowOf_set, k1, k2, k3, Value.cells, Act.eval, k7, k8, k9, kA, Option.getD_some] at hm)) | (refine wlA (hz := by first | exact zeroID | exact zeroLabel) (hm := hm) (h := ?_); clear hm; intro b1 w1 hm; (try simp only [rowOf_set, k1, k2, k3, Value.cells, Act.eval, k7, k8, k9, kA, Option.getD_some] at hm)) | (refine wl_box (by rfl) rfl (by first | exact idV_cells _ | exact labV_cells _ _ | exact rectV_cells _ _ _ _ | rfl) hm ?_; clear hm; intro b1 w1 hm) | (go_at_call 55; refine (h1 _ (hm.heap (by with_reducible first | exact at0 | exact at1 | exact at2 | exact at3 | exact at4))).mono ?_; rintro e w1 ⟨rfl, hx⟩; replace hm := hm.callAt (by with_reducible first | exact at0 | exact at1 | exact at2 | exact at3 | exact at4) hx; clear hx; simp only [k2, k3] at hm) | (with_reducible first | refine stBs ?_ | refine stMs ?_ | refine stAp ?_ | refine stCo ?_)); (try simp only [k4, k5, k6, Act.put, k1, k2, k3]))
  refine bodyPost_ret (results_row_tmp (h := rfl) _ _ _ _ _ _ _ rfl (hm.heap (i := 0) rfl) undID rfl (by first | exact sizeID | (simp only [rowOf_size, idC_size]; exact sizeID))) rfl ?_
  exact ⟨by rw [idV_eq a] <;> rfl, hm.tail⟩
/-- A place's bytes, read. -/
theorem Place_ok (b m a : Nat) (f : Nat → Nat) (h : 20 ≤ m) (ha : ∀ j, j < 20 → f j = dig a j) : Takes 30 #[.pointer (some ⟨b, 0, none⟩)] b (bytesB m f) (.tuple #[idV a, .int .i64 0]) (bytesB (m - 20) (dropF 20 f)) := by
  have h1 := takeB_ok b m 20 f h
  rw [show bytesB 20 f = bytesB 20 (dig a) from bytesB_congr ha] at h1
  exact Place_go b a _ _ _ (readI_ok b a _ _ (place_ok b a _ _ h1))
theorem Place_err (b m : Nat) (f : Nat → Nat) (h : m < 20) : Takes 30 #[.pointer (some ⟨b, 0, none⟩)] b (bytesB m f) (.tuple #[idV 0, .int .i64 4]) (bytesB m f) :=
  Place_go b 0 _ _ _ (readI_err b 0 _ _ _ (by decide) (place_err b _ _ _ (take_more b _ m 20 (bytesB_size _ _) h)))
end Go.Proofs.Ytijkmbebfodhdaa

/- (WirP) -/
namespace Go.Proofs.Ytijkmbebfodhdaa
open Go.RowKit
set_option linter.unusedSimpArgs false
set_option linter.unusedVariables false
def byteOf (s : ByteArray) (i : Nat) : Nat := ((s.data.toList[i]?).getD 0).toNat
theorem byteOf_lt (s : ByteArray) (i : Nat) : byteOf s i < 256 := UInt8.toNat_lt _
theorem byteOf_eq (s : ByteArray) : bytesB s.size (byteOf s) = s := (bytes_of s).symm
theorem num_digits (v : Nat) (F : Nat → Nat) (hF : ∀ j, j < nB v → F j = v / 256 ^ (nB v - 1 - j) % 256) : ∀ k, k ≤ nB v → valB F k = v / 256 ^ (nB v - k)
  | 0, _ => by rw [valB, Nat.sub_zero, Nat.div_eq_of_lt (nB_lt v)]
  | k + 1, h => by
    rw [valB, num_digits v F hF k (by omega), hF k (by omega), show nB v - k = nB v - (k + 1) + 1 from by omega, Nat.pow_succ, ← Nat.div_div_eq_div_mul, show nB v - 1 - k = nB v - (k + 1) from by omega]
    generalize v / 256 ^ (nB v - (k + 1)) = q
    omega
theorem num_read (m v : Nat) (f : Nat → Nat) (hv : v < 2 ^ 64) (hm : nB v + 1 ≤ m) (hf : ∀ j, j ≤ nB v → f j = numF v j) : numE m f = 0 ∧ valB (dropF 1 f) (f 0) = v ∧ f 0 = nB v := by
  have h0 : f 0 = nB v := by rw [hf 0 (by omega)]; unfold numF; rfl
  have h8 := nB_8 v hv
  refine ⟨?_, ?_, h0⟩
  · unfold numE
    rw [if_neg (by omega), h0, if_neg (by omega), if_neg (by omega), if_neg]
    rintro ⟨hp, h1⟩
    rw [hf 1 (by omega)] at h1
    unfold numF at h1
    rw [if_neg (by omega)] at h1
    have hv0 : 0 < v := by
      rcases Nat.eq_zero_or_pos v with h | h
      · rw [h] at hp; exact absurd hp (by decide)
      · exact h
    have a1 := nB_le v hv0
    have a2 := nB_lt v
    have hpw : 0 < 256 ^ (nB v - 1) := Nat.pow_pos (by omega)
    have a3 : 1 ≤ v / 256 ^ (nB v - 1) := (Nat.le_div_iff_mul_le hpw).2 (by omega)
    have a4 : v / 256 ^ (nB v - 1) < 256 := by
      refine (Nat.div_lt_iff_lt_mul hpw).2 ?_
      rw [show 256 * 256 ^ (nB v - 1) = 256 ^ nB v from by rw [Nat.mul_comm, ← Nat.pow_succ, show (nB v - 1).succ = nB v from by omega]]
      exact a2
    omega
  · rw [h0, num_digits v (dropF 1 f) (fun j hj => by
      unfold dropF
      rw [hf (1 + j) (by omega)]
      unfold numF
      rw [if_neg (by omega), show nB v - (1 + j) = nB v - 1 - j from by omega]) (nB v) (Nat.le_refl _), Nat.sub_self, Nat.pow_zero, Nat.div_one]
/-- A number's bytes. -/
def numB (v : Nat) : ByteArray := bytesB (nB v + 1) (numF v)
end Go.Proofs.Ytijkmbebfodhdaa

/- (EqI) -/
namespace Go.Proofs.Ytijkmbebfodhdaa
open Go.RowKit
set_option linter.unusedSimpArgs false
set_option linter.unusedVariables false
set_option maxHeartbeats 400000
set_option maxRecDepth 20000
def eqId (a b : Nat) : Bool := (List.range 20).all fun i => ((dig a i : Nat) : Int) == ((dig b i : Nat) : Int)
theorem eqId_refl (a : Nat) : eqId a a = true := by unfold eqId; simp
theorem run_equalID (a b : Nat) (w : World) : (Op.equalIn 10000 24 (.agg (idC a)) (.agg (idC b))).run Try.prog w = .ok (eqId a b) w := by
  rw [run_equalInts w 9998 undID undByteI sizeByteI (idC a) (idC b) (fun i => ((dig a i : Nat) : Int)) (fun i => ((dig b i : Nat) : Int)) (fun i hi => ⟨rowOf_get _ _ i hi, rowOf_get _ _ i hi⟩)]
  rfl
@[go_sem] theorem run_eqlID (a b : Nat) (w : World) : (binOp .eql 24 (idV a) (idV b)).run Try.prog w = .ok (.bool (eqId a b)) w := by
  rw [idV_eq, idV_eq, run_eql_struct, run_equalID]; rfl
@[go_sem] theorem run_guardID (op : BinOp) (x y : Operand) (a b : Nat) (w : World) : (eqGuard op 24 x y (idV a) (idV b)).run Try.prog w = .ok () w := by
  rw [idV_eq, idV_eq]
  exact run_eqGuard_agg w op _ x y _ _ (by kernel_rfl)
@[go_sem high] theorem run_eqlID_self (a : Nat) (w : World) : (binOp .eql 24 (idV a) (idV a)).run Try.prog w = .ok (.bool true) w := by
  rw [run_eqlID, eqId_refl]
end Go.Proofs.Ytijkmbebfodhdaa

/- (LetA) -/
namespace Go.Proofs.Ytijkmbebfodhdaa
open Go.RowKit
set_option linter.unusedSimpArgs false
set_option linter.unusedVariables false
set_option maxHeartbeats 1000000
set_option maxRecDepth 20000
def peerF (a : Int) (p : Nat) (j : Nat) : Value := if j = 0 then .int .i64 a else .int .u8 ((dig p (j - 1) : Nat) : Int)
@[irreducible] def peerC (a : Int) (p : Nat) : Array Value := rowOf 21 (peerF a p)
theorem peerC_eq (a : Int) (p : Nat) : peerC a p = rowOf 21 (peerF a p) := by unfold peerC; rfl
theorem peerC_size (a : Int) (p : Nat) : (peerC a p).size = 21 := by rw [peerC_eq, rowOf_size]
@[irreducible] def peerV (a : Int) (p : Nat) : Value := .agg (peerC a p)
theorem peerV_eq (a : Int) (p : Nat) : peerV a p = .agg (peerC a p) := by unfold peerV; rfl
theorem peerV_cells (a : Int) (p : Nat) : (peerV a p).cells = peerC a p := by rw [peerV_eq]; rfl
theorem peer0 (a : Int) (p : Nat) : (peerC a p)[0]? = some (.int .i64 a) := by rw [peerC_eq, rowOf_get _ _ 0 (by decide)]; rfl
theorem peer_id (a : Int) (p : Nat) (j : Nat) (v : Value) (h : (idC p).toList[j]? = some v) : (peerC a p)[1 + j]? = some v := by
  have hj : j < 20 := by
    have := (List.getElem?_eq_some_iff.1 h).1
    rw [Array.length_toList, idC_size] at this
    exact this
  rw [Array.getElem?_toList, idC, rowOf_get _ _ j hj] at h
  rw [peerC_eq, rowOf_get _ _ _ (by omega), ← h]
  unfold peerF
  rw [if_neg (by omega), Nat.add_sub_cancel_left]
theorem peerC_one (a : Int) (p : Nat) : (peerC a p).all (·.oneCell') = true := by
  rw [peerC_eq]
  exact rowOf_one _ _ fun j _ => by unfold peerF; split <;> rfl
noncomputable def peerFields : Array Field := match Try.prog.underlying 60 with | some (.struct fs) => fs | _ => #[]
theorem undPeer : Try.prog.underlying 60 = some (.struct peerFields) := by kernel_rfl
noncomputable def letFields : Array Field := match Try.prog.underlying 63 with | some (.struct fs) => fs | _ => #[]
theorem undLetter : Try.prog.underlying 63 = some (.struct letFields) := by kernel_rfl
theorem sizePeer : (Try.prog.info? 60).map (·.size) = some 21 := by kernel_rfl
/-- No peer: the address -1, and the place 0. -/
theorem built_none : Try.prog.built 60 [(0, .int .i64 (-1))] = some (peerC (-1) 0) := by
  rw [peerC_eq]
  unfold rowOf
  kernel_rfl
theorem zeroPeer : (Try.prog.info? 60).bind (·.zero) = some (.agg (peerC 0 0)) := by
  rw [peerC_eq]
  unfold rowOf
  kernel_rfl
/-- A letter. -/
structure Let where
  (kind fa : Int) (fi req id : Nat) (ac : Option Addr) (an acap : Nat) (done : Bool) (pa : Int) (pi : Nat) (pc : Option Addr) (pn pcap : Nat)
def letF (l : Let) (j : Nat) : Value :=
  if j = 0 then .int .i64 l.kind else if j < 22 then peerF l.fa l.fi (j - 1) else if j = 22 then .int .u64 (l.req : Int) else if j < 43 then .int .u8 ((dig l.id (j - 23) : Nat) : Int)
  else if j = 43 then .slice l.ac l.an l.acap else if j = 44 then .bool l.done else if j < 66 then peerF l.pa l.pi (j - 45) else .slice l.pc l.pn l.pcap
@[irreducible] def letC (l : Let) : Array Value := rowOf 67 (letF l)
theorem letC_eq (l : Let) : letC l = rowOf 67 (letF l) := by unfold letC; rfl
theorem letC_size (l : Let) : (letC l).size = 67 := by rw [letC_eq, rowOf_size]
@[irreducible] def letV (l : Let) : Value := .agg (letC l)
theorem letV_eq (l : Let) : letV l = .agg (letC l) := by unfold letV; rfl
theorem letV_cells (l : Let) : (letV l).cells = letC l := by rw [letV_eq]; rfl
theorem let0 (l : Let) : (letC l)[0]? = some (.int .i64 l.kind) := by rw [letC_eq, rowOf_get _ _ 0 (by decide)]; rfl
theorem let1 (l : Let) : (letC l)[1]? = some (.int .i64 l.fa) := by rw [letC_eq, rowOf_get _ _ 1 (by decide)]; rfl
theorem let22 (l : Let) : (letC l)[22]? = some (.int .u64 (l.req : Int)) := by rw [letC_eq, rowOf_get _ _ 22 (by decide)]; rfl
theorem let43 (l : Let) : (letC l)[43]? = some (.slice l.ac l.an l.acap) := by rw [letC_eq, rowOf_get _ _ 43 (by decide)]; rfl
theorem let44 (l : Let) : (letC l)[44]? = some (.bool l.done) := by rw [letC_eq, rowOf_get _ _ 44 (by decide)]; rfl
theorem let45 (l : Let) : (letC l)[45]? = some (.int .i64 l.pa) := by rw [letC_eq, rowOf_get _ _ 45 (by decide)]; rfl
theorem let66 (l : Let) : (letC l)[66]? = some (.slice l.pc l.pn l.pcap) := by rw [letC_eq, rowOf_get _ _ 66 (by decide)]; rfl
theorem let_id (l : Let) (j : Nat) (v : Value) (h : (idC l.id).toList[j]? = some v) : (letC l)[23 + j]? = some v := by
  have hj : j < 20 := by
    have := (List.getElem?_eq_some_iff.1 h).1
    rw [Array.length_toList, idC_size] at this
    exact this
  rw [Array.getElem?_toList, idC, rowOf_get _ _ j hj] at h
  rw [letC_eq, rowOf_get _ _ _ (by omega), ← h]
  unfold letF
  rw [if_neg (by omega), if_neg (by omega), if_neg (by omega), if_pos (by omega), Nat.add_sub_cancel_left]
theorem let_from (l : Let) (j : Nat) (v : Value) (h : (peerC l.fa l.fi).toList[j]? = some v) : (letC l)[1 + j]? = some v := by
  have hj : j < 21 := by
    have := (List.getElem?_eq_some_iff.1 h).1
    rw [Array.length_toList, peerC_size] at this
    exact this
  rw [Array.getElem?_toList, peerC_eq, rowOf_get _ _ j hj] at h
  rw [letC_eq, rowOf_get _ _ _ (by omega), ← h]
  unfold letF
  rw [if_neg (by omega), if_pos (by omega), Nat.add_sub_cancel_left]
theorem let_peer (l : Let) (j : Nat) (v : Value) (h : (peerC l.pa l.pi).toList[j]? = some v) : (letC l)[45 + j]? = some v := by
  have hj : j < 21 := by
    have := (List.getElem?_eq_some_iff.1 h).1
    rw [Array.length_toList, peerC_size] at this
    exact this
  rw [Array.getElem?_toList, peerC_eq, rowOf_get _ _ j hj] at h
  rw [letC_eq, rowOf_get _ _ _ (by omega), ← h]
  unfold letF
  rw [if_neg (by omega), if_neg (by omega), if_neg (by omega), if_neg (by omega), if_neg (by omega), if_neg (by omega), if_pos (by omega), Nat.add_sub_cancel_left]
theorem sizeLetter : (Try.prog.info? 63).map (·.size) = some 67 := by kernel_rfl
/-! ### Kinds, addresses -/
/-- A kind's parts, as bits (1 req, 2 id, 4 avoid, 8 done, 16 peer, 32 peers); is there such a kind? -/
def partsM (k : Int) : Nat := if k = 1 then 7 else if k = 2 then 25 else if k = 3 ∨ k = 6 ∨ k = 7 then 1 else if k = 4 then 49 else if k = 8 then 48 else 0
def kindM (k : Int) : Bool := decide (1 ≤ k ∧ k ≤ 8)
attribute [local irreducible] wpQuiet wpList wpAnyH Calls
theorem parts_c (k : Int) : Says 58 #[.int .i64 k] (.tuple #[.int .i64 ((partsM k : Nat) : Int), .bool (kindM k)]) := by
  intro w
  by_cases h : kindM k = true
  · unfold kindM at h
    have h' := of_decide_eq_true h
    have hk : k = 1 ∨ k = 2 ∨ k = 3 ∨ k = 4 ∨ k = 5 ∨ k = 6 ∨ k = 7 ∨ k = 8 := by omega
    clear h h'
    rcases hk with rfl | rfl | rfl | rfl | rfl | rfl | rfl | rfl <;> (
      go_enter Try.func58, Try.ntmps58
      have hm := Mem.refl w []
      go_wp2_with ((first | refine wpList_skip (by rfl) ?_ | (refine wlL (hm := hm) (hu := by first | exact undPeer | exact undID) (hi := by (try simp only [rowOf_size, idC_size]); first | exact sizePeer | exact sizeID) (h := ?_); (try simp only [Act.put, k1, k2, k3]); (try simp only [← peerV_eq, ← idV_eq])) | refine wlLC (hm := hm) (hv := by first | exact peer0 _ _ | rfl) (hu := by first | exact undInt | exact undByteI) (h := ?_) | (refine wlS (hm := hm) (hv := (by first | rfl | exact idV_eq _)) (hi := by (try simp only [rowOf_size, idC_size]); first | exact sizePeer | exact sizeID) (hs := by first | (simp only [rowOf_size, idC_size]; done) | rfl) (h1 := by first | rfl | exact idC_one _ | exact rowOf_one _ _ (fun _ _ => rfl) | (simp only [List.size_toArray, List.length_cons, List.all_toArray', List.all_cons, List.all_nil, Value.oneCell', Bool.and_true, Bool.and_self]; done) | (simp [Value.oneCell']; done)) (h := ?_); clear hm; intro w1 hm; (try simp only [rowOf_set, k1, k2, k3, Value.cells, Act.eval, k7, k8, k9, kA, Option.getD_some] at hm)) | (refine wlSC (hm := hm) (hi := by first | exact sizeInt | exact sizeByteI) (ho := by first | decide | (simp only [rowOf_size, idC_size]; omega) | (simp; done)) (h := ?_); clear hm; intro w1 hm; (try simp only [rowOf_set, k1, k2, k3, Value.cells, Act.eval, k7, k8, k9, kA, Option.getD_some] at hm)) | (refine wlA (hz := by first | exact zeroPeer | exact zeroID) (hm := hm) (h := ?_); clear hm; intro b1 w1 hm; (try simp only [rowOf_set, k1, k2, k3, Value.cells, Act.eval, k7, k8, k9, kA, Option.getD_some] at hm)) | (refine wl_box (by rfl) rfl (by first | exact idV_cells _ | exact labV_cells _ _ | exact rectV_cells _ _ _ _ | rfl) hm ?_; clear hm; intro b1 w1 hm) | (refine wl_build (by rfl) (built_none) rfl ?_; (try simp only [Act.put, k1, k2, k3]); (try simp only [← peerV_eq, ← idV_eq])) | (go_at_call 67; refine (odd_c _ _).mono ?_; rintro e w1 ⟨rfl, hx⟩; replace hm := hm.call hx; clear hx) | (with_reducible first | refine stBs ?_ | refine stMs ?_ | refine stAp ?_ | refine stCo ?_)); (try simp only [k4, k5, k6, Act.put, k1, k2, k3]))
      go_ret2
      exact ⟨rfl, hm.ext⟩)
  · have h1 : kindM k = false := by simpa using h
    rw [h1]
    unfold kindM at h1
    have h2 := of_decide_eq_false h1
    have e1 : ¬ k = 1 := by omega
    have e2 : ¬ k = 2 := by omega
    have e3 : ¬ k = 3 := by omega
    have e4 : ¬ k = 4 := by omega
    have e5 : ¬ k = 5 := by omega
    have e6 : ¬ k = 6 := by omega
    have e7 : ¬ k = 7 := by omega
    have e8 : ¬ k = 8 := by omega
    have hp : partsM k = 0 := by unfold partsM; rw [if_neg e1, if_neg e2, if_neg (by omega), if_neg e4, if_neg e8]
    rw [hp]
    have b1 : (k == 1) = false := by rw [beq_eq_false_iff_ne]; exact e1
    have b2 : (k == 2) = false := by rw [beq_eq_false_iff_ne]; exact e2
    have b3 : (k == 3) = false := by rw [beq_eq_false_iff_ne]; exact e3
    have b4 : (k == 4) = false := by rw [beq_eq_false_iff_ne]; exact e4
    have b5 : (k == 5) = false := by rw [beq_eq_false_iff_ne]; exact e5
    have b6 : (k == 6) = false := by rw [beq_eq_false_iff_ne]; exact e6
    have b7 : (k == 7) = false := by rw [beq_eq_false_iff_ne]; exact e7
    have b8 : (k == 8) = false := by rw [beq_eq_false_iff_ne]; exact e8
    clear h h1 h2
    go_enter Try.func58, Try.ntmps58
    have hm := Mem.refl w []
    go_wp2_with ((first | refine wpList_skip (by rfl) ?_ | (refine wlL (hm := hm) (hu := by first | exact undPeer | exact undID) (hi := by (try simp only [rowOf_size, idC_size]); first | exact sizePeer | exact sizeID) (h := ?_); (try simp only [Act.put, k1, k2, k3]); (try simp only [← peerV_eq, ← idV_eq])) | refine wlLC (hm := hm) (hv := by first | exact peer0 _ _ | rfl) (hu := by first | exact undInt | exact undByteI) (h := ?_) | (refine wlS (hm := hm) (hv := (by first | rfl | exact idV_eq _)) (hi := by (try simp only [rowOf_size, idC_size]); first | exact sizePeer | exact sizeID) (hs := by first | (simp only [rowOf_size, idC_size]; done) | rfl) (h1 := by first | rfl | exact idC_one _ | exact rowOf_one _ _ (fun _ _ => rfl) | (simp only [List.size_toArray, List.length_cons, List.all_toArray', List.all_cons, List.all_nil, Value.oneCell', Bool.and_true, Bool.and_self]; done) | (simp [Value.oneCell']; done)) (h := ?_); clear hm; intro w1 hm; (try simp only [rowOf_set, k1, k2, k3, Value.cells, Act.eval, k7, k8, k9, kA, Option.getD_some] at hm)) | (refine wlSC (hm := hm) (hi := by first | exact sizeInt | exact sizeByteI) (ho := by first | decide | (simp only [rowOf_size, idC_size]; omega) | (simp; done)) (h := ?_); clear hm; intro w1 hm; (try simp only [rowOf_set, k1, k2, k3, Value.cells, Act.eval, k7, k8, k9, kA, Option.getD_some] at hm)) | (refine wlA (hz := by first | exact zeroPeer | exact zeroID) (hm := hm) (h := ?_); clear hm; intro b1 w1 hm; (try simp only [rowOf_set, k1, k2, k3, Value.cells, Act.eval, k7, k8, k9, kA, Option.getD_some] at hm)) | (refine wl_box (by rfl) rfl (by first | exact idV_cells _ | exact labV_cells _ _ | exact rectV_cells _ _ _ _ | rfl) hm ?_; clear hm; intro b1 w1 hm) | (refine wl_build (by rfl) (built_none) rfl ?_; (try simp only [Act.put, k1, k2, k3]); (try simp only [← peerV_eq, ← idV_eq])) | (go_at_call 67; refine (odd_c _ _).mono ?_; rintro e w1 ⟨rfl, hx⟩; replace hm := hm.call hx; clear hx) | (with_reducible first | refine stBs ?_ | refine stMs ?_ | refine stAp ?_ | refine stCo ?_)); (try simp only [k4, k5, k6, Act.put, k1, k2, k3]))
    go_ret2
    exact ⟨rfl, hm.ext⟩
def oddM (a : Int) : Bool := decide (a < 0 ∨ 999 < a)
theorem odd_c (a : Int) : Says 67 #[.int .i64 a] (.bool (oddM a)) := by
  intro w
  obtain ⟨r, hr⟩ : ∃ r, oddM a = r := ⟨_, rfl⟩
  rw [hr]
  unfold oddM at hr
  by_cases h : a < 0
  · have d0 : decide (a < 0) = true := decide_eq_true h
    have hr' : true = r := by rw [← hr]; exact (decide_eq_true (Or.inl h)).symm
    subst hr'
    clear hr
    go_enter Try.func67, Try.ntmps67
    have hm := Mem.refl w []
    go_wp2
    go_ret
    exact ⟨rfl, hm.ext⟩
  · have d0 : decide (a < 0) = false := decide_eq_false h
    have hr' : decide (999 < a) = r := by rw [← hr, decide_eq_decide]; omega
    clear hr
    go_enter Try.func67, Try.ntmps67
    have hm := Mem.refl w []
    go_wp2
    go_ret
    exact ⟨rfl, hm.ext⟩
section
open Region
theorem yS {P : Program} {ops : Array Oper} {Q : Exit → Act → World → Prop} {rest : List Oper} {a : Act} {w0 w : World} {own : List Nat} {L : List (Nat × Obj)} {dst : Option Tmp} {ty : TypeId} {pos : String} {aft : Array Edge} {gd : Option (Nat × Bool)}
    {T U : TypeId} {x y : Operand} {v : Value} {b i : Nat} {cs cs' : Array Value} (hw : Region.wanted ⟨dst, .store T x y, ty, pos, aft, gd⟩ (yielded ops a.tmps) = true := by rfl) (hm : Mem w0 own L w) (hx : a.eval x = .pointer (some ⟨b, 0, none⟩) := by rfl) (hy : a.eval y = v := by rfl) (hL : L[i]? = some (b, .cells cs U (0, 0)) := by with_reducible first | exact at0 | exact at1 | exact at2 | exact at3 | exact at4 | exact at5 | exact at6 | exact at7 | exact at8 | exact at9)
    (hv : v = .agg cs' := by first | rfl | exact idV_eq _ | exact peerV_eq _ _ | exact letV_eq _) (hi : (P.info? T).map (·.size) = some cs'.size) (hs : cs.size = cs'.size := by first | (simp only [rowOf_size, idC_size, peerC_size, letC_size]; done) | rfl)
    (h1 : cs'.all (·.oneCell') = true := by first | rfl | exact idC_one _ | exact letC_one _ | exact peerC_one _ _ | exact rowOf_one _ _ (fun _ _ => rfl) | (simp only [List.size_toArray, List.length_cons, List.all_toArray', List.all_cons, List.all_nil, Value.oneCell', Bool.and_true, Bool.and_self]; done) | (simp [Value.oneCell']; done))
    (h : ∀ w', Mem w0 own (L.set i (b, .cells cs' U (0, 0))) w' → wpList P ops Q rest (a.put dst undef) w') : wpList P ops Q (⟨dst, .store T x y, ty, pos, aft, gd⟩ :: rest) a w := wl_store hw hm hL hx hy hv hi hs h1 h
end
end Go.Proofs.Ytijkmbebfodhdaa

/- (Open) -/
namespace Go.Proofs.Ytijkmbebfodhdaa
open Go.ChangeShapes Go.WideShapes Go.ChangeAt Go.RowKit
set_option linter.unusedVariables false
theorem own : ownKnob Try.prog.godebug = none := by kernel_rfl
theorem laidOut : laidOutB Try.prog = true := by kernel_rfl
end Go.Proofs.Ytijkmbebfodhdaa

/- (OpenN) -/
namespace Go.Proofs.Ytijkmbebfodhdaa
open Go.RowKit
set_option linter.unusedSimpArgs false
set_option linter.unusedVariables false
set_option maxRecDepth 20000
theorem cell_old {w0 w : World} {L : List (Nat × Obj)} (hm : Mem w0 [] L w) {ad : Addr} {v : Value} (h : w0.cell? ad = some v) : w.cell? ad = some v := by
  have hb : ad.block < w0.heap.size := by
    rcases Nat.lt_or_ge ad.block w0.heap.size with h' | h'
    · exact h'
    · simp [World.cell?, Array.getElem?_eq_none h'] at h
  have he := hm.old ad.block hb (by simp)
  simp only [World.cell?] at h ⊢
  rw [he]; exact h
section
variable {P : Program} {ops : Array Oper} {Q : Exit → Act → World → Prop} {rest : List Oper} {a : Act} {w : World} {dst : Option Tmp} {ty : TypeId} {pos : String} {aft : Array Edge} {gd : Option (Nat × Bool)}
theorem wl_loadOld {T : TypeId} {x : Operand} {ad : Addr} {v : Value} {d : TypeDesc} (hw : Region.wanted ⟨dst, .load T x, ty, pos, aft, gd⟩ (yielded ops a.tmps) = true) (hx : a.eval x = .pointer (some ad)) (hcell : w.cell? ad = some v)
    (hu : P.underlying T = some d) (hd : (match d with | .struct _ | .array _ _ => true | _ => false) = false) (h : wpList P ops Q rest (a.put dst v) w) : wpList P ops Q (⟨dst, .load T x, ty, pos, aft, gd⟩ :: rest) a w := by
  have hagg : (isAgg T).run P w = .ok false w := by
    unfold isAgg
    rw [Sem.run_bind, run_underlying hu w]
    cases d <;> simp_all
  have hr : (execOp a.eval ⟨dst, .load T x, ty, pos, aft, gd⟩).run P w = .ok (.value v) w := by
    unfold execOp
    simp [hx, Instr.loadAt, Instr.sureAddr, Sem.run_bind, loadVar, hagg, hcell]
  exact wl_op hw fun K hK => ow_value hr (hK _ _ h)
end
end Go.Proofs.Ytijkmbebfodhdaa

/- (Mem13) -/
namespace Go.Proofs.Ytijkmbebfodhdaa
open Go.RowKit
set_option linter.unusedSimpArgs false
set_option linter.unusedVariables false
section
variable {P : Program} {ops : Array Oper} {Q : Exit → Act → World → Prop} {rest : List Oper} {a : Act} {w0 w : World} {own : List Nat} {L : List (Nat × Obj)}
  {dst : Option Tmp} {ty : TypeId} {pos : String} {aft : Array Edge} {gd : Option (Nat × Bool)}
theorem wlM {T U : TypeId} {x : Operand} {b i off : Nat} {cs cs' : Array Value} {fr : Nat × Nat} {d : TypeDesc} (hw : Region.wanted ⟨dst, .load T x, ty, pos, aft, gd⟩ (yielded ops a.tmps) = true := by rfl) (hm : Mem w0 own L w)
    (hx : a.eval x = .pointer (some ⟨b, off, none⟩) := by rfl) (hL : L[i]? = some (b, .cells cs U fr) := by with_reducible first | exact at0 | exact at1 | exact at2 | exact at3 | exact at4 | exact at5 | exact at6 | exact at7 | exact at8 | exact at9) (hv : ∀ j v, cs'.toList[j]? = some v → cs[off + j]? = some v)
    (hu : P.underlying T = some d) (hd : d.isRow = true := by rfl) (hi : (P.info? T).map (·.size) = some cs'.size)
    (h : wpList P ops Q rest (a.put dst (.agg cs')) w) : wpList P ops Q (⟨dst, .load T x, ty, pos, aft, gd⟩ :: rest) a w :=
  wl_loadMid (vs := cs'.toList) hw hm hL hx hv hu hd (by simpa using hi) (by simpa using h)
theorem ld_mid {T U : TypeId} {x : Operand} {b i off : Nat} {cs cs' : Array Value} {fr : Nat × Nat} {d : TypeDesc} (hx : a.eval x = .pointer (some ⟨b, off, none⟩)) (hL : L[i]? = some (b, .cells cs U fr)) (hv : ∀ j v, cs'.toList[j]? = some v → cs[off + j]? = some v)
    (hu : P.underlying T = some d) (hd : d.isRow = true) (hi : (P.info? T).map (·.size) = some cs'.size) :
    ∀ w, Mem w0 own L w → (execOp a.eval ⟨dst, .load T x, ty, pos, aft, gd⟩).run P w = .ok (.value (.agg cs')) w := fun w hC => by
  have h := run_loadAt_mid (P := P) w b off T cs'.toList d (hC.range hL hv) hu hd (by simpa using hi)
  unfold execOp
  simp only [hx, Sem.run_bind, h, Result.andThen_ok, Sem.run_pure, Array.toArray_toList]
end
section
variable {P : Program} {ops : Array Oper} {Q : Act → Prop} {rest : List Oper} {a : Act} {w0 : World} {own : List Nat} {L : List (Nat × Obj)}
variable {dst : Option Tmp} {ty : TypeId} {pos : String} {aft : Array Edge} {gd : Option (Nat × Bool)}
theorem wqM {T U : TypeId} {x : Operand} {b i off : Nat} {cs cs' : Array Value} {fr : Nat × Nat} {d : TypeDesc} (hw : Region.wanted ⟨dst, .load T x, ty, pos, aft, gd⟩ (yielded ops a.tmps) = true := by rfl)
    (hx : a.eval x = .pointer (some ⟨b, off, none⟩) := by rfl) (hL : L[i]? = some (b, .cells cs U fr) := by with_reducible first | exact at0 | exact at1 | exact at2 | exact at3 | exact at4 | exact at5 | exact at6 | exact at7 | exact at8 | exact at9) (hv : ∀ j v, cs'.toList[j]? = some v → cs[off + j]? = some v)
    (hu : P.underlying T = some d) (hd : d.isRow = true := by rfl) (hi : (P.info? T).map (·.size) = some cs'.size)
    (h : wpQuiet P ops (Mem w0 own L) Q rest (a.put dst (.agg cs'))) : wpQuiet P ops (Mem w0 own L) Q (⟨dst, .load T x, ty, pos, aft, gd⟩ :: rest) a :=
  wq_run hw (ld_mid hx hL hv hu hd hi) h
end
end Go.Proofs.Ytijkmbebfodhdaa

/- (LetB) -/
namespace Go.Proofs.Ytijkmbebfodhdaa
open Go.RowKit
set_option linter.unusedSimpArgs false
set_option linter.unusedVariables false
set_option maxHeartbeats 1000000
set_option maxRecDepth 20000
attribute [local irreducible] wpQuiet wpList wpAnyH Calls
theorem none_c : Says 62 #[] (peerV (-1) 0) := by
  intro w
  go_enter Try.func62, Try.ntmps62
  have hm := Mem.refl w []
  go_wp2_with (with_reducible first | refine stAl ?_ | refine stBo ?_ | refine stLo ?_ | refine stSo ?_ | refine stBu ?_ | refine stBs ?_ | refine stMs ?_ | refine stAp ?_ | refine stCo ?_); refine Stop.go (wl_alloc (by rfl) zeroPeer rfl hm ?_); clear hm; intro b2 w2 hm; simp only [Act.put, k1, k2, k3]; (try simp only [rowOf_set, k1, k2, k3, Value.cells, Act.eval, k7, k8, k9, kA, Option.getD_some] at hm)
  go_wp2_with (with_reducible first | refine stAl ?_ | refine stBo ?_ | refine stLo ?_ | refine stSo ?_ | refine stBu ?_ | refine stBs ?_ | refine stMs ?_ | refine stAp ?_ | refine stCo ?_); refine Stop.go (wl_build (by rfl) (built_none) (by simp [Act.eval]) ?_); simp only [Act.put, k1, k2, k3]
  go_wp2_with (with_reducible first | refine stAl ?_ | refine stBo ?_ | refine stLo ?_ | refine stSo ?_ | refine stBu ?_ | refine stBs ?_ | refine stMs ?_ | refine stAp ?_ | refine stCo ?_); refine Stop.go (wl_store (i := 0) (by rfl) hm rfl rfl rfl (by first | rfl | exact idV_eq _ | exact labV_eq _ _ | exact rectV_eq _ _ _ _ | exact peerV_eq _ _ | exact letV_eq _) (by first | exact sizePeer | (simp only [rowOf_size, idC_size, peerC_size]; exact sizePeer)) (by first | (simp only [rowOf_size, idC_size, peerC_size]; done) | rfl) (by first | exact peerC_one _ _ | rfl | (simp only [List.size_toArray, List.length_cons, List.all_toArray', List.all_cons, List.all_nil, Value.oneCell', Bool.and_true, Bool.and_self]; done) | (simp [Value.oneCell']; done) | exact rowOf_one _ _ (fun _ _ => rfl) | exact idC_one _ | (exact rowOf_one _ _ (by intro i _; repeat (first | rfl | split)))) ?_); clear hm; intro w3 hm; simp only [Act.put, k1, k2, k3]; simp only [rowOf_set, k1, k2, k3, Value.cells, Act.eval, k7, k8, k9, kA, Option.getD_some] at hm
  go_wp2_with ((first | refine wpList_skip (by rfl) ?_ | (refine wlL (hm := hm) (hu := by first | exact undPeer | exact undID) (hi := by (try simp only [rowOf_size, idC_size, peerC_size]); first | exact sizePeer | exact sizeID) (h := ?_); (try simp only [Act.put, k1, k2, k3]); (try simp only [← peerV_eq, ← idV_eq])) | (refine wlM (hm := hm) (hv := by first | exact peer_id _ _) (hu := by first | exact undPeer | exact undID) (hi := by (try simp only [rowOf_size, idC_size, peerC_size]); first | exact sizePeer | exact sizeID) (h := ?_); (try simp only [Act.put, k1, k2, k3]); (try simp only [← peerV_eq, ← idV_eq])) | refine wlLC (hm := hm) (hv := by first | exact peer0 _ _ | rfl) (hu := by first | exact undInt | exact undStr) (h := ?_) | (refine yS (hm := hm) (hi := by (try simp only [rowOf_size, idC_size, peerC_size]); first | exact sizePeer | exact sizeID) (h := ?_); clear hm; intro w1 hm; (try simp only [rowOf_set, k1, k2, k3, Value.cells, Act.eval, k7, k8, k9, kA, Option.getD_some] at hm)) | (refine wlSC (hm := hm) (hi := by first | exact sizeInt | exact sizeStr) (ho := by first | decide | (simp only [rowOf_size, idC_size, peerC_size]; omega) | (simp; done)) (h := ?_); clear hm; intro w1 hm; (try simp only [rowOf_set, k1, k2, k3, Value.cells, Act.eval, k7, k8, k9, kA, Option.getD_some] at hm)) | (refine wlA (hz := by first | exact zeroPeer | exact zeroID) (hm := hm) (h := ?_); clear hm; intro b1 w1 hm; (try simp only [rowOf_set, k1, k2, k3, Value.cells, Act.eval, k7, k8, k9, kA, Option.getD_some] at hm)) | (refine wl_box (by rfl) rfl (by first | exact peerV_cells _ _ | exact letV_cells _ | exact idV_cells _ | rfl) hm ?_; clear hm; intro b1 w1 hm) | (refine wl_build (by rfl) (built_none) rfl ?_; (try simp only [Act.put, k1, k2, k3]); (try simp only [← peerV_eq, ← idV_eq])) | (go_at_call 19; refine (hn _).mono ?_; rintro e w1 ⟨rfl, hx⟩; replace hm := hm.call hx; clear hx) | (with_reducible first | refine stBs ?_ | refine stMs ?_ | refine stAp ?_ | refine stCo ?_)); (try simp only [k4, k5, k6, Act.put, k1, k2, k3]))
  refine bodyPost_ret (results_cell_row (h := rfl) _ _ _ _ _ _ _ rfl (hm.heap (i := 0) rfl) undPeer rfl (by first | exact sizePeer | (simp only [rowOf_size, idC_size, peerC_size]; exact sizePeer))) rfl ?_
  exact ⟨by rw [peerV_eq] <;> rfl, hm.ext⟩
theorem refNone_c : Says 65 #[] (peerV (-1) 0) := by
  intro w
  go_enter Try.func65, Try.ntmps65
  have hm := Mem.refl w []
  go_wp2_with (with_reducible first | refine stAl ?_ | refine stBo ?_ | refine stLo ?_ | refine stSo ?_ | refine stBu ?_ | refine stBs ?_ | refine stMs ?_ | refine stAp ?_ | refine stCo ?_); refine Stop.go (wl_alloc (by rfl) zeroPeer rfl hm ?_); clear hm; intro b2 w2 hm; simp only [Act.put, k1, k2, k3]; (try simp only [rowOf_set, k1, k2, k3, Value.cells, Act.eval, k7, k8, k9, kA, Option.getD_some] at hm)
  go_wp2_with (with_reducible first | refine stAl ?_ | refine stBo ?_ | refine stLo ?_ | refine stSo ?_ | refine stBu ?_ | refine stBs ?_ | refine stMs ?_ | refine stAp ?_ | refine stCo ?_); refine Stop.go (wl_build (by rfl) (built_none) (by simp [Act.eval]) ?_); simp only [Act.put, k1, k2, k3]
  go_wp2_with (with_reducible first | refine stAl ?_ | refine stBo ?_ | refine stLo ?_ | refine stSo ?_ | refine stBu ?_ | refine stBs ?_ | refine stMs ?_ | refine stAp ?_ | refine stCo ?_); refine Stop.go (wl_store (i := 0) (by rfl) hm rfl rfl rfl (by first | rfl | exact idV_eq _ | exact labV_eq _ _ | exact rectV_eq _ _ _ _ | exact peerV_eq _ _ | exact letV_eq _) (by first | exact sizePeer | (simp only [rowOf_size, idC_size, peerC_size]; exact sizePeer)) (by first | (simp only [rowOf_size, idC_size, peerC_size]; done) | rfl) (by first | exact peerC_one _ _ | rfl | (simp only [List.size_toArray, List.length_cons, List.all_toArray', List.all_cons, List.all_nil, Value.oneCell', Bool.and_true, Bool.and_self]; done) | (simp [Value.oneCell']; done) | exact rowOf_one _ _ (fun _ _ => rfl) | exact idC_one _ | (exact rowOf_one _ _ (by intro i _; repeat (first | rfl | split)))) ?_); clear hm; intro w3 hm; simp only [Act.put, k1, k2, k3]; simp only [rowOf_set, k1, k2, k3, Value.cells, Act.eval, k7, k8, k9, kA, Option.getD_some] at hm
  go_wp2_with ((first | refine wpList_skip (by rfl) ?_ | (refine wlL (hm := hm) (hu := by first | exact undPeer | exact undID) (hi := by (try simp only [rowOf_size, idC_size, peerC_size]); first | exact sizePeer | exact sizeID) (h := ?_); (try simp only [Act.put, k1, k2, k3]); (try simp only [← peerV_eq, ← idV_eq])) | (refine wlM (hm := hm) (hv := by first | exact peer_id _ _) (hu := by first | exact undPeer | exact undID) (hi := by (try simp only [rowOf_size, idC_size, peerC_size]); first | exact sizePeer | exact sizeID) (h := ?_); (try simp only [Act.put, k1, k2, k3]); (try simp only [← peerV_eq, ← idV_eq])) | refine wlLC (hm := hm) (hv := by first | exact peer0 _ _ | rfl) (hu := by first | exact undInt | exact undStr) (h := ?_) | (refine yS (hm := hm) (hi := by (try simp only [rowOf_size, idC_size, peerC_size]); first | exact sizePeer | exact sizeID) (h := ?_); clear hm; intro w1 hm; (try simp only [rowOf_set, k1, k2, k3, Value.cells, Act.eval, k7, k8, k9, kA, Option.getD_some] at hm)) | (refine wlSC (hm := hm) (hi := by first | exact sizeInt | exact sizeStr) (ho := by first | decide | (simp only [rowOf_size, idC_size, peerC_size]; omega) | (simp; done)) (h := ?_); clear hm; intro w1 hm; (try simp only [rowOf_set, k1, k2, k3, Value.cells, Act.eval, k7, k8, k9, kA, Option.getD_some] at hm)) | (refine wlA (hz := by first | exact zeroPeer | exact zeroID) (hm := hm) (h := ?_); clear hm; intro b1 w1 hm; (try simp only [rowOf_set, k1, k2, k3, Value.cells, Act.eval, k7, k8, k9, kA, Option.getD_some] at hm)) | (refine wl_box (by rfl) rfl (by first | exact peerV_cells _ _ | exact letV_cells _ | exact idV_cells _ | rfl) hm ?_; clear hm; intro b1 w1 hm) | (refine wl_build (by rfl) (built_none) rfl ?_; (try simp only [Act.put, k1, k2, k3]); (try simp only [← peerV_eq, ← idV_eq])) | (go_at_call 19; refine (hn _).mono ?_; rintro e w1 ⟨rfl, hx⟩; replace hm := hm.call hx; clear hx) | (with_reducible first | refine stBs ?_ | refine stMs ?_ | refine stAp ?_ | refine stCo ?_)); (try simp only [k4, k5, k6, Act.put, k1, k2, k3]))
  refine bodyPost_ret (results_cell_row (h := rfl) _ _ _ _ _ _ _ rfl (hm.heap (i := 0) rfl) undPeer rfl (by first | exact sizePeer | (simp only [rowOf_size, idC_size, peerC_size]; exact sizePeer))) rfl ?_
  exact ⟨by rw [peerV_eq] <;> rfl, hm.ext⟩
/-- A call on a writer. -/
def TakesW (f : FuncId) (args : Array Value) (b : Nat) (s : ByteArray) (v : Value) (r : ByteArray) : Prop :=
  ∀ w, w.heap[b]? = some (.cells #[.string s] 88 (0, 0)) → Calls Try.prog f args w fun e w' => e = .returned v ∧ Mem w [b] [(b, .cells #[.string r] 88 (0, 0))] w'
theorem wNumber_c (b : Nat) (s r : ByteArray) (v : Int) (hn : Says 19 #[.string s, .int .u64 v] (.string r)) : TakesW 59 #[.pointer (some ⟨b, 0, none⟩), .int .u64 v] b s (.tuple #[]) r := by
  intro w hw
  go_enter Try.func59, Try.ntmps59
  have hm := Mem.start hw
  go_wp2_with ((first | refine wpList_skip (by rfl) ?_ | (refine wlL (hm := hm) (hu := by first | exact undPeer | exact undID) (hi := by (try simp only [rowOf_size, idC_size, peerC_size]); first | exact sizePeer | exact sizeID) (h := ?_); (try simp only [Act.put, k1, k2, k3]); (try simp only [← peerV_eq, ← idV_eq])) | (refine wlM (hm := hm) (hv := by first | exact peer_id _ _) (hu := by first | exact undPeer | exact undID) (hi := by (try simp only [rowOf_size, idC_size, peerC_size]); first | exact sizePeer | exact sizeID) (h := ?_); (try simp only [Act.put, k1, k2, k3]); (try simp only [← peerV_eq, ← idV_eq])) | refine wlLC (hm := hm) (hv := by first | exact peer0 _ _ | rfl) (hu := by first | exact undInt | exact undStr) (h := ?_) | (refine yS (hm := hm) (hi := by (try simp only [rowOf_size, idC_size, peerC_size]); first | exact sizePeer | exact sizeID) (h := ?_); clear hm; intro w1 hm; (try simp only [rowOf_set, k1, k2, k3, Value.cells, Act.eval, k7, k8, k9, kA, Option.getD_some] at hm)) | (refine wlSC (hm := hm) (hi := by first | exact sizeInt | exact sizeStr) (ho := by first | decide | (simp only [rowOf_size, idC_size, peerC_size]; omega) | (simp; done)) (h := ?_); clear hm; intro w1 hm; (try simp only [rowOf_set, k1, k2, k3, Value.cells, Act.eval, k7, k8, k9, kA, Option.getD_some] at hm)) | (refine wlA (hz := by first | exact zeroPeer | exact zeroID) (hm := hm) (h := ?_); clear hm; intro b1 w1 hm; (try simp only [rowOf_set, k1, k2, k3, Value.cells, Act.eval, k7, k8, k9, kA, Option.getD_some] at hm)) | (refine wl_box (by rfl) rfl (by first | exact peerV_cells _ _ | exact letV_cells _ | exact idV_cells _ | rfl) hm ?_; clear hm; intro b1 w1 hm) | (refine wl_build (by rfl) (built_none) rfl ?_; (try simp only [Act.put, k1, k2, k3]); (try simp only [← peerV_eq, ← idV_eq])) | (go_at_call 19; refine (hn _).mono ?_; rintro e w1 ⟨rfl, hx⟩; replace hm := hm.call hx; clear hx) | (with_reducible first | refine stBs ?_ | refine stMs ?_ | refine stAp ?_ | refine stCo ?_)); (try simp only [k4, k5, k6, Act.put, k1, k2, k3]))
  go_end0
  exact ⟨rfl, hm⟩
theorem wFlag_c (b : Nat) (s r : ByteArray) (is : Bool) (hn : TakesW 59 #[.pointer (some ⟨b, 0, none⟩), .int .u64 (if is then 1 else 0)] b s (.tuple #[]) r) : TakesW 61 #[.pointer (some ⟨b, 0, none⟩), .bool is] b s (.tuple #[]) r := by
  intro w hw
  cases is with
  | false =>
    rw [if_neg (by decide)] at hn
    go_enter Try.func61, Try.ntmps61
    have hm := Mem.start hw
    go_wp2_with ((first | refine wpList_skip (by rfl) ?_ | (refine wlL (hm := hm) (hu := by first | exact undPeer | exact undID) (hi := by (try simp only [rowOf_size, idC_size, peerC_size]); first | exact sizePeer | exact sizeID) (h := ?_); (try simp only [Act.put, k1, k2, k3]); (try simp only [← peerV_eq, ← idV_eq])) | (refine wlM (hm := hm) (hv := by first | exact peer_id _ _) (hu := by first | exact undPeer | exact undID) (hi := by (try simp only [rowOf_size, idC_size, peerC_size]); first | exact sizePeer | exact sizeID) (h := ?_); (try simp only [Act.put, k1, k2, k3]); (try simp only [← peerV_eq, ← idV_eq])) | refine wlLC (hm := hm) (hv := by first | exact peer0 _ _ | rfl) (hu := by first | exact undInt | exact undStr) (h := ?_) | (refine yS (hm := hm) (hi := by (try simp only [rowOf_size, idC_size, peerC_size]); first | exact sizePeer | exact sizeID) (h := ?_); clear hm; intro w1 hm; (try simp only [rowOf_set, k1, k2, k3, Value.cells, Act.eval, k7, k8, k9, kA, Option.getD_some] at hm)) | (refine wlSC (hm := hm) (hi := by first | exact sizeInt | exact sizeStr) (ho := by first | decide | (simp only [rowOf_size, idC_size, peerC_size]; omega) | (simp; done)) (h := ?_); clear hm; intro w1 hm; (try simp only [rowOf_set, k1, k2, k3, Value.cells, Act.eval, k7, k8, k9, kA, Option.getD_some] at hm)) | (refine wlA (hz := by first | exact zeroPeer | exact zeroID) (hm := hm) (h := ?_); clear hm; intro b1 w1 hm; (try simp only [rowOf_set, k1, k2, k3, Value.cells, Act.eval, k7, k8, k9, kA, Option.getD_some] at hm)) | (refine wl_box (by rfl) rfl (by first | exact peerV_cells _ _ | exact letV_cells _ | exact idV_cells _ | rfl) hm ?_; clear hm; intro b1 w1 hm) | (refine wl_build (by rfl) (built_none) rfl ?_; (try simp only [Act.put, k1, k2, k3]); (try simp only [← peerV_eq, ← idV_eq])) | (go_at_call 59; refine (hn _ (hm.heap (by with_reducible first | exact at0 | exact at1 | exact at2 | exact at3))).mono ?_; rintro e w1 ⟨rfl, hx⟩; replace hm := hm.callAt (by with_reducible first | exact at0 | exact at1 | exact at2 | exact at3) hx; clear hx; simp only [k2, k3] at hm) | (with_reducible first | refine stBs ?_ | refine stMs ?_ | refine stAp ?_ | refine stCo ?_)); (try simp only [k4, k5, k6, Act.put, k1, k2, k3]))
    go_end0
    exact ⟨rfl, hm⟩
  | true =>
    rw [if_pos rfl] at hn
    go_enter Try.func61, Try.ntmps61
    have hm := Mem.start hw
    go_wp2_with ((first | refine wpList_skip (by rfl) ?_ | (refine wlL (hm := hm) (hu := by first | exact undPeer | exact undID) (hi := by (try simp only [rowOf_size, idC_size, peerC_size]); first | exact sizePeer | exact sizeID) (h := ?_); (try simp only [Act.put, k1, k2, k3]); (try simp only [← peerV_eq, ← idV_eq])) | (refine wlM (hm := hm) (hv := by first | exact peer_id _ _) (hu := by first | exact undPeer | exact undID) (hi := by (try simp only [rowOf_size, idC_size, peerC_size]); first | exact sizePeer | exact sizeID) (h := ?_); (try simp only [Act.put, k1, k2, k3]); (try simp only [← peerV_eq, ← idV_eq])) | refine wlLC (hm := hm) (hv := by first | exact peer0 _ _ | rfl) (hu := by first | exact undInt | exact undStr) (h := ?_) | (refine yS (hm := hm) (hi := by (try simp only [rowOf_size, idC_size, peerC_size]); first | exact sizePeer | exact sizeID) (h := ?_); clear hm; intro w1 hm; (try simp only [rowOf_set, k1, k2, k3, Value.cells, Act.eval, k7, k8, k9, kA, Option.getD_some] at hm)) | (refine wlSC (hm := hm) (hi := by first | exact sizeInt | exact sizeStr) (ho := by first | decide | (simp only [rowOf_size, idC_size, peerC_size]; omega) | (simp; done)) (h := ?_); clear hm; intro w1 hm; (try simp only [rowOf_set, k1, k2, k3, Value.cells, Act.eval, k7, k8, k9, kA, Option.getD_some] at hm)) | (refine wlA (hz := by first | exact zeroPeer | exact zeroID) (hm := hm) (h := ?_); clear hm; intro b1 w1 hm; (try simp only [rowOf_set, k1, k2, k3, Value.cells, Act.eval, k7, k8, k9, kA, Option.getD_some] at hm)) | (refine wl_box (by rfl) rfl (by first | exact peerV_cells _ _ | exact letV_cells _ | exact idV_cells _ | rfl) hm ?_; clear hm; intro b1 w1 hm) | (refine wl_build (by rfl) (built_none) rfl ?_; (try simp only [Act.put, k1, k2, k3]); (try simp only [← peerV_eq, ← idV_eq])) | (go_at_call 59; refine (hn _ (hm.heap (by with_reducible first | exact at0 | exact at1 | exact at2 | exact at3))).mono ?_; rintro e w1 ⟨rfl, hx⟩; replace hm := hm.callAt (by with_reducible first | exact at0 | exact at1 | exact at2 | exact at3) hx; clear hx; simp only [k2, k3] at hm) | (with_reducible first | refine stBs ?_ | refine stMs ?_ | refine stAp ?_ | refine stCo ?_)); (try simp only [k4, k5, k6, Act.put, k1, k2, k3]))
    go_end0
    exact ⟨rfl, hm⟩
theorem wPeer_c (b : Nat) (s s1 r : ByteArray) (a : Int) (p : Nat) (v : Int) (hv : IntKind.u64.wrap a = v) (hn : TakesW 59 #[.pointer (some ⟨b, 0, none⟩), .int .u64 v] b s (.tuple #[]) s1)
    (hp : Says 21 #[.string s1, idV p] (.string r)) : TakesW 60 #[.pointer (some ⟨b, 0, none⟩), peerV a p] b s (.tuple #[]) r := by
  intro w hw
  go_enter Try.func60, Try.ntmps60
  have hm := Mem.start hw
  go_wp2_with (with_reducible first | refine stAl ?_ | refine stBo ?_ | refine stLo ?_ | refine stSo ?_ | refine stBu ?_ | refine stBs ?_ | refine stMs ?_ | refine stAp ?_ | refine stCo ?_); refine Stop.go (wl_box (by rfl) rfl (peerV_cells a p) hm ?_); clear hm; intro b2 w2 hm; simp only [Act.put, k1, k2, k3]; (try simp only [rowOf_set, k1, k2, k3, Value.cells, Act.eval, k7, k8, k9, kA, Option.getD_some] at hm)
  go_wp2_with ((first | refine wpList_skip (by rfl) ?_ | (refine wlL (hm := hm) (hu := by first | exact undPeer | exact undID) (hi := by (try simp only [rowOf_size, idC_size, peerC_size]); first | exact sizePeer | exact sizeID) (h := ?_); (try simp only [Act.put, k1, k2, k3]); (try simp only [← peerV_eq, ← idV_eq])) | (refine wlM (hm := hm) (hv := by first | exact peer_id _ _) (hu := by first | exact undPeer | exact undID) (hi := by (try simp only [rowOf_size, idC_size, peerC_size]); first | exact sizePeer | exact sizeID) (h := ?_); (try simp only [Act.put, k1, k2, k3]); (try simp only [← peerV_eq, ← idV_eq])) | refine wlLC (hm := hm) (hv := by first | exact peer0 _ _ | rfl) (hu := by first | exact undInt | exact undStr) (h := ?_) | (refine yS (hm := hm) (hi := by (try simp only [rowOf_size, idC_size, peerC_size]); first | exact sizePeer | exact sizeID) (h := ?_); clear hm; intro w1 hm; (try simp only [rowOf_set, k1, k2, k3, Value.cells, Act.eval, k7, k8, k9, kA, Option.getD_some] at hm)) | (refine wlSC (hm := hm) (hi := by first | exact sizeInt | exact sizeStr) (ho := by first | decide | (simp only [rowOf_size, idC_size, peerC_size]; omega) | (simp; done)) (h := ?_); clear hm; intro w1 hm; (try simp only [rowOf_set, k1, k2, k3, Value.cells, Act.eval, k7, k8, k9, kA, Option.getD_some] at hm)) | (refine wlA (hz := by first | exact zeroPeer | exact zeroID) (hm := hm) (h := ?_); clear hm; intro b1 w1 hm; (try simp only [rowOf_set, k1, k2, k3, Value.cells, Act.eval, k7, k8, k9, kA, Option.getD_some] at hm)) | (refine wl_box (by rfl) rfl (by first | exact peerV_cells _ _ | exact letV_cells _ | exact idV_cells _ | rfl) hm ?_; clear hm; intro b1 w1 hm) | (refine wl_build (by rfl) (built_none) rfl ?_; (try simp only [Act.put, k1, k2, k3]); (try simp only [← peerV_eq, ← idV_eq])) | (go_at_call 59; refine (hn _ (hm.heap (by with_reducible first | exact at0 | exact at1 | exact at2 | exact at3))).mono ?_; rintro e w1 ⟨rfl, hx⟩; replace hm := hm.callAt (by with_reducible first | exact at0 | exact at1 | exact at2 | exact at3) hx; clear hx; simp only [k2, k3] at hm) | (go_at_call 21; refine (hp _).mono ?_; rintro e w1 ⟨rfl, hx⟩; replace hm := hm.call hx; clear hx) | (with_reducible first | refine stBs ?_ | refine stMs ?_ | refine stAp ?_ | refine stCo ?_)); (try simp only [k4, k5, k6, Act.put, k1, k2, k3]))
  go_wp2_with (with_reducible first | refine stAl ?_ | refine stBo ?_ | refine stLo ?_ | refine stSo ?_ | refine stBu ?_ | refine stBs ?_ | refine stMs ?_ | refine stAp ?_ | refine stCo ?_); refine wp_region_held_drew (by kernel_rfl) (hm.erase 1).drew (fun hS => ?_); replace hm := hm.drew
  refine whS (i := 0) (hS := hS) (h := ?_)
  simp only [k4, k5, k6, Act.put, k1, k2, k3]
  refine whS (i := 1) (hS := hS) (h := ?_)
  simp only [k4, k5, k6, Act.put, k1, k2, k3]
  refine whS (i := 2) (hS := hS) (h := ?_)
  simp only [k4, k5, k6, Act.put, k1, k2, k3]
  refine whS (i := 3) (hS := hS) (h := ?_)
  simp only [k4, k5, k6, Act.put, k1, k2, k3]
  refine whS (i := 5) (hS := hS) (h := ?_)
  simp only [k4, k5, k6, Act.put, k1, k2, k3]
  refine whS (i := 6) (hS := hS) (h1 := ld_mid (i := 0) rfl rfl (peer_id _ _) undID rfl (by rw [idC_size]; exact sizeID)) (h := ?_); simp only [k4, k5, k6, Act.put, k1, k2, k3]; simp only [← idV_eq]
  refine wh_one (i := 4) (by kernel_rfl) rfl (by rfl) (fun K' hK => ?_); refine ow_value (ld_cell (i := 1) rfl rfl rfl undStr rfl _ hm) ?_; refine hK.out _ _ hS ?_; clear hK K'; simp only [k4, k5, k6, Act.put, k1, k2, k3]
  refine wh_one (i := 7) (by kernel_rfl) rfl (by rfl) (fun K' hK => ?_); go_simp; refine (hp _).mono ?_; rintro e w7 ⟨rfl, hx⟩; replace hm := hm.call hx; clear hx hS; have hS := hm.erase 1; refine hK.out _ _ hS ?_; clear hK K'; (try simp only [k4, k5, k6, Act.put, k1, k2, k3])
  refine whS (i := 8) (hS := hS) (h := ?_)
  simp only [k4, k5, k6, Act.put, k1, k2, k3]
  refine whS (i := 9) (hS := hS) (h := ?_)
  simp only [k4, k5, k6, Act.put, k1, k2, k3]
  refine wh_one (i := 10) (by kernel_rfl) rfl (by rfl) (fun K' hK => ?_); refine ow_storeCell (i := 1) hm rfl rfl rfl rfl sizeStr (Nat.zero_lt_succ 0) ?_; clear hm hS; intro w8 hm; have hS := hm.erase 1; refine hK.out _ _ hS ?_; clear hK K'; simp only [k4, k5, k6, Act.put, k1, k2, k3]
  refine wpAnyH_done (by kernel_rfl) ?_ _
  go_wp2_with ((first | refine wpList_skip (by rfl) ?_ | (refine wlL (hm := hm) (hu := by first | exact undPeer | exact undID) (hi := by (try simp only [rowOf_size, idC_size, peerC_size]); first | exact sizePeer | exact sizeID) (h := ?_); (try simp only [Act.put, k1, k2, k3]); (try simp only [← peerV_eq, ← idV_eq])) | (refine wlM (hm := hm) (hv := by first | exact peer_id _ _) (hu := by first | exact undPeer | exact undID) (hi := by (try simp only [rowOf_size, idC_size, peerC_size]); first | exact sizePeer | exact sizeID) (h := ?_); (try simp only [Act.put, k1, k2, k3]); (try simp only [← peerV_eq, ← idV_eq])) | refine wlLC (hm := hm) (hv := by first | exact peer0 _ _ | rfl) (hu := by first | exact undInt | exact undStr) (h := ?_) | (refine yS (hm := hm) (hi := by (try simp only [rowOf_size, idC_size, peerC_size]); first | exact sizePeer | exact sizeID) (h := ?_); clear hm; intro w1 hm; (try simp only [rowOf_set, k1, k2, k3, Value.cells, Act.eval, k7, k8, k9, kA, Option.getD_some] at hm)) | (refine wlSC (hm := hm) (hi := by first | exact sizeInt | exact sizeStr) (ho := by first | decide | (simp only [rowOf_size, idC_size, peerC_size]; omega) | (simp; done)) (h := ?_); clear hm; intro w1 hm; (try simp only [rowOf_set, k1, k2, k3, Value.cells, Act.eval, k7, k8, k9, kA, Option.getD_some] at hm)) | (refine wlA (hz := by first | exact zeroPeer | exact zeroID) (hm := hm) (h := ?_); clear hm; intro b1 w1 hm; (try simp only [rowOf_set, k1, k2, k3, Value.cells, Act.eval, k7, k8, k9, kA, Option.getD_some] at hm)) | (refine wl_box (by rfl) rfl (by first | exact peerV_cells _ _ | exact letV_cells _ | exact idV_cells _ | rfl) hm ?_; clear hm; intro b1 w1 hm) | (refine wl_build (by rfl) (built_none) rfl ?_; (try simp only [Act.put, k1, k2, k3]); (try simp only [← peerV_eq, ← idV_eq])) | (go_at_call 59; refine (hn _ (hm.heap (by with_reducible first | exact at0 | exact at1 | exact at2 | exact at3))).mono ?_; rintro e w1 ⟨rfl, hx⟩; replace hm := hm.callAt (by with_reducible first | exact at0 | exact at1 | exact at2 | exact at3) hx; clear hx; simp only [k2, k3] at hm) | (go_at_call 21; refine (hp _).mono ?_; rintro e w1 ⟨rfl, hx⟩; replace hm := hm.call hx; clear hx) | (with_reducible first | refine stBs ?_ | refine stMs ?_ | refine stAp ?_ | refine stCo ?_)); (try simp only [k4, k5, k6, Act.put, k1, k2, k3]))
  go_end0
  exact ⟨rfl, hm.tail⟩
end Go.Proofs.Ytijkmbebfodhdaa

/- (LetC) -/
namespace Go.Proofs.Ytijkmbebfodhdaa
open Go.RowKit
set_option linter.unusedSimpArgs false
set_option linter.unusedVariables false
set_option maxHeartbeats 1000000
set_option maxRecDepth 20000
theorem undIntS : Try.prog.underlying 49 = some (.slice 3) := by kernel_rfl
theorem undPeerS : Try.prog.underlying 61 = some (.slice 60) := by kernel_rfl
theorem sizeIntS : (Try.prog.info? 49).map (·.size) = some 1 := by kernel_rfl
theorem sizePeerS : (Try.prog.info? 61).map (·.size) = some 1 := by kernel_rfl
attribute [local irreducible] wpQuiet wpList wpAnyH Calls
theorem oddP_c (a : Int) (p : Nat) : Says 70 #[peerV a p] (.bool (oddM a)) := by
  intro w
  go_enter Try.func70, Try.ntmps70
  have hm := Mem.refl w []
  go_wp2_with (with_reducible first | refine stAl ?_ | refine stBo ?_ | refine stLo ?_ | refine stSo ?_ | refine stBu ?_ | refine stBs ?_ | refine stMs ?_ | refine stAp ?_ | refine stCo ?_); refine Stop.go (wl_box (by rfl) rfl (peerV_cells a p) hm ?_); clear hm; intro b1 w1 hm; simp only [Act.put, k1, k2, k3]; (try simp only [rowOf_set, k1, k2, k3, Value.cells, Act.eval, k7, k8, k9, kA, Option.getD_some] at hm)
  go_wp2_with ((first | refine wpList_skip (by rfl) ?_ | (refine wlL (hm := hm) (hu := by first | exact undPeer | exact undID) (hi := by (try simp only [rowOf_size, idC_size, peerC_size, letC_size]); first | exact sizePeer | exact sizeID) (h := ?_); (try simp only [Act.put, k1, k2, k3]); (try simp only [← peerV_eq, ← idV_eq])) | refine wlLC (hm := hm) (hv := by first | exact let43 _ | exact let66 _ | exact peer0 _ _ | rfl) (hu := by first | exact undIntS | exact undPeerS | exact undInt) (h := ?_) | (refine yS (hm := hm) (hi := by (try simp only [rowOf_size, idC_size, peerC_size, letC_size]); first | exact sizePeer | exact sizeID) (h := ?_); clear hm; intro w1 hm; (try simp only [rowOf_set, k1, k2, k3, Value.cells, Act.eval, k7, k8, k9, kA, Option.getD_some] at hm)) | (refine wlSC (hm := hm) (hi := by first | exact sizeIntS | exact sizePeerS | exact sizeInt) (ho := by first | decide | (simp only [rowOf_size, idC_size, peerC_size, letC_size]; omega) | (simp; done)) (h := ?_); clear hm; intro w1 hm; (try simp only [rowOf_set, k1, k2, k3, Value.cells, Act.eval, k7, k8, k9, kA, Option.getD_some] at hm)) | (refine wlA (hz := by first | exact zeroPeer | exact zeroID) (hm := hm) (h := ?_); clear hm; intro b1 w1 hm; (try simp only [rowOf_set, k1, k2, k3, Value.cells, Act.eval, k7, k8, k9, kA, Option.getD_some] at hm)) | (refine wl_box (by rfl) rfl (by first | exact peerV_cells _ _ | exact letV_cells _ | exact idV_cells _ | rfl) hm ?_; clear hm; intro b1 w1 hm) | (go_at_call 67; refine (odd_c _ _).mono ?_; rintro e w1 ⟨rfl, hx⟩; replace hm := hm.call hx; clear hx) | (with_reducible first | refine stBs ?_ | refine stMs ?_ | refine stAp ?_ | refine stCo ?_)); (try simp only [k4, k5, k6, Act.put, k1, k2, k3]))
  go_ret
  exact ⟨rfl, hm.ext⟩
end Go.Proofs.Ytijkmbebfodhdaa

/- (LetE) -/
namespace Go.Proofs.Ytijkmbebfodhdaa
open Go.RowKit
set_option linter.unusedSimpArgs false
set_option linter.unusedVariables false
set_option maxHeartbeats 1000000
set_option maxRecDepth 20000
def samePeer (a : Int) (p : Nat) (b : Int) (q : Nat) : Bool := a == b && eqId p q
theorem eqId_iff (p q : Nat) : eqId p q = true ↔ ∀ i, i < 20 → dig p i = dig q i := by
  unfold eqId
  simp only [List.all_eq_true, List.mem_range, beq_iff_eq, Int.natCast_inj]
theorem peer_ext (a : Int) (p : Nat) : (peerC a p).extract 1 (1 + 20) = idC p := by
  apply Array.ext_getElem?
  intro i
  rw [Array.getElem?_extract]
  by_cases hi : i < 20
  · rw [if_pos (by rw [peerC_size]; omega), peerC_eq, rowOf_get _ _ _ (by omega), idC, rowOf_get _ _ i hi]
    unfold peerF
    rw [if_neg (by omega), Nat.add_sub_cancel_left]
  · rw [if_neg (by rw [peerC_size]; omega), Array.getElem?_eq_none (by rw [idC_size]; omega)]
theorem part_addr (a : Int) (p : Nat) (w : World) : (part 3 (peerC a p) 0).run Try.prog w = .ok (.int .i64 a) w := run_part_plain (P := Try.prog) w (by kernel_rfl) (peer0 a p)
theorem part_id (a : Int) (p : Nat) (w : World) : (part 24 (peerC a p) 1).run Try.prog w = .ok (.agg (idC p)) w := by
  have hagg : (isAgg 24).run Try.prog w = .ok true w := by
    unfold isAgg
    rw [Sem.run_bind, run_underlying undID w]
    rfl
  have hsz : (sizeOf 24).run Try.prog w = .ok 20 w := by
    cases hi : Try.prog.info? 24 with
    | none => have := sizeID; simp [hi] at this
    | some i =>
      have := sizeID
      simp [hi] at this
      simp [sizeOf, typeInfo, hi, this]
  unfold part
  simp only [Sem.run_bind, hagg, Result.andThen_ok, if_true, hsz, Sem.run_pure, peer_ext]
noncomputable def pf (i : Nat) : Field := (Try.prog.fieldsOf 60).toList.getD i default
theorem peer_fields : (Try.prog.fieldsOf 60).toList = [pf 0, pf 1] := by kernel_rfl
theorem pf0 : (pf 0).type = 3 ∧ (pf 0).offset = 0 ∧ (pf 0).name ≠ "_" := ⟨by kernel_rfl, by kernel_rfl, by decide +kernel⟩
theorem pf1 : (pf 1).type = 24 ∧ (pf 1).offset = 1 ∧ (pf 1).name ≠ "_" := ⟨by kernel_rfl, by kernel_rfl, by decide +kernel⟩
theorem equal_id (p q : Nat) (w : World) : (Op.equalIn 9999 24 (.agg (idC p)) (.agg (idC q))).run Try.prog w = .ok (eqId p q) w := by
  rw [run_equalInts w 9997 undID undByteI sizeByteI (idC p) (idC q) (fun i => ((dig p i : Nat) : Int)) (fun i => ((dig q i : Nat) : Int)) (fun i hi => ⟨rowOf_get _ _ i hi, rowOf_get _ _ i hi⟩)]
  rfl
theorem run_equalPeer (a : Int) (p : Nat) (b : Int) (q : Nat) (w : World) : (Op.equalIn 10000 60 (.agg (peerC a p)) (.agg (peerC b q))).run Try.prog w = .ok (samePeer a p b q) w := by
  rw [run_equalIn_struct w 9999 _ _ _ (by kernel_rfl) (by kernel_rfl), peer_fields]
  obtain ⟨t0, o0, n0⟩ := pf0
  obtain ⟨t1, o1, n1⟩ := pf1
  have hi := run_equalIn_int (P := Try.prog) w 9998 3 .i64 .i64 a b undInt
  unfold samePeer
  unfold Op.eqFields
  rw [if_pos n0, t0, o0]
  simp only [Sem.run_bind, part_addr, Result.andThen_ok, hi]
  cases hab : a == b with
  | false => simp [Sem.run_pure]
  | true =>
    simp only [Bool.not_true, Bool.false_eq_true, if_false]
    unfold Op.eqFields
    rw [if_pos n1, t1, o1]
    simp only [Sem.run_bind, part_id, Result.andThen_ok, equal_id]
    cases eqId p q with
    | false => simp [Sem.run_pure]
    | true => simp [Op.eqFields, Sem.run_pure]
@[go_sem] theorem run_eqlPeer (a : Int) (p : Nat) (b : Int) (q : Nat) (w : World) : (binOp .eql 60 (peerV a p) (peerV b q)).run Try.prog w = .ok (.bool (samePeer a p b q)) w := by
  rw [peerV_eq, peerV_eq, run_eql_struct, run_equalPeer]; rfl
@[go_sem] theorem run_neqPeer (a : Int) (p : Nat) (b : Int) (q : Nat) (w : World) : (binOp .neq 60 (peerV a p) (peerV b q)).run Try.prog w = .ok (.bool (!samePeer a p b q)) w := by
  rw [peerV_eq, peerV_eq, run_neq_struct, run_equalPeer]; rfl
@[go_sem] theorem run_guardPeer (op : BinOp) (x y : Operand) (a : Int) (p : Nat) (b : Int) (q : Nat) (w : World) : (eqGuard op 60 x y (peerV a p) (peerV b q)).run Try.prog w = .ok () w := by
  rw [peerV_eq, peerV_eq]
  exact run_eqGuard_agg w op _ x y _ _ (by kernel_rfl)
end Go.Proofs.Ytijkmbebfodhdaa

/- (LetI) -/
namespace Go.Proofs.Ytijkmbebfodhdaa
open Go.RowKit
set_option linter.unusedSimpArgs false
set_option linter.unusedVariables false
set_option maxHeartbeats 1000000
set_option maxRecDepth 20000
attribute [local irreducible] wpQuiet wpList wpAnyH Calls
/-- The n ints of a slice are those of z, in the world w. -/
def IntsV (w : World) (c : Option Addr) (n : Nat) (z : Nat → Int) : Prop := ∀ i, i < n → ∃ a : Addr, c = some a ∧ w.cell? (a.add i) = some (.int .i64 (z i))
theorem IntsV.old {w0 w : World} {L : List (Nat × Obj)} {c : Option Addr} {n : Nat} {z : Nat → Int} (h : IntsV w0 c n z) (hm : Mem w0 [] L w) : IntsV w c n z := fun i hi => by
  obtain ⟨a, rfl, hc⟩ := h i hi
  exact ⟨a, rfl, cell_old hm hc⟩
def anyOdd (z : Nat → Int) (n : Nat) : Bool := (List.range n).any fun i => oddM (z i)
theorem anyOdd_true {z : Nat → Int} {n i : Nat} (hi : i < n) (h : oddM (z i) = true) : anyOdd z n = true := by
  unfold anyOdd
  rw [List.any_eq_true]
  exact ⟨i, List.mem_range.2 hi, h⟩
theorem anyOdd_false {z : Nat → Int} {n : Nat} (h : ∀ i, i < n → oddM (z i) = false) : anyOdd z n = false := by
  unfold anyOdd
  rw [List.any_eq_false]
  intro i hi
  rw [h i (List.mem_range.1 hi)]
  decide
theorem indexInt_c (c : Option Addr) (n cap : Nat) (z : Nat → Int) (hn : n < 2 ^ 62) (w : World) (h : IntsV w c n z) :
    Calls Try.prog 85 #[.slice c n cap, .func (.func 67) #[] #[]] w fun e w' => (∃ r : Int, e = .returned (.int .i64 r) ∧ decide (0 ≤ r) = anyOdd z n) ∧ Ext w w' := by
  have HN := hid hn
  have H := hid h
  clear hn h
  go_enter Try.func85, Try.ntmps85
  have hm := Mem.refl w []
  go_wp2_with ((first | refine wpList_skip (by rfl) ?_ | (refine wlL (hm := hm) (hu := by first | exact undPeer | exact undID) (hi := by (try simp only [rowOf_size, idC_size, peerC_size]); first | exact sizePeer | exact sizeID) (h := ?_); (try simp only [Act.put, k1, k2, k3]); (try simp only [← peerV_eq, ← idV_eq])) | refine wlLC (hm := hm) (hu := by first | exact undInt) (h := ?_) | (refine yS (hm := hm) (hi := by (try simp only [rowOf_size, idC_size, peerC_size]); first | exact sizePeer | exact sizeID) (h := ?_); clear hm; intro w1 hm; (try simp only [rowOf_set, k1, k2, k3, Value.cells, Act.eval, k7, k8, k9, kA, Option.getD_some] at hm)) | (refine wlSC (hm := hm) (hi := by first | exact sizeInt) (ho := by first | decide | (simp only [rowOf_size, idC_size, peerC_size]; omega) | (simp; done)) (h := ?_); clear hm; intro w1 hm; (try simp only [rowOf_set, k1, k2, k3, Value.cells, Act.eval, k7, k8, k9, kA, Option.getD_some] at hm)) | (refine wlA (hz := by first | exact zeroPeer | exact zeroID) (hm := hm) (h := ?_); clear hm; intro b1 w1 hm; (try simp only [rowOf_set, k1, k2, k3, Value.cells, Act.eval, k7, k8, k9, kA, Option.getD_some] at hm)) | (refine wl_box (by rfl) rfl (by first | exact peerV_cells _ _ | exact letV_cells _ | exact idV_cells _ | rfl) hm ?_; clear hm; intro b1 w1 hm) | (go_at_call 67; refine (ho _).mono ?_; rintro e w1 ⟨rfl, hx⟩; replace hm := hm.call hx; clear hx) | (with_reducible first | refine stBs ?_ | refine stMs ?_ | refine stAp ?_ | refine stCo ?_)); (try simp only [k4, k5, k6, Act.put, k1, k2, k3]))
  go_loopw [8] (fun vi wr => ∃ i : Nat, i ≤ n ∧ vi = .int .i64 (i : Int) ∧ (∀ j, j < i → oddM (z j) = false) ∧ Mem w [] [] wr)
    (fun vi _ => (n - intOf vi).toNat)
  case atStart => exact ⟨0, by omega, rfl, fun j hj => by omega, hm⟩
  case round =>
    clear hm
    obtain ⟨i, hi, rfl, hlow, hm⟩ := hrel
    by_cases hin : i < n
    · obtain ⟨a, rfl, hcell⟩ := H.out i hin
      have hcell' := cell_old hm hcell
      have e1 : (i : Int) < (n : Int) := by omega
      have e2 : (0 : Int) ≤ (i : Int) := by omega
      have g1 : IntKind.i64.wrap ((i : Int) + 1) = (i : Int) + 1 := wrap_i64 (by have := HN.out; omega) (by have := HN.out; omega)
      have ho := odd_c (z i)
      obtain ⟨q, hq⟩ : ∃ q, oddM (z i) = q := ⟨_, rfl⟩
      rw [hq] at ho
      obtain ⟨y, hy⟩ : ∃ y, z i = y := ⟨_, rfl⟩
      rw [hy] at ho hcell'
      have HQ := hid hq
      have HL := hid hlow
      clear hcell hi hq hy hlow
      go_wp2_with (with_reducible first | refine stAl ?_ | refine stBo ?_ | refine stLo ?_ | refine stSo ?_ | refine stBu ?_ | refine stBs ?_ | refine stMs ?_ | refine stAp ?_ | refine stCo ?_)
      refine Stop.go (wl_loadOld (v := .int .i64 y) (by rfl) rfl (by first | exact hcell' | simpa using hcell') undInt rfl ?_); simp only [Act.put, k1, k2, k3]
      clear hcell'
      cases q with
      | false =>
        go_wp2_with ((first | refine wpList_skip (by rfl) ?_ | (refine wlL (hm := hm) (hu := by first | exact undPeer | exact undID) (hi := by (try simp only [rowOf_size, idC_size, peerC_size]); first | exact sizePeer | exact sizeID) (h := ?_); (try simp only [Act.put, k1, k2, k3]); (try simp only [← peerV_eq, ← idV_eq])) | refine wlLC (hm := hm) (hu := by first | exact undInt) (h := ?_) | (refine yS (hm := hm) (hi := by (try simp only [rowOf_size, idC_size, peerC_size]); first | exact sizePeer | exact sizeID) (h := ?_); clear hm; intro w1 hm; (try simp only [rowOf_set, k1, k2, k3, Value.cells, Act.eval, k7, k8, k9, kA, Option.getD_some] at hm)) | (refine wlSC (hm := hm) (hi := by first | exact sizeInt) (ho := by first | decide | (simp only [rowOf_size, idC_size, peerC_size]; omega) | (simp; done)) (h := ?_); clear hm; intro w1 hm; (try simp only [rowOf_set, k1, k2, k3, Value.cells, Act.eval, k7, k8, k9, kA, Option.getD_some] at hm)) | (refine wlA (hz := by first | exact zeroPeer | exact zeroID) (hm := hm) (h := ?_); clear hm; intro b1 w1 hm; (try simp only [rowOf_set, k1, k2, k3, Value.cells, Act.eval, k7, k8, k9, kA, Option.getD_some] at hm)) | (refine wl_box (by rfl) rfl (by first | exact peerV_cells _ _ | exact letV_cells _ | exact idV_cells _ | rfl) hm ?_; clear hm; intro b1 w1 hm) | (go_at_call 67; refine (ho _).mono ?_; rintro e w1 ⟨rfl, hx⟩; replace hm := hm.call hx; clear hx) | (with_reducible first | refine stBs ?_ | refine stMs ?_ | refine stAp ?_ | refine stCo ?_)); (try simp only [k4, k5, k6, Act.put, k1, k2, k3]))
        go_roundw
        case rel => exact ⟨i + 1, by omega, by go_num, fun j hj => by
          by_cases hji : j = i
          · rw [hji]; exact HQ.out
          · exact HL.out j (by omega), hm⟩
        case measure => (simp [intOf]; try omega)
      | true =>
        go_wp2_with ((first | refine wpList_skip (by rfl) ?_ | (refine wlL (hm := hm) (hu := by first | exact undPeer | exact undID) (hi := by (try simp only [rowOf_size, idC_size, peerC_size]); first | exact sizePeer | exact sizeID) (h := ?_); (try simp only [Act.put, k1, k2, k3]); (try simp only [← peerV_eq, ← idV_eq])) | refine wlLC (hm := hm) (hu := by first | exact undInt) (h := ?_) | (refine yS (hm := hm) (hi := by (try simp only [rowOf_size, idC_size, peerC_size]); first | exact sizePeer | exact sizeID) (h := ?_); clear hm; intro w1 hm; (try simp only [rowOf_set, k1, k2, k3, Value.cells, Act.eval, k7, k8, k9, kA, Option.getD_some] at hm)) | (refine wlSC (hm := hm) (hi := by first | exact sizeInt) (ho := by first | decide | (simp only [rowOf_size, idC_size, peerC_size]; omega) | (simp; done)) (h := ?_); clear hm; intro w1 hm; (try simp only [rowOf_set, k1, k2, k3, Value.cells, Act.eval, k7, k8, k9, kA, Option.getD_some] at hm)) | (refine wlA (hz := by first | exact zeroPeer | exact zeroID) (hm := hm) (h := ?_); clear hm; intro b1 w1 hm; (try simp only [rowOf_set, k1, k2, k3, Value.cells, Act.eval, k7, k8, k9, kA, Option.getD_some] at hm)) | (refine wl_box (by rfl) rfl (by first | exact peerV_cells _ _ | exact letV_cells _ | exact idV_cells _ | rfl) hm ?_; clear hm; intro b1 w1 hm) | (go_at_call 67; refine (ho _).mono ?_; rintro e w1 ⟨rfl, hx⟩; replace hm := hm.call hx; clear hx) | (with_reducible first | refine stBs ?_ | refine stMs ?_ | refine stAp ?_ | refine stCo ?_)); (try simp only [k4, k5, k6, Act.put, k1, k2, k3]))
        go_ret
        exact ⟨⟨(i : Int), rfl, by rw [anyOdd_true hin HQ.out]; exact decide_eq_true (by omega)⟩, hm.ext⟩
    · obtain rfl : i = n := by omega
      have HL := hid hlow
      clear hi hin hlow
      go_wp2_with ((first | refine wpList_skip (by rfl) ?_ | (refine wlL (hm := hm) (hu := by first | exact undPeer | exact undID) (hi := by (try simp only [rowOf_size, idC_size, peerC_size]); first | exact sizePeer | exact sizeID) (h := ?_); (try simp only [Act.put, k1, k2, k3]); (try simp only [← peerV_eq, ← idV_eq])) | refine wlLC (hm := hm) (hu := by first | exact undInt) (h := ?_) | (refine yS (hm := hm) (hi := by (try simp only [rowOf_size, idC_size, peerC_size]); first | exact sizePeer | exact sizeID) (h := ?_); clear hm; intro w1 hm; (try simp only [rowOf_set, k1, k2, k3, Value.cells, Act.eval, k7, k8, k9, kA, Option.getD_some] at hm)) | (refine wlSC (hm := hm) (hi := by first | exact sizeInt) (ho := by first | decide | (simp only [rowOf_size, idC_size, peerC_size]; omega) | (simp; done)) (h := ?_); clear hm; intro w1 hm; (try simp only [rowOf_set, k1, k2, k3, Value.cells, Act.eval, k7, k8, k9, kA, Option.getD_some] at hm)) | (refine wlA (hz := by first | exact zeroPeer | exact zeroID) (hm := hm) (h := ?_); clear hm; intro b1 w1 hm; (try simp only [rowOf_set, k1, k2, k3, Value.cells, Act.eval, k7, k8, k9, kA, Option.getD_some] at hm)) | (refine wl_box (by rfl) rfl (by first | exact peerV_cells _ _ | exact letV_cells _ | exact idV_cells _ | rfl) hm ?_; clear hm; intro b1 w1 hm) | (go_at_call 67; refine (ho _).mono ?_; rintro e w1 ⟨rfl, hx⟩; replace hm := hm.call hx; clear hx) | (with_reducible first | refine stBs ?_ | refine stMs ?_ | refine stAp ?_ | refine stCo ?_)); (try simp only [k4, k5, k6, Act.put, k1, k2, k3]))
      go_ret
      exact ⟨⟨-1, rfl, by rw [anyOdd_false HL.out]; rfl⟩, hm.ext⟩
theorem containsInt_c (c : Option Addr) (n cap : Nat) (z : Nat → Int) (hn : n < 2 ^ 62) (w : World) (h : IntsV w c n z) :
    Calls Try.prog 68 #[.slice c n cap, .func (.func 67) #[] #[]] w fun e w' => e = .returned (.bool (anyOdd z n)) ∧ Ext w w' := by
  have H := hid h
  clear h
  obtain ⟨res, hres⟩ : ∃ res, anyOdd z n = res := ⟨_, rfl⟩
  rw [hres]
  have HRes := hid hres
  clear hres
  go_enter Try.func68, Try.ntmps68
  have hm := Mem.refl w []
  go_wp2_with (with_reducible first | refine stAl ?_ | refine stBo ?_ | refine stLo ?_ | refine stSo ?_ | refine stBu ?_ | refine stBs ?_ | refine stMs ?_ | refine stAp ?_ | refine stCo ?_)
  refine (indexInt_c c n cap z hn _ (H.out.old hm)).mono ?_
  rintro e w2 ⟨⟨r, rfl, hr⟩, hx⟩
  replace hm := hm.call hx
  clear hx
  rw [HRes.out] at hr
  go_wp2_with ((first | refine wpList_skip (by rfl) ?_ | (refine wlL (hm := hm) (hu := by first | exact undPeer | exact undID) (hi := by (try simp only [rowOf_size, idC_size, peerC_size]); first | exact sizePeer | exact sizeID) (h := ?_); (try simp only [Act.put, k1, k2, k3]); (try simp only [← peerV_eq, ← idV_eq])) | refine wlLC (hm := hm) (hu := by first | exact undInt) (h := ?_) | (refine yS (hm := hm) (hi := by (try simp only [rowOf_size, idC_size, peerC_size]); first | exact sizePeer | exact sizeID) (h := ?_); clear hm; intro w1 hm; (try simp only [rowOf_set, k1, k2, k3, Value.cells, Act.eval, k7, k8, k9, kA, Option.getD_some] at hm)) | (refine wlSC (hm := hm) (hi := by first | exact sizeInt) (ho := by first | decide | (simp only [rowOf_size, idC_size, peerC_size]; omega) | (simp; done)) (h := ?_); clear hm; intro w1 hm; (try simp only [rowOf_set, k1, k2, k3, Value.cells, Act.eval, k7, k8, k9, kA, Option.getD_some] at hm)) | (refine wlA (hz := by first | exact zeroPeer | exact zeroID) (hm := hm) (h := ?_); clear hm; intro b1 w1 hm; (try simp only [rowOf_set, k1, k2, k3, Value.cells, Act.eval, k7, k8, k9, kA, Option.getD_some] at hm)) | (refine wl_box (by rfl) rfl (by first | exact peerV_cells _ _ | exact letV_cells _ | exact idV_cells _ | rfl) hm ?_; clear hm; intro b1 w1 hm) | (go_at_call 67; refine (odd_c _ _).mono ?_; rintro e w1 ⟨rfl, hx⟩; replace hm := hm.call hx; clear hx) | (with_reducible first | refine stBs ?_ | refine stMs ?_ | refine stAp ?_ | refine stCo ?_)); (try simp only [k4, k5, k6, Act.put, k1, k2, k3]))
  go_ret
  exact ⟨by first | rfl | rw [← hr] <;> rfl, hm.ext⟩
end Go.Proofs.Ytijkmbebfodhdaa

/- (LetJ) -/
namespace Go.Proofs.Ytijkmbebfodhdaa
open Go.RowKit
set_option linter.unusedSimpArgs false
set_option linter.unusedVariables false
set_option maxHeartbeats 1000000
set_option maxRecDepth 20000
section
variable {P : Program} {ops : Array Oper} {Q : Exit → Act → World → Prop} {rest : List Oper} {a : Act} {w : World} {dst : Option Tmp} {ty : TypeId} {pos : String} {aft : Array Edge} {gd : Option (Nat × Bool)}
theorem ld_oldRow {T : TypeId} {x : Operand} {ad : Addr} {cs : Array Value} {d : TypeDesc} (hx : a.eval x = .pointer (some ad)) (hcell : ∀ j v, cs.toList[j]? = some v → w.cell? (ad.add j) = some v)
    (hu : P.underlying T = some d) (hd : d.isRow = true) (hi : (P.info? T).map (·.size) = some cs.size) : (execOp a.eval ⟨dst, .load T x, ty, pos, aft, gd⟩).run P w = .ok (.value (.agg cs)) w := by
  have hl : (loadCells ad cs.toList.length).run P w = .ok cs.toList.toArray w := run_loadCells_list (P := P) w ad cs.toList hcell
  rw [Array.length_toList, Array.toArray_toList] at hl
  cases hq : P.info? T with
  | none => simp [hq] at hi
  | some i =>
    have hs : i.size = cs.size := by simpa [hq] using hi
    have hagg : (isAgg T).run P w = .ok true w := by
      unfold isAgg
      rw [Sem.run_bind, run_underlying hu w]
      cases d <;> simp_all
    unfold execOp
    simp [hx, Instr.loadAt, Instr.sureAddr, Sem.run_bind, loadVar, hagg, sizeOf, typeInfo, hq, hs, hl]
theorem wl_loadOldRow {T : TypeId} {x : Operand} {ad : Addr} {cs : Array Value} {d : TypeDesc} (hw : Region.wanted ⟨dst, .load T x, ty, pos, aft, gd⟩ (yielded ops a.tmps) = true) (hx : a.eval x = .pointer (some ad)) (hcell : ∀ j v, cs.toList[j]? = some v → w.cell? (ad.add j) = some v)
    (hu : P.underlying T = some d) (hd : d.isRow = true) (hi : (P.info? T).map (·.size) = some cs.size) (h : wpList P ops Q rest (a.put dst (.agg cs)) w) : wpList P ops Q (⟨dst, .load T x, ty, pos, aft, gd⟩ :: rest) a w :=
  wl_op hw fun K hK => ow_value (ld_oldRow hx hcell hu hd hi) (hK _ _ h)
end
/-- The n peers of a slice, in the world w. -/
def PeersV (w : World) (c : Option Addr) (n : Nat) (za : Nat → Int) (zp : Nat → Nat) : Prop := ∀ i, i < n → ∃ a : Addr, c = some a ∧ ∀ j v, (peerC (za i) (zp i)).toList[j]? = some v → w.cell? ((a.add (i * 21)).add j) = some v
theorem PeersV.old {w0 w : World} {L : List (Nat × Obj)} {c : Option Addr} {n : Nat} {za : Nat → Int} {zp : Nat → Nat} (h : PeersV w0 c n za zp) (hm : Mem w0 [] L w) : PeersV w c n za zp := fun i hi => by
  obtain ⟨a, rfl, hc⟩ := h i hi
  exact ⟨a, rfl, fun j v hv => cell_old hm (hc j v hv)⟩
attribute [local irreducible] wpQuiet wpList wpAnyH Calls
theorem indexPeer_c (c : Option Addr) (n cap : Nat) (za : Nat → Int) (zp : Nat → Nat) (hn : n < 2 ^ 62) (w : World) (h : PeersV w c n za zp) :
    Calls Try.prog 86 #[.slice c n cap, .func (.func 70) #[] #[]] w fun e w' => (∃ r : Int, e = .returned (.int .i64 r) ∧ decide (0 ≤ r) = anyOdd za n) ∧ Ext w w' := by
  have HN := hid hn
  have H := hid h
  clear hn h
  go_enter Try.func86, Try.ntmps86
  have hm := Mem.refl w []
  go_wp2_with ((first | refine wpList_skip (by rfl) ?_ | (refine wlL (hm := hm) (hu := by first | exact undPeer | exact undID) (hi := by (try simp only [rowOf_size, idC_size, peerC_size]); first | exact sizePeer | exact sizeID) (h := ?_); (try simp only [Act.put, k1, k2, k3]); (try simp only [← peerV_eq, ← idV_eq])) | refine wlLC (hm := hm) (hu := by first | exact undInt) (h := ?_) | (refine yS (hm := hm) (hi := by (try simp only [rowOf_size, idC_size, peerC_size]); first | exact sizePeer | exact sizeID) (h := ?_); clear hm; intro w1 hm; (try simp only [rowOf_set, k1, k2, k3, Value.cells, Act.eval, k7, k8, k9, kA, Option.getD_some] at hm)) | (refine wlSC (hm := hm) (hi := by first | exact sizeInt) (ho := by first | decide | (simp only [rowOf_size, idC_size, peerC_size]; omega) | (simp; done)) (h := ?_); clear hm; intro w1 hm; (try simp only [rowOf_set, k1, k2, k3, Value.cells, Act.eval, k7, k8, k9, kA, Option.getD_some] at hm)) | (refine wlA (hz := by first | exact zeroPeer | exact zeroID) (hm := hm) (h := ?_); clear hm; intro b1 w1 hm; (try simp only [rowOf_set, k1, k2, k3, Value.cells, Act.eval, k7, k8, k9, kA, Option.getD_some] at hm)) | (refine wl_box (by rfl) rfl (by first | exact peerV_cells _ _ | exact letV_cells _ | exact idV_cells _ | rfl) hm ?_; clear hm; intro b1 w1 hm) | (go_at_call 70; refine (ho _).mono ?_; rintro e w1 ⟨rfl, hx⟩; replace hm := hm.call hx; clear hx) | (with_reducible first | refine stBs ?_ | refine stMs ?_ | refine stAp ?_ | refine stCo ?_)); (try simp only [k4, k5, k6, Act.put, k1, k2, k3]))
  go_loopw [8] (fun vi wr => ∃ i : Nat, i ≤ n ∧ vi = .int .i64 (i : Int) ∧ (∀ j, j < i → oddM (za j) = false) ∧ Mem w [] [] wr)
    (fun vi _ => (n - intOf vi).toNat)
  case atStart => exact ⟨0, by omega, rfl, fun j hj => by omega, hm⟩
  case round =>
    clear hm
    obtain ⟨i, hi, rfl, hlow, hm⟩ := hrel
    by_cases hin : i < n
    · obtain ⟨a, rfl, hcell⟩ := (H.out.old hm) i hin
      have e1 : (i : Int) < (n : Int) := by omega
      have e2 : (0 : Int) ≤ (i : Int) := by omega
      have g1 : IntKind.i64.wrap ((i : Int) + 1) = (i : Int) + 1 := wrap_i64 (by have := HN.out; omega) (by have := HN.out; omega)
      have ho := oddP_c (za i) (zp i)
      obtain ⟨q, hq⟩ : ∃ q, oddM (za i) = q := ⟨_, rfl⟩
      rw [hq] at ho
      obtain ⟨y, hy⟩ : ∃ y, za i = y := ⟨_, rfl⟩
      obtain ⟨x, hx⟩ : ∃ x, zp i = x := ⟨_, rfl⟩
      rw [hy, hx] at ho hcell
      have HQ := hid hq
      have HL := hid hlow
      have HC := hid hcell
      clear hcell hi hq hy hlow hx
      go_wp2_with (with_reducible first | refine stAl ?_ | refine stBo ?_ | refine stLo ?_ | refine stSo ?_ | refine stBu ?_ | refine stBs ?_ | refine stMs ?_ | refine stAp ?_ | refine stCo ?_)
      refine Stop.go (wl_loadOldRow (cs := peerC y x) (by rfl) rfl (by first | exact HC.out | simpa using HC.out) undPeer rfl (by rw [peerC_size]; exact sizePeer) ?_); simp only [Act.put, k1, k2, k3]; simp only [← peerV_eq]
      clear HC
      cases q with
      | false =>
        go_wp2_with ((first | refine wpList_skip (by rfl) ?_ | (refine wlL (hm := hm) (hu := by first | exact undPeer | exact undID) (hi := by (try simp only [rowOf_size, idC_size, peerC_size]); first | exact sizePeer | exact sizeID) (h := ?_); (try simp only [Act.put, k1, k2, k3]); (try simp only [← peerV_eq, ← idV_eq])) | refine wlLC (hm := hm) (hu := by first | exact undInt) (h := ?_) | (refine yS (hm := hm) (hi := by (try simp only [rowOf_size, idC_size, peerC_size]); first | exact sizePeer | exact sizeID) (h := ?_); clear hm; intro w1 hm; (try simp only [rowOf_set, k1, k2, k3, Value.cells, Act.eval, k7, k8, k9, kA, Option.getD_some] at hm)) | (refine wlSC (hm := hm) (hi := by first | exact sizeInt) (ho := by first | decide | (simp only [rowOf_size, idC_size, peerC_size]; omega) | (simp; done)) (h := ?_); clear hm; intro w1 hm; (try simp only [rowOf_set, k1, k2, k3, Value.cells, Act.eval, k7, k8, k9, kA, Option.getD_some] at hm)) | (refine wlA (hz := by first | exact zeroPeer | exact zeroID) (hm := hm) (h := ?_); clear hm; intro b1 w1 hm; (try simp only [rowOf_set, k1, k2, k3, Value.cells, Act.eval, k7, k8, k9, kA, Option.getD_some] at hm)) | (refine wl_box (by rfl) rfl (by first | exact peerV_cells _ _ | exact letV_cells _ | exact idV_cells _ | rfl) hm ?_; clear hm; intro b1 w1 hm) | (go_at_call 70; refine (ho _).mono ?_; rintro e w1 ⟨rfl, hx⟩; replace hm := hm.call hx; clear hx) | (with_reducible first | refine stBs ?_ | refine stMs ?_ | refine stAp ?_ | refine stCo ?_)); (try simp only [k4, k5, k6, Act.put, k1, k2, k3]))
        go_roundw
        case rel => exact ⟨i + 1, by omega, by go_num, fun j hj => by
          by_cases hji : j = i
          · rw [hji]; exact HQ.out
          · exact HL.out j (by omega), hm⟩
        case measure => (simp [intOf]; try omega)
      | true =>
        go_wp2_with ((first | refine wpList_skip (by rfl) ?_ | (refine wlL (hm := hm) (hu := by first | exact undPeer | exact undID) (hi := by (try simp only [rowOf_size, idC_size, peerC_size]); first | exact sizePeer | exact sizeID) (h := ?_); (try simp only [Act.put, k1, k2, k3]); (try simp only [← peerV_eq, ← idV_eq])) | refine wlLC (hm := hm) (hu := by first | exact undInt) (h := ?_) | (refine yS (hm := hm) (hi := by (try simp only [rowOf_size, idC_size, peerC_size]); first | exact sizePeer | exact sizeID) (h := ?_); clear hm; intro w1 hm; (try simp only [rowOf_set, k1, k2, k3, Value.cells, Act.eval, k7, k8, k9, kA, Option.getD_some] at hm)) | (refine wlSC (hm := hm) (hi := by first | exact sizeInt) (ho := by first | decide | (simp only [rowOf_size, idC_size, peerC_size]; omega) | (simp; done)) (h := ?_); clear hm; intro w1 hm; (try simp only [rowOf_set, k1, k2, k3, Value.cells, Act.eval, k7, k8, k9, kA, Option.getD_some] at hm)) | (refine wlA (hz := by first | exact zeroPeer | exact zeroID) (hm := hm) (h := ?_); clear hm; intro b1 w1 hm; (try simp only [rowOf_set, k1, k2, k3, Value.cells, Act.eval, k7, k8, k9, kA, Option.getD_some] at hm)) | (refine wl_box (by rfl) rfl (by first | exact peerV_cells _ _ | exact letV_cells _ | exact idV_cells _ | rfl) hm ?_; clear hm; intro b1 w1 hm) | (go_at_call 70; refine (ho _).mono ?_; rintro e w1 ⟨rfl, hx⟩; replace hm := hm.call hx; clear hx) | (with_reducible first | refine stBs ?_ | refine stMs ?_ | refine stAp ?_ | refine stCo ?_)); (try simp only [k4, k5, k6, Act.put, k1, k2, k3]))
        go_ret
        exact ⟨⟨(i : Int), rfl, by rw [anyOdd_true hin HQ.out]; exact decide_eq_true (by omega)⟩, hm.ext⟩
    · obtain rfl : i = n := by omega
      have HL := hid hlow
      clear hi hin hlow
      go_wp2_with ((first | refine wpList_skip (by rfl) ?_ | (refine wlL (hm := hm) (hu := by first | exact undPeer | exact undID) (hi := by (try simp only [rowOf_size, idC_size, peerC_size]); first | exact sizePeer | exact sizeID) (h := ?_); (try simp only [Act.put, k1, k2, k3]); (try simp only [← peerV_eq, ← idV_eq])) | refine wlLC (hm := hm) (hu := by first | exact undInt) (h := ?_) | (refine yS (hm := hm) (hi := by (try simp only [rowOf_size, idC_size, peerC_size]); first | exact sizePeer | exact sizeID) (h := ?_); clear hm; intro w1 hm; (try simp only [rowOf_set, k1, k2, k3, Value.cells, Act.eval, k7, k8, k9, kA, Option.getD_some] at hm)) | (refine wlSC (hm := hm) (hi := by first | exact sizeInt) (ho := by first | decide | (simp only [rowOf_size, idC_size, peerC_size]; omega) | (simp; done)) (h := ?_); clear hm; intro w1 hm; (try simp only [rowOf_set, k1, k2, k3, Value.cells, Act.eval, k7, k8, k9, kA, Option.getD_some] at hm)) | (refine wlA (hz := by first | exact zeroPeer | exact zeroID) (hm := hm) (h := ?_); clear hm; intro b1 w1 hm; (try simp only [rowOf_set, k1, k2, k3, Value.cells, Act.eval, k7, k8, k9, kA, Option.getD_some] at hm)) | (refine wl_box (by rfl) rfl (by first | exact peerV_cells _ _ | exact letV_cells _ | exact idV_cells _ | rfl) hm ?_; clear hm; intro b1 w1 hm) | (go_at_call 70; refine (ho _).mono ?_; rintro e w1 ⟨rfl, hx⟩; replace hm := hm.call hx; clear hx) | (with_reducible first | refine stBs ?_ | refine stMs ?_ | refine stAp ?_ | refine stCo ?_)); (try simp only [k4, k5, k6, Act.put, k1, k2, k3]))
      go_ret
      exact ⟨⟨-1, rfl, by rw [anyOdd_false HL.out]; rfl⟩, hm.ext⟩
theorem containsPeer_c (c : Option Addr) (n cap : Nat) (za : Nat → Int) (zp : Nat → Nat) (hn : n < 2 ^ 62) (w : World) (h : PeersV w c n za zp) :
    Calls Try.prog 69 #[.slice c n cap, .func (.func 70) #[] #[]] w fun e w' => e = .returned (.bool (anyOdd za n)) ∧ Ext w w' := by
  have H := hid h
  clear h
  obtain ⟨res, hres⟩ : ∃ res, anyOdd za n = res := ⟨_, rfl⟩
  rw [hres]
  have HRes := hid hres
  clear hres
  go_enter Try.func69, Try.ntmps69
  have hm := Mem.refl w []
  go_wp2_with (with_reducible first | refine stAl ?_ | refine stBo ?_ | refine stLo ?_ | refine stSo ?_ | refine stBu ?_ | refine stBs ?_ | refine stMs ?_ | refine stAp ?_ | refine stCo ?_)
  refine (indexPeer_c c n cap za zp hn _ (H.out.old hm)).mono ?_
  rintro e w2 ⟨⟨r, rfl, hr⟩, hx⟩
  replace hm := hm.call hx
  clear hx
  rw [HRes.out] at hr
  go_wp2_with ((first | refine wpList_skip (by rfl) ?_ | (refine wlL (hm := hm) (hu := by first | exact undPeer | exact undID) (hi := by (try simp only [rowOf_size, idC_size, peerC_size]); first | exact sizePeer | exact sizeID) (h := ?_); (try simp only [Act.put, k1, k2, k3]); (try simp only [← peerV_eq, ← idV_eq])) | refine wlLC (hm := hm) (hu := by first | exact undInt) (h := ?_) | (refine yS (hm := hm) (hi := by (try simp only [rowOf_size, idC_size, peerC_size]); first | exact sizePeer | exact sizeID) (h := ?_); clear hm; intro w1 hm; (try simp only [rowOf_set, k1, k2, k3, Value.cells, Act.eval, k7, k8, k9, kA, Option.getD_some] at hm)) | (refine wlSC (hm := hm) (hi := by first | exact sizeInt) (ho := by first | decide | (simp only [rowOf_size, idC_size, peerC_size]; omega) | (simp; done)) (h := ?_); clear hm; intro w1 hm; (try simp only [rowOf_set, k1, k2, k3, Value.cells, Act.eval, k7, k8, k9, kA, Option.getD_some] at hm)) | (refine wlA (hz := by first | exact zeroPeer | exact zeroID) (hm := hm) (h := ?_); clear hm; intro b1 w1 hm; (try simp only [rowOf_set, k1, k2, k3, Value.cells, Act.eval, k7, k8, k9, kA, Option.getD_some] at hm)) | (refine wl_box (by rfl) rfl (by first | exact peerV_cells _ _ | exact letV_cells _ | exact idV_cells _ | rfl) hm ?_; clear hm; intro b1 w1 hm) | (go_at_call 67; refine (odd_c _ _).mono ?_; rintro e w1 ⟨rfl, hx⟩; replace hm := hm.call hx; clear hx) | (with_reducible first | refine stBs ?_ | refine stMs ?_ | refine stAp ?_ | refine stCo ?_)); (try simp only [k4, k5, k6, Act.put, k1, k2, k3]))
  go_ret
  exact ⟨by first | rfl | rw [← hr] <;> rfl, hm.ext⟩
end Go.Proofs.Ytijkmbebfodhdaa

/- (LetK) -/
namespace Go.Proofs.Ytijkmbebfodhdaa
open Go.RowKit
set_option linter.unusedSimpArgs false
set_option linter.unusedVariables false
set_option maxHeartbeats 1000000
set_option maxRecDepth 20000
noncomputable def partFields : Array Field := match Try.prog.underlying 94 with | some (.struct fs) => fs | _ => #[]
theorem undParts : Try.prog.underlying 94 = some (.struct partFields) := by kernel_rfl
theorem sizeParts : (Try.prog.info? 94).map (·.size) = some 6 := by kernel_rfl
theorem zeroParts : (Try.prog.info? 94).bind (·.zero) = some (.agg #[.bool false, .bool false, .bool false, .bool false, .bool false, .bool false]) := by kernel_rfl
/-- The six flags of a number of bits. -/
def flagsV (m : Nat) : Value := .agg #[.bool (m % 2 = 1), .bool (m / 2 % 2 = 1), .bool (m / 4 % 2 = 1), .bool (m / 8 % 2 = 1), .bool (m / 16 % 2 = 1), .bool (m / 32 % 2 = 1)]
attribute [local irreducible] wpQuiet wpList wpAnyH Calls
theorem refOf_c (k : Int) : Says 63 #[.int .i64 k] (flagsV (partsM k)) := by
  intro w
  by_cases h : k = 1 ∨ k = 2 ∨ k = 3 ∨ k = 4 ∨ k = 6 ∨ k = 7 ∨ k = 8
  · rcases h with rfl | rfl | rfl | rfl | rfl | rfl | rfl <;> (
      go_enter Try.func63, Try.ntmps63
      have hm := Mem.refl w []
      go_wp2_with ((first | refine wpList_skip (by rfl) ?_ | (refine wlL (hm := hm) (hu := by first | exact undParts) (hi := by (try simp only [rowOf_size, idC_size, peerC_size]); first | exact sizeParts) (h := ?_); (try simp only [Act.put, k1, k2, k3]); (try simp only [← peerV_eq, ← idV_eq])) | refine wlLC (hm := hm) (hu := by first | exact undInt) (h := ?_) | (refine yS (hm := hm) (hi := by (try simp only [rowOf_size, idC_size, peerC_size]); first | exact sizeParts) (h := ?_); clear hm; intro w1 hm; (try simp only [rowOf_set, k1, k2, k3, Value.cells, Act.eval, k7, k8, k9, kA, Option.getD_some] at hm)) | (refine wlSC (hm := hm) (hi := by first | exact sizeInt) (ho := by first | decide | (simp only [rowOf_size, idC_size, peerC_size]; omega) | (simp; done)) (h := ?_); clear hm; intro w1 hm; (try simp only [rowOf_set, k1, k2, k3, Value.cells, Act.eval, k7, k8, k9, kA, Option.getD_some] at hm)) | (refine wlA (hz := by first | exact zeroParts) (hm := hm) (h := ?_); clear hm; intro b1 w1 hm; (try simp only [rowOf_set, k1, k2, k3, Value.cells, Act.eval, k7, k8, k9, kA, Option.getD_some] at hm)) | (refine wl_box (by rfl) rfl (by first | exact peerV_cells _ _ | exact letV_cells _ | exact idV_cells _ | rfl) hm ?_; clear hm; intro b1 w1 hm) | (go_at_call 67; refine (odd_c _ _).mono ?_; rintro e w1 ⟨rfl, hx⟩; replace hm := hm.call hx; clear hx) | (with_reducible first | refine stBs ?_ | refine stMs ?_ | refine stAp ?_ | refine stCo ?_)); (try simp only [k4, k5, k6, Act.put, k1, k2, k3]))
      refine bodyPost_ret (results_cell_row (h := rfl) _ _ _ _ _ _ _ rfl (hm.heap (i := 0) rfl) undParts rfl (by first | exact sizeParts | (simp only [rowOf_size, idC_size, peerC_size]; exact sizeParts))) rfl ?_
      exact ⟨rfl, hm.ext⟩)
  · have e1 : ¬ k = 1 := by omega
    have e2 : ¬ k = 2 := by omega
    have e3 : ¬ k = 3 := by omega
    have e4 : ¬ k = 4 := by omega
    have e6 : ¬ k = 6 := by omega
    have e7 : ¬ k = 7 := by omega
    have e8 : ¬ k = 8 := by omega
    have hp : partsM k = 0 := by unfold partsM; rw [if_neg e1, if_neg e2, if_neg (by omega), if_neg e4, if_neg e8]
    rw [hp]
    have b1 : (k == 1) = false := by rw [beq_eq_false_iff_ne]; exact e1
    have b2 : (k == 2) = false := by rw [beq_eq_false_iff_ne]; exact e2
    have b3 : (k == 3) = false := by rw [beq_eq_false_iff_ne]; exact e3
    have b4 : (k == 4) = false := by rw [beq_eq_false_iff_ne]; exact e4
    have b6 : (k == 6) = false := by rw [beq_eq_false_iff_ne]; exact e6
    have b7 : (k == 7) = false := by rw [beq_eq_false_iff_ne]; exact e7
    have b8 : (k == 8) = false := by rw [beq_eq_false_iff_ne]; exact e8
    clear h
    go_enter Try.func63, Try.ntmps63
    have hm := Mem.refl w []
    go_wp2_with ((first | refine wpList_skip (by rfl) ?_ | (refine wlL (hm := hm) (hu := by first | exact undParts) (hi := by (try simp only [rowOf_size, idC_size, peerC_size]); first | exact sizeParts) (h := ?_); (try simp only [Act.put, k1, k2, k3]); (try simp only [← peerV_eq, ← idV_eq])) | refine wlLC (hm := hm) (hu := by first | exact undInt) (h := ?_) | (refine yS (hm := hm) (hi := by (try simp only [rowOf_size, idC_size, peerC_size]); first | exact sizeParts) (h := ?_); clear hm; intro w1 hm; (try simp only [rowOf_set, k1, k2, k3, Value.cells, Act.eval, k7, k8, k9, kA, Option.getD_some] at hm)) | (refine wlSC (hm := hm) (hi := by first | exact sizeInt) (ho := by first | decide | (simp only [rowOf_size, idC_size, peerC_size]; omega) | (simp; done)) (h := ?_); clear hm; intro w1 hm; (try simp only [rowOf_set, k1, k2, k3, Value.cells, Act.eval, k7, k8, k9, kA, Option.getD_some] at hm)) | (refine wlA (hz := by first | exact zeroParts) (hm := hm) (h := ?_); clear hm; intro b1 w1 hm; (try simp only [rowOf_set, k1, k2, k3, Value.cells, Act.eval, k7, k8, k9, kA, Option.getD_some] at hm)) | (refine wl_box (by rfl) rfl (by first | exact peerV_cells _ _ | exact letV_cells _ | exact idV_cells _ | rfl) hm ?_; clear hm; intro b1 w1 hm) | (go_at_call 67; refine (odd_c _ _).mono ?_; rintro e w1 ⟨rfl, hx⟩; replace hm := hm.call hx; clear hx) | (with_reducible first | refine stBs ?_ | refine stMs ?_ | refine stAp ?_ | refine stCo ?_)); (try simp only [k4, k5, k6, Act.put, k1, k2, k3]))
    refine bodyPost_ret (results_cell_row (h := rfl) _ _ _ _ _ _ _ rfl (hm.heap (i := 0) rfl) undParts rfl (by first | exact sizeParts | (simp only [rowOf_size, idC_size, peerC_size]; exact sizeParts))) rfl ?_
    exact ⟨rfl, hm.ext⟩
end Go.Proofs.Ytijkmbebfodhdaa
