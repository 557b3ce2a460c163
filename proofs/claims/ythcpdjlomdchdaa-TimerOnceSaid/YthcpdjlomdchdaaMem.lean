/-
  A small symbolic heap for the walks of this claim: 'Mem w0 own L w' says what the world w is like when a call that began in w0 has run for a while. No condition on any program.
-/
import Derived.WalkKit
import Derived.WalkLawsBesides
import Derived.WalkSpells
import Derived.Deep.QuietTactic
import Derived.BigQuiet
import Derived.Deep.MidRow
import Derived.Deep.RegionHeld
import Derived.Lib.Bytealg
import Derived.ChangeKeysEq
namespace Go.Proofs.Ythcpdjlomdchdaa
open Go.RowKit
set_option linter.unusedSimpArgs false
set_option linter.unusedVariables false

/-- The world w, reached from w0: below w0's size only the blocks of 'own' may have turned; the blocks of L hold just what L says. -/
structure Mem (w0 : World) (own : List Nat) (L : List (Nat × Obj)) (w : World) : Prop where
  os : w.os = w0.os
  tape : w.tape = w0.tape
  output : w.output = w0.output
  size : w0.heap.size ≤ w.heap.size
  old : ∀ k, k < w0.heap.size → k ∉ own → w.heap[k]? = w0.heap[k]?
  has : ∀ p, p ∈ L → w.heap[p.1]? = some p.2
  may : ∀ p, p ∈ L → w0.heap.size ≤ p.1 ∨ p.1 ∈ own
  apart : ∀ (i j : Nat) (p q : Nat × Obj), L[i]? = some p → L[j]? = some q → p.1 = q.1 → i = j

/-- Nothing that was there has turned. -/
def Ext (w w' : World) : Prop := Mem w [] [] w'

section
variable {w0 w w' : World} {own : List Nat} {L : List (Nat × Obj)}

theorem Mem.refl (w : World) (own : List Nat) : Mem w own [] w :=
  ⟨rfl, rfl, rfl, Nat.le_refl _, fun _ _ _ => rfl, fun _ h => (List.not_mem_nil h).elim, fun _ h => (List.not_mem_nil h).elim, fun i _ _ _ h => by simp at h⟩
theorem Ext.refl (w : World) : Ext w w := Mem.refl w []

theorem Mem.lt (h : Mem w0 own L w) {p : Nat × Obj} (hp : p ∈ L) : p.1 < w.heap.size := (Array.getElem?_eq_some_iff.1 (h.has p hp)).1

theorem Mem.drawn (h : Mem w0 own L w) (n : Nat) : Mem w0 own L { w with drawn := n } :=
  ⟨h.os, h.tape, h.output, h.size, h.old, h.has, h.may, h.apart⟩
theorem Mem.drew (h : Mem w0 own L w) : Mem w0 own L w.drew := h.drawn _

theorem Mem.alloc (h : Mem w0 own L w) (o : Obj) : Mem w0 own ((w.heap.size, o) :: L) (w.alloc o) := by
  refine ⟨h.os, h.tape, h.output, Nat.le_trans h.size (by simp), fun k hk hn => ?_, fun p hp => ?_, fun p hp => ?_, fun i j p q hi hj e => ?_⟩
  · rw [Below.heap_alloc w o k (Nat.lt_of_lt_of_le hk h.size)]; exact h.old k hk hn
  · rcases List.mem_cons.1 hp with rfl | hp
    · exact heap_alloc_new w o
    · rw [Below.heap_alloc w o p.1 (h.lt hp)]; exact h.has p hp
  · rcases List.mem_cons.1 hp with rfl | hp
    · exact Or.inl h.size
    · exact h.may p hp
  · cases i with
    | zero =>
      cases j with
      | zero => rfl
      | succ j =>
        simp only [List.getElem?_cons_zero, List.getElem?_cons_succ, Option.some.injEq] at hi hj
        have := h.lt (List.mem_of_getElem? hj)
        rw [← e, ← hi] at this
        exact (Nat.lt_irrefl _ this).elim
    | succ i =>
      cases j with
      | zero =>
        simp only [List.getElem?_cons_zero, List.getElem?_cons_succ, Option.some.injEq] at hi hj
        have := h.lt (List.mem_of_getElem? hi)
        rw [e, ← hj] at this
        exact (Nat.lt_irrefl _ this).elim
      | succ j =>
        simp only [List.getElem?_cons_succ] at hi hj
        rw [h.apart i j p q hi hj e]

/-- Block b, which L lists at place i, holds another object now; nothing else has turned. -/
theorem Mem.setObj (h : Mem w0 own L w) {i b : Nat} {o o' : Obj} (hL : L[i]? = some (b, o)) (e1 : w'.os = w.os) (e2 : w'.tape = w.tape) (e3 : w'.output = w.output)
    (e4 : w.heap.size ≤ w'.heap.size) (e5 : ∀ k, k < w.heap.size → k ≠ b → w'.heap[k]? = w.heap[k]?) (e6 : w'.heap[b]? = some o') : Mem w0 own (L.set i (b, o')) w' := by
  have hi : i < L.length := (List.getElem?_eq_some_iff.1 hL).1
  have hmem : (b, o) ∈ L := List.mem_of_getElem? hL
  have hmay : w0.heap.size ≤ b ∨ b ∈ own := h.may _ hmem
  have key : ∀ j p, (L.set i (b, o'))[j]? = some p → (j = i ∧ p = (b, o')) ∨ (j ≠ i ∧ L[j]? = some p) := fun j p hj => by
    rw [List.getElem?_set] at hj
    split at hj
    · rename_i hij
      simp only [hi, if_true, Option.some.injEq] at hj
      exact Or.inl ⟨hij.symm, hj.symm⟩
    · rename_i hij
      exact Or.inr ⟨fun e => hij e.symm, hj⟩
  have far : ∀ j p, j ≠ i → L[j]? = some p → p.1 ≠ b := fun j p hji hj e => hji (h.apart j i p (b, o) hj hL e)
  refine ⟨e1.trans h.os, e2.trans h.tape, e3.trans h.output, Nat.le_trans h.size e4, fun k hk hn => ?_, fun p hp => ?_, fun p hp => ?_, fun j k p q hj hk e => ?_⟩
  · have hkb : k ≠ b := fun e => by
      rcases hmay with hm | hm
      · omega
      · exact hn (by rw [e]; exact hm)
    rw [e5 k (Nat.lt_of_lt_of_le hk h.size) hkb]
    exact h.old k hk hn
  · obtain ⟨j, hj⟩ := List.mem_iff_getElem?.1 hp
    rcases key j p hj with ⟨_, rfl⟩ | ⟨hji, hj⟩
    · exact e6
    · have hpL := List.mem_of_getElem? hj
      rw [e5 p.1 (h.lt hpL) (far j p hji hj)]
      exact h.has p hpL
  · obtain ⟨j, hj⟩ := List.mem_iff_getElem?.1 hp
    rcases key j p hj with ⟨_, rfl⟩ | ⟨hji, hj⟩
    · exact hmay
    · exact h.may p (List.mem_of_getElem? hj)
  · rcases key j p hj with ⟨hji, rfl⟩ | ⟨hji, hj⟩
    · rcases key k q hk with ⟨hki, rfl⟩ | ⟨hki, hk⟩
      · rw [hji, hki]
      · exact (far k q hki hk e.symm).elim
    · rcases key k q hk with ⟨hki, rfl⟩ | ⟨hki, hk⟩
      · exact (far j p hji hj e).elim
      · exact h.apart j k p q hj hk e

theorem Mem.setRow (h : Mem w0 own L w) {i b : Nat} {cs : Array Value} {T : TypeId} {fr : Nat × Nat} (hL : L[i]? = some (b, .cells cs T fr)) (cs' : Array Value) :
    Mem w0 own (L.set i (b, .cells cs' T fr)) (w.setRow b cs') :=
  h.setObj hL rfl rfl rfl (by simp) (fun k _ hk => setRow_other w b k cs' hk) (setRow_heap w b cs cs' T fr (h.has _ (List.mem_of_getElem? hL)))

theorem Mem.setCell (h : Mem w0 own L w) {i b : Nat} {cs : Array Value} {T : TypeId} {fr : Nat × Nat} (hL : L[i]? = some (b, .cells cs T fr)) (off : Nat) (v : Value) :
    Mem w0 own (L.set i (b, .cells (cs.setIfInBounds off v) T fr)) (w.setCell ⟨b, off, none⟩ v) := by
  rw [setCell_eq_setRow w b off cs T fr v (h.has _ (List.mem_of_getElem? hL))]
  exact h.setRow hL _

/-- Behind a callee that has turned nothing that was there. -/
theorem Mem.call (h : Mem w0 own L w) (hx : Ext w w') : Mem w0 own L w' :=
  ⟨hx.os.trans h.os, hx.tape.trans h.tape, hx.output.trans h.output, Nat.le_trans h.size hx.size,
   fun k hk hn => (hx.old k (Nat.lt_of_lt_of_le hk h.size) (by simp)).trans (h.old k hk hn),
   fun p hp => (hx.old p.1 (h.lt hp) (by simp)).trans (h.has p hp), h.may, h.apart⟩

/-- Behind a callee that has turned block b alone. -/
theorem Mem.callOn (h : Mem w0 own L w) {i b : Nat} {o o' : Obj} (hL : L[i]? = some (b, o)) {M : List (Nat × Obj)} (hx : Mem w [b] ((b, o') :: M) w') : Mem w0 own (L.set i (b, o')) w' :=
  h.setObj hL hx.os hx.tape hx.output hx.size (fun k hk hn => hx.old k hk (by simpa using hn)) (hx.has _ (List.mem_cons_self ..))

theorem Mem.tail {p : Nat × Obj} (h : Mem w0 own (p :: L) w) : Mem w0 own L w :=
  ⟨h.os, h.tape, h.output, h.size, h.old, fun q hq => h.has q (List.mem_cons_of_mem _ hq), fun q hq => h.may q (List.mem_cons_of_mem _ hq), fun i j q r hi hj e => by
    have := h.apart (i + 1) (j + 1) q r (by simpa using hi) (by simpa using hj) e
    omega⟩

theorem Mem.erase (h : Mem w0 own L w) (i : Nat) : Mem w0 own (L.eraseIdx i) w := by
  refine ⟨h.os, h.tape, h.output, h.size, h.old, fun q hq => h.has q (List.mem_of_mem_eraseIdx hq), fun q hq => h.may q (List.mem_of_mem_eraseIdx hq), fun j k p q hj hk e => ?_⟩
  rw [List.getElem?_eraseIdx] at hj hk
  split at hj <;> split at hk
  · exact h.apart j k p q hj hk e
  · have := h.apart j (k + 1) p q hj hk e; omega
  · have := h.apart (j + 1) k p q hj hk e; omega
  · have := h.apart (j + 1) (k + 1) p q hj hk e; omega

theorem Mem.nil (h : Mem w0 own L w) : Mem w0 own [] w :=
  ⟨h.os, h.tape, h.output, h.size, h.old, fun _ hq => (List.not_mem_nil hq).elim, fun _ hq => (List.not_mem_nil hq).elim, fun i _ _ _ hi => by simp at hi⟩

theorem Mem.ext (h : Mem w0 [] L w) : Ext w0 w := h.nil

theorem Ext.trans {a b c : World} (h : Ext a b) (k : Ext b c) : Ext a c := Mem.call h k

theorem Ext.below (h : Ext w w') : Below w.heap.size w w' := ⟨h.os, h.tape, h.output, h.size, fun k hk => h.old k hk (by simp)⟩

theorem Mem.heap (h : Mem w0 own L w) {i b : Nat} {o : Obj} (hL : L[i]? = some (b, o)) : w.heap[b]? = some o := h.has _ (List.mem_of_getElem? hL)

theorem Mem.cell (h : Mem w0 own L w) {i b : Nat} {cs : Array Value} {T : TypeId} {fr : Nat × Nat} (hL : L[i]? = some (b, .cells cs T fr)) (j : Nat) : w.cell? ⟨b, j, none⟩ = cs[j]? :=
  cell_of_row w b j cs T fr (h.heap hL)

theorem Mem.free (h : Mem w0 own L w) {i b : Nat} {cs : Array Value} {T : TypeId} (hL : L[i]? = some (b, .cells cs T (0, 0))) (j : Nat) : w.frozen? ⟨b, j, none⟩ = false :=
  frozen_of_row w b j cs T (h.heap hL)
end

theorem hid {p : Prop} (h : p) : Hid p := h
/-- The walk is held here. -/
def Stop (p : Prop) : Prop := p
theorem Stop.mk {p : Prop} (h : Stop p) : p := h
theorem Stop.go {p : Prop} (h : p) : Stop p := h

/-! ### A plain region's operations -/
section
variable {P : Program} {ops : Array Oper} {Q : Exit → Act → World → Prop} {rest : List Oper} {a : Act} {w0 w : World} {own : List Nat} {L : List (Nat × Obj)}
  {dst : Option Tmp} {ty : TypeId} {pos : String} {aft : Array Edge} {gd : Option (Nat × Bool)}

theorem zero_run {T : TypeId} {z : Value} (hz : (P.info? T).bind (·.zero) = some z) (w : World) : (zeroValue T).run P w = .ok z w := by
  cases hi : P.info? T with
  | none => simp [hi] at hz
  | some i =>
    have : i.zero = some z := by simpa [hi] using hz
    simp [zeroValue, typeInfo, hi, this]

theorem wl_op {o : Oper} (hw : Region.wanted o (yielded ops a.tmps) = true) (h : ∀ K : Act → World → Prop, (∀ a w, wpList P ops Q rest a w → K a w) → o.wp P a w K Q) : wpList P ops Q (o :: rest) a w := by
  unfold wpList
  rw [if_pos hw]
  exact .inl (h _ fun _ _ h => h)

theorem wl_alloc {T : TypeId} {z : Value} {cs : Array Value} (hw : Region.wanted ⟨dst, .alloc T, ty, pos, aft, gd⟩ (yielded ops a.tmps) = true) (hz : (P.info? T).bind (·.zero) = some z) (hc : z.cells = cs) (hm : Mem w0 own L w)
    (h : ∀ b w', Mem w0 own ((b, .cells cs T) :: L) w' → wpList P ops Q rest (a.put dst (.pointer (some ⟨b, 0, none⟩))) w') :
    wpList P ops Q (⟨dst, .alloc T, ty, pos, aft, gd⟩ :: rest) a w :=
  wl_op hw fun K hK => by
    unfold Oper.wp execOp
    simp only [Instr.alloc, Sem.run_bind, zero_run hz, Result.andThen_ok, newVar, newRow, hc, run_newObj_alloc, Sem.run_pure, Oper.upon]
    exact hK _ _ (h _ _ (hm.alloc _))

theorem wl_box {T : TypeId} {x : Operand} {v : Value} {cs : Array Value} (hw : Region.wanted ⟨dst, .box T x, ty, pos, aft, gd⟩ (yielded ops a.tmps) = true) (hx : a.eval x = v) (hc : v.cells = cs) (hm : Mem w0 own L w)
    (h : ∀ b w', Mem w0 own ((b, .cells cs T) :: L) w' → wpList P ops Q rest (a.put dst (.pointer (some ⟨b, 0, none⟩))) w') :
    wpList P ops Q (⟨dst, .box T x, ty, pos, aft, gd⟩ :: rest) a w :=
  wl_op hw fun K hK => by
    unfold Oper.wp execOp
    simp only [Instr.box, hx, hc, Sem.run_bind, Result.andThen_ok, newVar, newRow, run_newObj_alloc, Sem.run_pure, Oper.upon]
    exact hK _ _ (h _ _ (hm.alloc _))

theorem wl_load {T U : TypeId} {x : Operand} {b i : Nat} {cs : Array Value} {fr : Nat × Nat} {d : TypeDesc} (hw : Region.wanted ⟨dst, .load T x, ty, pos, aft, gd⟩ (yielded ops a.tmps) = true) (hm : Mem w0 own L w) (hL : L[i]? = some (b, .cells cs U fr)) (hx : a.eval x = .pointer (some ⟨b, 0, none⟩))
    (hu : P.underlying T = some d) (hd : (match d with | .struct _ | .array _ _ => true | _ => false) = true) (hi : (P.info? T).map (·.size) = some cs.size)
    (h : wpList P ops Q rest (a.put dst (.agg cs)) w) : wpList P ops Q (⟨dst, .load T x, ty, pos, aft, gd⟩ :: rest) a w :=
  wl_op hw fun K hK => wp_load_row T x rfl b hx U cs fr d (hm.heap hL) hu hd hi (hK _ _ h)

theorem wl_store {T U : TypeId} {x y : Operand} {v : Value} {b i : Nat} {cs cs' : Array Value} (hw : Region.wanted ⟨dst, .store T x y, ty, pos, aft, gd⟩ (yielded ops a.tmps) = true) (hm : Mem w0 own L w) (hL : L[i]? = some (b, .cells cs U (0, 0))) (hx : a.eval x = .pointer (some ⟨b, 0, none⟩)) (hy : a.eval y = v) (hv : v = .agg cs')
    (hi : (P.info? T).map (·.size) = some cs'.size) (hs : cs.size = cs'.size) (h1 : cs'.all (·.oneCell') = true)
    (h : ∀ w', Mem w0 own (L.set i (b, .cells cs' U (0, 0))) w' → wpList P ops Q rest (a.put dst undef) w') : wpList P ops Q (⟨dst, .store T x y, ty, pos, aft, gd⟩ :: rest) a w :=
  wl_op hw fun K hK => wp_store_row T x y rfl b cs' hx (hy.trans hv) U cs (hm.heap hL) hi hs h1 (hK _ _ (h _ (hm.setRow hL _)))

theorem storeVar_cell {T U : TypeId} {b i off : Nat} {cs : Array Value} {v : Value} (hm : Mem w0 own L w) (hL : L[i]? = some (b, .cells cs U (0, 0))) (ho : off < cs.size) (h1 : v.oneCell' = true)
    (hi : (P.info? T).map (·.size) = some 1) : (storeVar T ⟨b, off, none⟩ v).run P w = .ok () (w.setCell ⟨b, off, none⟩ v) := by
  have hc : v.cells = #[v] := by cases v <;> simp_all [Value.cells, Value.oneCell']
  have hcell : w.cell? ⟨b, off, none⟩ = some cs[off] := by rw [hm.cell hL, Array.getElem?_eq_getElem ho]
  cases hq : P.info? T with
  | none => simp [hq] at hi
  | some it =>
    have hs : it.size = 1 := by simpa [hq] using hi
    simp [storeVar, sizeOf, typeInfo, hc, hq, hs, storeCells, run_store P w _ v _ h1, hcell, hm.free hL, Addr.add]

theorem wl_storeCell {T U : TypeId} {x y : Operand} {b i off : Nat} {cs : Array Value} {v : Value} (hw : Region.wanted ⟨dst, .store T x y, ty, pos, aft, gd⟩ (yielded ops a.tmps) = true) (hm : Mem w0 own L w) (hL : L[i]? = some (b, .cells cs U (0, 0))) (hx : a.eval x = .pointer (some ⟨b, off, none⟩)) (hy : a.eval y = v)
    (h1 : v.oneCell' = true) (hi : (P.info? T).map (·.size) = some 1) (ho : off < cs.size)
    (h : ∀ w', Mem w0 own (L.set i (b, .cells (cs.setIfInBounds off v) U (0, 0))) w' → wpList P ops Q rest (a.put dst undef) w') : wpList P ops Q (⟨dst, .store T x y, ty, pos, aft, gd⟩ :: rest) a w :=
  wl_op hw fun K hK => by
    unfold Oper.wp execOp
    simp only [hx, hy, Instr.storeAt, Instr.sureAddr, Sem.run_bind, Sem.run_pure, Result.andThen_ok, storeVar_cell hm hL ho h1 hi, Oper.upon]
    exact hK _ _ (h _ (hm.setCell hL _ _))

theorem loadVar_cell {T U : TypeId} {b i off : Nat} {cs : Array Value} {v : Value} {fr : Nat × Nat} {d : TypeDesc} (hm : Mem w0 own L w) (hL : L[i]? = some (b, .cells cs U fr)) (hv : cs[off]? = some v)
    (hu : P.underlying T = some d) (hd : (match d with | .struct _ | .array _ _ => true | _ => false) = false) : (loadVar T ⟨b, off, none⟩).run P w = .ok v w := by
  have hagg : (isAgg T).run P w = .ok false w := by
    unfold isAgg
    rw [Sem.run_bind, run_underlying hu w]
    cases d <;> simp_all
  have hcell : w.cell? ⟨b, off, none⟩ = some v := by rw [hm.cell hL, hv]
  simp [loadVar, Sem.run_bind, hagg, hcell]

theorem wl_loadCell {T U : TypeId} {x : Operand} {b i off : Nat} {cs : Array Value} {v : Value} {fr : Nat × Nat} {d : TypeDesc} (hw : Region.wanted ⟨dst, .load T x, ty, pos, aft, gd⟩ (yielded ops a.tmps) = true) (hm : Mem w0 own L w) (hL : L[i]? = some (b, .cells cs U fr)) (hx : a.eval x = .pointer (some ⟨b, off, none⟩))
    (hv : cs[off]? = some v) (hu : P.underlying T = some d) (hd : (match d with | .struct _ | .array _ _ => true | _ => false) = false)
    (h : wpList P ops Q rest (a.put dst v) w) : wpList P ops Q (⟨dst, .load T x, ty, pos, aft, gd⟩ :: rest) a w :=
  wl_op hw fun K hK => by
    unfold Oper.wp execOp
    simp only [hx, Instr.loadAt, Instr.sureAddr, Sem.run_bind, Sem.run_pure, Result.andThen_ok, loadVar_cell hm hL hv hu hd, Oper.upon]
    exact hK _ _ h
end

section
variable {P : Program} {ops : Array Oper} {Q : Exit → Act → World → Prop} {rest : List Oper} {a : Act} {w0 w : World} {own : List Nat} {L : List (Nat × Obj)}
  {dst : Option Tmp} {ty : TypeId} {pos : String} {aft : Array Edge} {gd : Option (Nat × Bool)} {K : Act → World → Prop}

theorem wl_build {T : TypeId} {parts : Array (Nat × Operand)} {ps : List (Nat × Value)} {cells : Array Value} (hw : Region.wanted ⟨dst, .build T parts, ty, pos, aft, gd⟩ (yielded ops a.tmps) = true) (hb : P.built T ps = some cells) (hp : (parts.map fun (i, x) => (i, a.eval x)).toList = ps)
    (h : wpList P ops Q rest (a.put dst (.agg cells)) w) : wpList P ops Q (⟨dst, .build T parts, ty, pos, aft, gd⟩ :: rest) a w :=
  wl_op hw fun K hK => by
    unfold Oper.wp execOp
    simp only [Sem.run_bind, run_build w T _ cells (hp ▸ hb), Result.andThen_ok, Sem.run_pure, Oper.upon]
    exact hK _ _ h

/-! One operation, wherever it stands. -/
theorem ow_store {T U : TypeId} {x y : Operand} {v : Value} {b i : Nat} {cs cs' : Array Value} (hm : Mem w0 own L w) (hL : L[i]? = some (b, .cells cs U (0, 0))) (hx : a.eval x = .pointer (some ⟨b, 0, none⟩)) (hy : a.eval y = v) (hv : v = .agg cs')
    (hi : (P.info? T).map (·.size) = some cs'.size) (hs : cs.size = cs'.size) (h1 : cs'.all (·.oneCell') = true)
    (h : ∀ w', Mem w0 own (L.set i (b, .cells cs' U (0, 0))) w' → K (a.put dst undef) w') : Oper.wp P ⟨dst, .store T x y, ty, pos, aft, gd⟩ a w K Q :=
  wp_store_row T x y rfl b cs' hx (hy.trans hv) U cs (hm.heap hL) hi hs h1 (h _ (hm.setRow hL _))

theorem ow_storeCell {T U : TypeId} {x y : Operand} {b i off : Nat} {cs : Array Value} {v : Value} (hm : Mem w0 own L w) (hL : L[i]? = some (b, .cells cs U (0, 0))) (hx : a.eval x = .pointer (some ⟨b, off, none⟩)) (hy : a.eval y = v)
    (h1 : v.oneCell' = true) (hi : (P.info? T).map (·.size) = some 1) (ho : off < cs.size)
    (h : ∀ w', Mem w0 own (L.set i (b, .cells (cs.setIfInBounds off v) U (0, 0))) w' → K (a.put dst undef) w') : Oper.wp P ⟨dst, .store T x y, ty, pos, aft, gd⟩ a w K Q := by
  unfold Oper.wp execOp
  simp only [hx, hy, Instr.storeAt, Instr.sureAddr, Sem.run_bind, Sem.run_pure, Result.andThen_ok, storeVar_cell hm hL ho h1 hi, Oper.upon]
  exact h _ (hm.setCell hL _ _)

theorem ow_call {f : FuncId} {fn : Func} {args : Array Operand} {ats : Array TypeId} {vs : Array Value} (hf : P.funcs[f]? = some fn) (hn : (fn.name == "runtime.NumGoroutine") = false) (hb : fn.body.isNone = false) (hv : args.map a.eval = vs)
    (h : Calls P f vs w fun
      | .returned v, w'' => K (a.put dst v) w''
      | .panicked chain, w'' => Q (.panic chain) a w''
      | .outgrown, _ => LetsOut Q) : Oper.wp P ⟨dst, .call ⟨.value (.func f), args, ats⟩, ty, pos, aft, gd⟩ a w K Q := by
  have h1 : fn.name ≠ "runtime.NumGoroutine" := by simpa using hn
  have h2 : (execOp a.eval ⟨dst, .call ⟨.value (.func f), args, ats⟩, ty, pos, aft, gd⟩).run P w = .ok (.enter f vs) w := by
    have h3 : fn.body ≠ none := fun h => by simp [h] at hb
    simp [execOp, resolve, Act.eval, Deferred.ofValue, invoke, callFunc, hf, h1, h3, ← hv]
  unfold Oper.wp
  rw [h2]
  exact h

/-! A region that draws its order: what may be taken first in all worlds that S tells; the rest as it comes. -/
variable {S : World → Prop} {md : Region.Mode} {fuel : Nat} {listed : Array Bool} {i : Nat} {oi : Oper}
theorem wh_any (hi : ops[i]? = some oi) (hs : Region.noSelect ops = true) (hf : Region.free md ops listed i = true) (hr : (Region.ready md ops listed).contains i = true)
    (hQ : ∀ c v (a : Act) w, Q (.panic c) (a.put oi.dst v) w → Q (.panic c) a w) (hw : Region.wanted oi (yielded ops a.tmps) = true) (hS : S w)
    (h : ∃ v, (∀ w, S w → (execOp a.eval oi).run P w = .ok (.value v) w) ∧ wpAnyH P md ops Q S fuel (listed.setIfInBounds i true) (a.put oi.dst v) w) : wpAnyH P md ops Q S (fuel + 1) listed a w :=
  let ⟨_, h1, h2⟩ := h
  wpAnyH_take hi hs hf hr (fun _ _ _ h => hQ _ _ _ _ h) (Or.inl ⟨hw, h1⟩) hS h2

theorem wh_skip (hi : ops[i]? = some oi) (hs : Region.noSelect ops = true) (hf : Region.free md ops listed i = true) (hr : (Region.ready md ops listed).contains i = true)
    (hQ : ∀ c v (a : Act) w, Q (.panic c) (a.put oi.dst v) w → Q (.panic c) a w) (hw : Region.wanted oi (yielded ops a.tmps) = false) (hS : S w)
    (h : wpAnyH P md ops Q S fuel (listed.setIfInBounds i true) (a.put oi.dst undef) w) : wpAnyH P md ops Q S (fuel + 1) listed a w :=
  wpAnyH_take hi hs hf hr (fun _ _ _ h => hQ _ _ _ _ h) (Or.inr ⟨hw, rfl⟩) hS h

theorem wh_one (hr : Region.ready md ops listed = [i]) (hi : ops[i]? = some oi) (hw : Region.wanted oi (yielded ops a.tmps) = true)
    (h : ∀ K' : Act → World → Prop, Hid (∀ a w, S w → wpAnyH P md ops Q S fuel (listed.setIfInBounds i true) a w → K' a w) → Oper.wp P oi a w K' Q) : wpAnyH P md ops Q S (fuel + 1) listed a w :=
  wpAnyH_all hr (by simp) fun j hj => by
    have : j = i := by simpa using hj
    subst this
    unfold wpOp
    simp only [hi, hw, if_true]
    exact .inl (h _ fun _ _ h1 h2 => ⟨h1, h2⟩)

theorem ld_row {T U : TypeId} {x : Operand} {b i : Nat} {cs : Array Value} {fr : Nat × Nat} {d : TypeDesc} (hL : L[i]? = some (b, .cells cs U fr)) (hx : a.eval x = .pointer (some ⟨b, 0, none⟩))
    (hu : P.underlying T = some d) (hd : (match d with | .struct _ | .array _ _ => true | _ => false) = true) (hi : (P.info? T).map (·.size) = some cs.size) :
    ∀ w, Mem w0 own L w → (execOp a.eval ⟨dst, .load T x, ty, pos, aft, gd⟩).run P w = .ok (.value (.agg cs)) w := fun w hC => by
  unfold execOp
  simp only [hx, Instr.loadAt, Instr.sureAddr, Sem.run_bind, Sem.run_pure, Result.andThen_ok, run_loadVar_row w b U T cs fr d (hC.heap hL) hu hd hi]

theorem ld_cell {T U : TypeId} {x : Operand} {b i off : Nat} {cs : Array Value} {v : Value} {fr : Nat × Nat} {d : TypeDesc} (hL : L[i]? = some (b, .cells cs U fr)) (hx : a.eval x = .pointer (some ⟨b, off, none⟩)) (hv : cs[off]? = some v)
    (hu : P.underlying T = some d) (hd : (match d with | .struct _ | .array _ _ => true | _ => false) = false) :
    ∀ w, Mem w0 own L w → (execOp a.eval ⟨dst, .load T x, ty, pos, aft, gd⟩).run P w = .ok (.value v) w := fun w hC => by
  unfold execOp
  simp only [hx, Instr.loadAt, Instr.sureAddr, Sem.run_bind, Sem.run_pure, Result.andThen_ok, loadVar_cell hC hL hv hu hd]
end

/-! ### A region that draws its order, all of it quiet in a class of worlds -/
section
variable {P : Program} {ops : Array Oper} {C : World → Prop} {Q : Act → Prop} {rest : List Oper} {a : Act} {o : Oper} {w0 : World} {own : List Nat} {L : List (Nat × Obj)}

theorem wq_skip (hw : Region.wanted o (yielded ops a.tmps) = false) (h : wpQuiet P ops C Q rest (a.put o.dst undef)) : wpQuiet P ops C Q (o :: rest) a := by
  unfold wpQuiet
  rw [hw]
  exact h

theorem wq_at {v : Value} (hw : Region.wanted o (yielded ops a.tmps) = true) (hv : ∀ w, C w → o.quietAt P a C w v) (h : wpQuiet P ops C Q rest (a.put o.dst v)) : wpQuiet P ops C Q (o :: rest) a := by
  unfold wpQuiet
  rw [hw]
  exact ⟨v, hv, h⟩

theorem wq_run {v : Value} (hw : Region.wanted o (yielded ops a.tmps) = true) (hv : ∀ w, C w → (execOp a.eval o).run P w = .ok (.value v) w) (h : wpQuiet P ops C Q rest (a.put o.dst v)) : wpQuiet P ops C Q (o :: rest) a :=
  wq_at hw (fun w hC => by unfold Oper.quietAt; rw [hv w hC]; exact ⟨rfl, rfl⟩) h

theorem wq_any (hw : Region.wanted o (yielded ops a.tmps) = true) (h : ∃ v, (∀ w, C w → (execOp a.eval o).run P w = .ok (.value v) w) ∧ wpQuiet P ops C Q rest (a.put o.dst v)) : wpQuiet P ops C Q (o :: rest) a :=
  let ⟨_, h1, h2⟩ := h
  wq_run hw h1 h2

theorem wq_ask (hw : Region.wanted o (yielded ops a.tmps) = true) (h : ∃ v, (∀ w, C w → o.quietAt P a C w v) ∧ wpQuiet P ops C Q rest (a.put o.dst v)) : wpQuiet P ops C Q (o :: rest) a :=
  let ⟨_, h1, h2⟩ := h
  wq_at hw h1 h2

variable {dst : Option Tmp} {ty : TypeId} {pos : String} {aft : Array Edge} {gd : Option (Nat × Bool)}

theorem wq_load {T U : TypeId} {x : Operand} {b i : Nat} {cs : Array Value} {fr : Nat × Nat} {d : TypeDesc} (hw : Region.wanted ⟨dst, .load T x, ty, pos, aft, gd⟩ (yielded ops a.tmps) = true)
    (hL : L[i]? = some (b, .cells cs U fr)) (hx : a.eval x = .pointer (some ⟨b, 0, none⟩))
    (hu : P.underlying T = some d) (hd : (match d with | .struct _ | .array _ _ => true | _ => false) = true) (hi : (P.info? T).map (·.size) = some cs.size)
    (h : wpQuiet P ops (Mem w0 own L) Q rest (a.put dst (.agg cs))) : wpQuiet P ops (Mem w0 own L) Q (⟨dst, .load T x, ty, pos, aft, gd⟩ :: rest) a :=
  wq_run hw (fun w hC => by
    unfold execOp
    simp only [hx, Instr.loadAt, Instr.sureAddr, Sem.run_bind, Sem.run_pure, Result.andThen_ok, run_loadVar_row w b U T cs fr d (hC.heap hL) hu hd hi]) h

theorem wq_loadCell {T U : TypeId} {x : Operand} {b i off : Nat} {cs : Array Value} {v : Value} {fr : Nat × Nat} {d : TypeDesc} (hw : Region.wanted ⟨dst, .load T x, ty, pos, aft, gd⟩ (yielded ops a.tmps) = true)
    (hL : L[i]? = some (b, .cells cs U fr)) (hx : a.eval x = .pointer (some ⟨b, off, none⟩)) (hv : cs[off]? = some v)
    (hu : P.underlying T = some d) (hd : (match d with | .struct _ | .array _ _ => true | _ => false) = false)
    (h : wpQuiet P ops (Mem w0 own L) Q rest (a.put dst v)) : wpQuiet P ops (Mem w0 own L) Q (⟨dst, .load T x, ty, pos, aft, gd⟩ :: rest) a :=
  wq_run hw (fun w hC => by
    unfold execOp
    simp only [hx, Instr.loadAt, Instr.sureAddr, Sem.run_bind, Sem.run_pure, Result.andThen_ok, loadVar_cell hC hL hv hu hd]) h

theorem wq_build {T : TypeId} {parts : Array (Nat × Operand)} {ps : List (Nat × Value)} {cells : Array Value} (hw : Region.wanted ⟨dst, .build T parts, ty, pos, aft, gd⟩ (yielded ops a.tmps) = true)
    (hb : P.built T ps = some cells) (hp : (parts.map fun (i, x) => (i, a.eval x)).toList = ps)
    (h : wpQuiet P ops C Q rest (a.put dst (.agg cells))) : wpQuiet P ops C Q (⟨dst, .build T parts, ty, pos, aft, gd⟩ :: rest) a :=
  wq_run hw (fun w hC => by
    unfold execOp
    simp only [Sem.run_bind, run_build w T _ cells (hp ▸ hb), Result.andThen_ok, Sem.run_pure]) h

/-- One walk of a region that draws, in the class of the worlds that 'Mem w0 own L' tells. -/
theorem wp_quiet_mem {id : Nat} {Q : Exit → Act → World → Prop} {a : Act} {w : World} {l : List Oper} (hf : P.follows .mixedOrders = true) (hB : Region.lexB .any l.toArray = true) (hm : Mem w0 own L w)
    (h : wpQuiet P l.toArray (Mem w0 own L) (fun a' => ∀ w', Mem w0 own L w' → Q .normal a' w') l a) : (Code.region id l.toArray true).wp P Q a w :=
  wp_region_quiet (C := Mem w0 own L) hf hB (hm.drawn _) (by simpa using h)
end

/-! ### The results -/
section
variable {P : Program}
theorem results_row_tmp {fn : Func} {p q : Tmp} {T : TypeId} (h : fn.results = #[.cell p T, .tmp q]) (tmps : Array Value) (w : World) (g : Nat) (U : TypeId) (cs : Array Value) (fr : Nat × Nat) (d : TypeDesc)
    (hp : tmps.getD p undef = .pointer (some ⟨g, 0, none⟩)) (hg : w.heap[g]? = some (.cells cs U fr))
    (hu : P.underlying T = some d) (hd : (match d with | .struct _ | .array _ _ => true | _ => false) = true) (hi : (P.info? T).map (·.size) = some cs.size) :
    (results fn tmps).run P w = .ok (.tuple #[.agg cs, tmps.getD q undef]) w := by
  have hp' : tmps[p]?.getD undef = .pointer (some ⟨g, 0, none⟩) := by simpa using hp
  simp [results, h, hp', asAddr, run_loadVar_row w g U T cs fr d hg hu hd hi]
end

/-! ### Equality of arrays of integers -/
section
variable {P : Program}
theorem run_eqInts (w : World) (d : Nat) {e : TypeId} {k : IntKind} (hu : P.underlying e = some (.int k)) (xs ys : Array Value) (f g : Nat → Int) : ∀ (is : List Nat),
    (∀ i, i ∈ is → xs[i]? = some (.int k (f i)) ∧ ys[i]? = some (.int k (g i))) → (Op.eqItems (d + 1) e 1 xs ys is).run P w = .ok (is.all fun i => f i == g i) w
  | [], _ => by simp [Op.eqItems]
  | i :: is, h => by
    have he : P.plainKey e = true := by unfold Program.plainKey; rw [hu]
    have p1 := run_part_plain (P := P) w he (off := i * 1) (by rw [Nat.mul_one]; exact (h i (List.mem_cons_self ..)).1)
    have p2 := run_part_plain (P := P) w he (off := i * 1) (by rw [Nat.mul_one]; exact (h i (List.mem_cons_self ..)).2)
    have p3 := run_equalIn_int (P := P) w d e k k (f i) (g i) hu
    have ih := run_eqInts w d hu xs ys f g is fun j hj => h j (List.mem_cons_of_mem _ hj)
    simp only [Op.eqItems, Sem.run_bind, p1, p2, p3, Result.andThen_ok]
    cases hfg : (f i == g i)
    · simp [hfg]
    · simp [hfg, ih]

theorem run_equalInts (w : World) (d : Nat) {t e : TypeId} {n : Nat} {k : IntKind} (ht : P.underlying t = some (.array n e)) (hu : P.underlying e = some (.int k)) (hs : (P.info? e).map (·.size) = some 1)
    (xs ys : Array Value) (f g : Nat → Int) (h : ∀ i, i < n → xs[i]? = some (.int k (f i)) ∧ ys[i]? = some (.int k (g i))) :
    (Op.equalIn (d + 2) t (.agg xs) (.agg ys)).run P w = .ok ((List.range n).all fun i => f i == g i) w := by
  cases hi : P.info? e with
  | none => simp [hi] at hs
  | some it =>
    have hc : P.cellsOf e = 1 := by
      have : it.size = 1 := by simpa [hi] using hs
      simp [Program.cellsOf, hi, this]
    rw [run_equalIn_array w (d + 1) xs ys ht hi, hc]
    exact run_eqInts w d hu xs ys f g _ fun i hi => h i (List.mem_range.1 hi)
end

theorem wrap_u64 {x : Int} (h0 : 0 ≤ x) (h1 : x < 18446744073709551616) : IntKind.u64.wrap x = x := by
  simp only [IntKind.wrap, IntKind.bits, IntKind.signed, Bool.false_and, Bool.true_and, decide_eq_true_eq, Bool.false_eq_true, if_false]; omega
theorem wrap_u32 {x : Int} (h0 : 0 ≤ x) (h1 : x < 4294967296) : IntKind.u32.wrap x = x := by
  simp only [IntKind.wrap, IntKind.bits, IntKind.signed, Bool.false_and, Bool.true_and, decide_eq_true_eq, Bool.false_eq_true, if_false]; omega
theorem wrap_u8 {x : Int} (h0 : 0 ≤ x) (h1 : x < 256) : IntKind.u8.wrap x = x := by
  simp only [IntKind.wrap, IntKind.bits, IntKind.signed, Bool.false_and, Bool.true_and, decide_eq_true_eq, Bool.false_eq_true, if_false]; omega
theorem wrap_i64 {x : Int} (h0 : -9223372036854775808 ≤ x) (h1 : x < 9223372036854775808) : IntKind.i64.wrap x = x := by
  rw [IntKind.wrap_i64]; omega

/-! ### Arrays told by a function of the place -/
@[irreducible] def rowOf (n : Nat) (f : Nat → Value) : Array Value := Array.ofFn (n := n) fun i => f i.1

theorem rowOf_size (n : Nat) (f : Nat → Value) : (rowOf n f).size = n := by unfold rowOf; simp
theorem rowOf_get (n : Nat) (f : Nat → Value) (i : Nat) (h : i < n) : (rowOf n f)[i]? = some (f i) := by unfold rowOf; simp [h]
theorem rowOf_congr {n : Nat} {f g : Nat → Value} (h : ∀ i, i < n → f i = g i) : rowOf n f = rowOf n g := by
  apply Array.ext_getElem?
  intro i
  by_cases hi : i < n
  · rw [rowOf_get n f i hi, rowOf_get n g i hi, h i hi]
  · rw [Array.getElem?_eq_none (by rw [rowOf_size]; omega), Array.getElem?_eq_none (by rw [rowOf_size]; omega)]
theorem rowOf_set (n : Nat) (f : Nat → Value) (i : Nat) (v : Value) : (rowOf n f).setIfInBounds i v = rowOf n (fun j => if j = i then v else f j) := by
  apply Array.ext_getElem?
  intro j
  rw [Array.getElem?_setIfInBounds, rowOf_size]
  by_cases hj : j < n
  · rw [rowOf_get n f j hj, rowOf_get _ _ j hj]
    by_cases hij : i = j
    · subst hij; simp [hj]
    · rw [if_neg hij, if_neg (fun e => hij e.symm)]
  · rw [Array.getElem?_eq_none (by rw [rowOf_size]; omega : (rowOf n f).size ≤ j), Array.getElem?_eq_none (by rw [rowOf_size]; omega)]
    split
    · rename_i h1; rw [if_neg (by omega)]
    · rfl
theorem rowOf_one (n : Nat) (f : Nat → Value) (h : ∀ i, i < n → (f i).oneCell' = true) : (rowOf n f).all (·.oneCell') = true := by
  rw [Array.all_eq_true]
  intro i hi
  have hi' : i < n := by simpa [rowOf_size] using hi
  have := rowOf_get n f i hi'
  rw [Array.getElem?_eq_getElem hi] at this
  rw [Option.some.inj this]
  exact h i hi'
end Go.Proofs.Ythcpdjlomdchdaa
